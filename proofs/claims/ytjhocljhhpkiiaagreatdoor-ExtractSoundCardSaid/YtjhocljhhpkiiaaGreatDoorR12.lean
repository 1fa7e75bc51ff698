/- The laws' trees: inputs that they leave out; a key's way; law15: ProofIsTrue is true; bytes.Equal; the entry of a leaf; find.Get, find.Way; extract.True; Keys in order, by their bits: plain; Keys in order, split at a depth: plain; The items of a tree for some keys: plain; multi: parse, Check; multi: the digest of a subtree; multiproofs: the reference's Skip; multiproofs: the reference's Check; multiproofs: Root; the reference's Digest and Preimage; Multiproofs as the flat lists of their subtrees: plain; key.Split; multi.add; The reference's view of the keys below a prefix; heights, sizes: plain; multiproofs: the reference's Digest and Preimage (joined texts: U51t U52 U140 E15 E16 E17 U63 U64 U65 U66 U67 E18 U70 U71 E19 U68) -/
import Derived.Test.YtjhocljhhpkiiaaGreatDoorR11
import Derived.Laws.IdiomStrings
import Derived.Laws.BytesString
set_option linter.all false
/- U51t -/
namespace Go.Proofs.YtjhocljhhpkiiaaGreatDoor
open Go.RowKit
instance iU51t_1 : TBool Tryz.prog 4 := ⟨Tryz.underlying4⟩
theorem New_no (i : Int) (h : ¬ (0 ≤ i ∧ i ≤ 256)) : Spec Tryz.prog 71 [.int .i64 i].toArray [] [] (fun _ : Unit => .tuple #[.pointer none, .int .i64 4]) (fun _ => []) := by
 refine spec_of Tryz.func71 rfl (n := 15) rfl rfl ?_
 intro W
 by_cases h0 : i < 0
 ·refine h_seq ?_
  refine h_reg ?_
  refine yS rfl ?_
  refine yS rfl ?_
  refine yN ?_
  refine h_seq ?_
  refine yR ?_
  refine yM rfl ?_
  refine h_op (r_bool (r_lss rfl rfl) (decide_eq_true h0)) ?_
  refine yM rfl ?_
  refine h_opOff ?_
  refine h_opOff ?_
  refine h_op (r_pick rfl rfl) ?_
  refine yN ?_
  refine h_condT rfl ?_
  refine yR ?_
  refine yS rfl ?_
  refine yS rfl ?_
  refine yN ?_
  refine h_ret ?_
  refine q_thenR ?_
  exact h_ret2 rfl rfl rfl fun w s => ⟨(), rfl, s.res (List.nil_sublist _) (by simp)⟩
 ·refine h_seq ?_
  refine h_reg ?_
  refine yS rfl ?_
  refine yS rfl ?_
  refine yN ?_
  refine h_seq ?_
  refine yR ?_
  refine yM rfl ?_
  refine h_op (r_bool (r_lss rfl rfl) (decide_eq_false h0)) ?_
  refine yM rfl ?_
  refine yM rfl ?_
  refine h_op (r_bool (r_gtr rfl rfl) (decide_eq_true (by omega))) ?_
  refine h_op (r_pick rfl rfl) ?_
  refine yN ?_
  refine h_condT rfl ?_
  refine yR ?_
  refine yS rfl ?_
  refine yS rfl ?_
  refine yN ?_
  refine h_ret ?_
  refine q_thenR ?_
  exact h_ret2 rfl rfl rfl fun w s => ⟨(), rfl, s.res (List.nil_sublist _) (by simp)⟩
theorem Hash_no (i : Int) (h : ¬ (0 ≤ i ∧ i ≤ 256)) : Spec Tryz.prog 20 [.int .i64 i].toArray [] [] (fun _ : Unit => .pointer none) (fun _ => []) := by
 refine spec_of Tryz.func20 rfl (n := 13) rfl rfl ?_
 intro W
 refine yR ?_
 refine yS rfl ?_
 refine yN ?_
 refine yR ?_
 refine yM rfl ?_
 refine h_call ((New_no i h).comes) rfl rfl rfl fun _ => ?_
 refine yM rfl ?_
 refine h_op (r_extract rfl rfl) ?_
 refine h_op (r_extract rfl rfl) ?_
 refine yS rfl ?_
 refine yS rfl ?_
 refine yN ?_
 refine h_seq ?_
 refine yR ?_
 refine yM rfl ?_
 refine h_op (r_neq rfl rfl) ?_
 refine yN ?_
 refine h_yes rfl ((by decide)) ?_
 refine yR ?_
 refine yS rfl ?_
 refine yN ?_
 refine h_ret ?_
 refine q_thenR ?_
 exact h_ret1 rfl rfl fun w s => ⟨(), rfl, s.res (List.nil_sublist _) (by simp)⟩
theorem Few_long (l : List En) (B : Option Addr) (c : Nat) (hl : 12 < l.length) : Spec Tryz.prog 63 [.slice B l.length c].toArray [.rd B (ents l)] [] (fun _ : Unit => .bool (fewM l)) (fun _ => []) := by
 unfold fewM
 rw [decide_eq_false (by omega), Bool.false_and]
 refine spec_of Tryz.func63 rfl (n := 20) rfl rfl ?_
 intro W
 refine yR ?_
 refine yS rfl ?_
 refine yN ?_
 refine h_seq ?_
 refine yR ?_
 refine yM rfl ?_
 refine h_op (r_len rfl) ?_
 refine h_op (r_gtr rfl rfl) ?_
 refine yN ?_
 refine h_yes rfl ((by omega)) ?_
 refine yR ?_
 refine yS rfl ?_
 refine yN ?_
 refine h_ret ?_
 refine q_thenR ?_
 exact h_ret1 rfl rfl fun w s => ⟨(), rfl, s.res (List.nil_sublist _) (by simp)⟩
theorem Few_any (l : List En) (B : Option Addr) (c : Nat) : Spec Tryz.prog 63 [.slice B l.length c].toArray [.rd B (ents l)] [] (fun _ : Unit => .bool (fewM l)) (fun _ => []) := by
 by_cases hl : 12 < l.length
 ·exact Few_long l B c hl
 ·exact Few_s l B c (by omega)
theorem Tree_bits (i : Int) (hi : ¬ (0 ≤ i ∧ i ≤ 256)) (l : List En) (B : Option Addr) (c : Nat) : Spec Tryz.prog 15 [.int .i64 i, .slice B l.length c].toArray [] [] (fun _ : Unit => .tuple #[.slice none 0 0, .pointer none, .bool false]) (fun _ => []) := by
 refine spec_of Tryz.func15 rfl (n := 27) rfl rfl ?_
 intro W
 refine yR ?_
 refine yS rfl ?_
 refine yS rfl ?_
 refine yS rfl ?_
 refine yN ?_
 refine h_seq ?_
 refine yR ?_
 refine yM rfl ?_
 refine h_call ((Right_no i hi).comes) rfl rfl rfl fun _ => ?_
 refine h_op (r_not rfl) ?_
 refine yM rfl ?_
 refine h_opOff ?_
 refine h_opOff ?_
 refine h_opOff ?_
 refine h_op (r_pick rfl rfl) ?_
 refine yN ?_
 refine h_condT rfl ?_
 refine yR ?_
 refine yS rfl ?_
 refine yS rfl ?_
 refine yS rfl ?_
 refine yN ?_
 refine h_ret ?_
 refine q_thenR ?_
 exact h_ret3 rfl rfl rfl rfl fun w s => ⟨(), rfl, s.res (List.nil_sublist _) (by simp)⟩
theorem Tree_few (n : Nat) (hn : n ≤ 256) (l : List En) (B : Option Addr) (c : Nat) (hf : fewM l = false) : Spec Tryz.prog 15 [.int .i64 (n : Int), .slice B l.length c].toArray [.rd B (ents l)] [] (fun _ : Unit => .tuple #[.slice none 0 0, .pointer none, .bool false]) (fun _ => []) := by
 refine spec_of Tryz.func15 rfl (n := 27) rfl rfl ?_
 intro W
 refine yR ?_
 refine yS rfl ?_
 refine yS rfl ?_
 refine yS rfl ?_
 refine yN ?_
 refine h_seq ?_
 refine yR ?_
 refine yM rfl ?_
 refine h_call ((Right_yes n hn).comes) rfl rfl rfl fun _ => ?_
 refine h_op (r_not rfl) ?_
 refine yM rfl ?_
 refine yM rfl ?_
 refine h_call ((Few_any l B c).comes) rfl rfl rfl fun _ => ?_
 rw [hf]
 refine h_op (r_not rfl) ?_
 refine h_op (r_pick rfl rfl) ?_
 refine yN ?_
 refine h_condT rfl ?_
 refine yR ?_
 refine yS rfl ?_
 refine yS rfl ?_
 refine yS rfl ?_
 refine yN ?_
 refine h_ret ?_
 refine q_thenR ?_
 exact h_ret3 rfl rfl rfl rfl fun w s => ⟨(), rfl, s.res (List.nil_sublist _) (by simp)⟩
def SlsZ (h : Zh) (l : List En) : Prop := ∀ e ∈ l, SlZ h e.e.value e.val
theorem SlsZ.few {h : Zh} {l : List En} (x : SlsZ h l) (hf : fewM l = true) : ValsZ h l := fun e he => by
 unfold fewM at hf
 rw [Bool.and_eq_true, List.all_eq_true] at hf
 have h1 := of_decide_eq_true (hf.2 e he)
 have h2 := (x e he).len
 exact ⟨x e he, by omega⟩
theorem ValsZ.few {h h' : Zh} {l : List En} (x : ValsZ h l) (hl : LeZ h h') : ValsZ h' (ofM l) := (ValsZ.of x).mono hl
structure WayM (key : B32) (m : List En) (D : Nat) : Prop where
 way : WayTo key (mkT m 0) D
 last : (atM key m D).length ≤ 1
 more : ∀ i, i < D → 1 < (atM key m i).length
 on : ∀ i, i ≤ D → wayK key (mkT m 0) i = mkT (atM key m i) i
theorem wayM {key : B32} {m : List En} (h : Alike m 0) : ∃ D, WayM key m D := by
 obtain ⟨D, a, b, c, d, e⟩ := wayTo_mkT (key := key) h
 exact ⟨D, a, c, d, e⟩
end Go.Proofs.YtjhocljhhpkiiaaGreatDoor
/- U52 -/
namespace Go.Proofs.YtjhocljhhpkiiaaGreatDoor
open Go.RowKit
theorem atM_bits {key : B32} {m : List En} : ∀ {D : Nat} {e : En}, e ∈ atM key m D → e ∈ m ∧ ∀ i, i < D → bitAt e.key i = bitAt key i
 | 0, e, h => ⟨h, fun i hi => by omega⟩
 | D + 1, e, h => by
  obtain ⟨h1, h2⟩ := part_mem.1 h
  obtain ⟨h3, h4⟩ := atM_bits h1
  refine ⟨h3, fun i hi => ?_⟩
  rcases Nat.lt_or_ge i D with h5 | h5
  ·exact h4 i h5
  ·obtain rfl : i = D := by omega
   exact h2
theorem atM_key {key : B32} {m : List En} {e : En} (h : e ∈ m) (hk : e.key = key) : ∀ D, e ∈ atM key m D
 | 0 => h
 | D + 1 => part_mem.2 ⟨atM_key h hk D, by rw [hk]⟩
def getE' (m : List En) (key : B32) : Option En := m.find? fun e => decide (e.key = key)
def getV : Option En → List UInt8
 | some e => e.val
 | none => []
def getS : Option En → Sl
 | some e => e.e.value
 | none => ⟨none, 0, 0⟩
theorem getS_ok {h : Zh} {m : List En} (hv : ValsZ h m) (key : B32) : SlZ h (getS (getE' m key)) (getV (getE' m key)) ∧ (getV (getE' m key)).length ≤ 10000000 := by
 cases hg : getE' m key with
 | none => exact ⟨⟨rfl, Nat.le_refl _, fun _ => ⟨rfl, rfl⟩, RdZ.nil _ _⟩, Nat.zero_le _⟩
 | some e => exact hv e (List.mem_of_find?_eq_some hg)
theorem end_get {key : B32} {m : List En} {D : Nat} (hl : (atM key m D).length ≤ 1) : (atM key m D = [] ∧ getE' m key = none) ∨ ∃ e, atM key m D = [e] ∧ (∀ i, i < D → bitAt e.key i = bitAt key i) ∧ ((e.key = key ∧ getE' m key = some e) ∨ (e.key ≠ key ∧ getE' m key = none)) := by
 have hno : ∀ {e : En}, getE' m key = some e → e ∈ atM key m D ∧ e.key = key := fun {e} he => by
  have h2 := List.find?_some he
  have h3 : e.key = key := by simpa using h2
  exact ⟨atM_key (List.mem_of_find?_eq_some he) h3 D, h3⟩
 cases hg : getE' m key with
 | none =>
  match hq : atM key m D, hl with
  | [], _ => exact .inl ⟨rfl, rfl⟩
  | [e], _ =>
   have hm : e ∈ atM key m D := by rw [hq]; simp
   obtain ⟨h1, h2⟩ := atM_bits hm
   refine .inr ⟨e, rfl, h2, .inr ⟨fun hk => ?_, rfl⟩⟩
   have := List.find?_eq_none.1 hg e h1
   simp [hk] at this
  | _ :: _ :: _, hl => exact absurd hl (by simp)
 | some f =>
  obtain ⟨h1, h2⟩ := hno hg
  match hq : atM key m D, hl with
  | [], _ => rw [hq] at h1; cases h1
  | [e], _ =>
   rw [hq] at h1
   obtain rfl : f = e := by simpa using h1
   exact .inr ⟨f, rfl, fun i _ => by rw [h2], .inl ⟨h2, rfl⟩⟩
  | _ :: _ :: _, hl => exact absurd hl (by simp)
theorem find_take {m : List En} {key : B32} {k : Nat} {e : En} (he : m[k]? = some e) (hk : e.key = key) (ha : ∀ f ∈ m.take k, f.key ≠ key) : getE' m key = some e := by
 have e1 : m = m.take k ++ e :: m.drop (k + 1) := by
  have h1 := List.take_append_drop k m
  have hl := (List.getElem?_eq_some_iff.1 he)
  obtain ⟨hl, hx⟩ := hl
  rw [List.drop_eq_getElem_cons hl, hx] at h1
  exact h1.symm
 unfold getE'
 rw [e1, List.find?_append]
 have h2 : (m.take k).find? (fun f => decide (f.key = key)) = none := List.find?_eq_none.2 fun f hf => by simpa using ha f hf
 rw [h2, List.find?_cons_of_pos (by simpa using hk)]
 rfl
theorem Get_s (m : List En) (B : Option Addr) (c : Nat) (key : B32) (hm : m.length ≤ 100000000) : Spec Tryz.prog 60 [.slice B m.length c, .agg key.cells.toArray].toArray [.rd B (ents m)] [] (fun _ : Unit => .tuple #[.slice (getS (getE' m key)).A (getS (getE' m key)).n (getS (getE' m key)).c, .bool (getE' m key).isSome]) (fun _ => []) := by
 refine spec_of Tryz.func60 rfl (n := 25) rfl rfl ?_
 intro W
 refine yR ?_
 refine h_opX (x_box rfl) fun g3 => ?_
 refine yS rfl ?_
 refine yS rfl ?_
 refine yN ?_
 refine h_seq ?_
 refine yR ?_
 refine yS rfl ?_
 refine yN ?_
 refine h_block ?_
 refine h_loop (fun (k : Nat) => k ≤ m.length ∧ ∀ f ∈ m.take k, f.key ≠ key) (fun (k : Nat) => [(6, .int .i64 (k : Int)), (0, .slice B m.length c), (3, .pointer (some ⟨g3, 0, none⟩))]) (fun (k : Nat) => [.blk g3 key.cells 35, .rd B (ents m)]) (fun (k : Nat) => m.length - k) 0 (⟨Nat.zero_le _, fun f hf => by simp at hf⟩) ⟨rfl, rfl, rfl, trivial⟩ (same) ?_
 rintro k ⟨hk, ha⟩
 refine h_seq ?_
 refine yR ?_
 refine yM rfl ?_
 refine yM rfl ?_
 refine h_op (r_len rfl) ?_
 refine h_op (r_lss rfl rfl) ?_
 refine yN ?_
 refine h_cond rfl (fun h => ?_) (fun h => ?_)
 ·obtain ⟨e, he⟩ := getE (l := m) (k := k) (by omega)
  refine h_pure (φ := ∃ b o, B = some ⟨b, o, none⟩) (fun w s => Rd.some (s.ok (.rd B (ents m)) (by simp)) (by rw [ents_len]; omega)) ?_
  rintro ⟨bb, o, rfl⟩
  refine h_skip ?_
  refine q_then ?_
  refine h_seq ?_
  refine h_block ?_
  refine h_seq ?_
  refine ha_start [.blk g3 key.cells 35, .rd (some ⟨bb, o, none⟩) (ents m)] [] mixed (same) ?_
  refine ha_takeP 0 rfl (r_move rfl) ?_
  refine ha_takeP 1 rfl (r_move rfl) ?_
  refine ha_takeP 2 rfl (r_idx rfl rfl) ?_
  refine ha_takeP 3 rfl (r_field rfl) ?_
  refine ha_take 4 rfl (r_nthr rfl (out := e.key.cells) (B32.cells_length _) (ents_key he)) ?_
  refine ha_take 5 rfl (r_loadr rfl) ?_
  refine ha_takeP 6 rfl (r_eqr rfl rfl) ?_
  refine ha_done (by kernel_rfl) ?_
  refine q_then ?_
  refine h_cond rfl (fun h2 => ?_) (fun h2 => ?_)
  ·rw [find_take he (by simpa using h2) ha]
   refine yR ?_
   refine yM rfl ?_
   refine yM rfl ?_
   refine h_op (r_idx rfl rfl) ?_
   refine h_op (r_field rfl (O' := o + (k * 33 + 32)) (by omega)) ?_
   refine h_op (r_nth rfl (ents_val he)) ?_
   refine yS rfl ?_
   refine yS rfl ?_
   refine yN ?_
   refine h_ret ?_
   refine q_blockR ?_
   refine q_thenR ?_
   refine q_thenR ?_
   refine q_blockR ?_
   refine q_thenR ?_
   exact h_ret2 rfl rfl rfl fun w s => ⟨(), rfl, s.res (List.nil_sublist _) (by simp)⟩
  ·have ha2 : ∀ f ∈ m.take (k + 1), f.key ≠ key := fun f hf => by
    rw [take_snocE he] at hf
    rcases List.mem_append.1 hf with hf | hf
    ·exact ha f hf
    ·rw [List.mem_singleton.1 hf]; simpa using h2
   refine h_skip ?_
   refine q_block ?_
   refine q_then ?_
   refine h_reg ?_
   refine yM rfl ?_
   refine h_op (r_add rfl rfl) ?_
   refine yS rfl ?_
   refine h_nil ?_
   exact h_back (k + 1) (⟨by omega, ha2⟩) (by omega) ⟨rfl, rfl, rfl, trivial⟩ (same)
 ·obtain rfl : k = m.length := by omega
  rw [List.take_length] at ha
  have : getE' m key = none := List.find?_eq_none.2 fun f hf => by simpa using ha f hf
  rw [this]
  refine h_exit ?_
  refine q_thenE ?_
  refine q_thenE ?_
  refine q_blockE ?_
  refine q_then ?_
  refine yR ?_
  refine yS rfl ?_
  refine yS rfl ?_
  refine yN ?_
  refine h_ret ?_
  exact h_ret2 rfl rfl rfl fun w s => ⟨(), rfl, s.res (List.nil_sublist _) (by simp)⟩
end Go.Proofs.YtjhocljhhpkiiaaGreatDoor
/- U140 -/
namespace Go.Proofs.YtjhocljhhpkiiaaGreatDoor
open Go.RowKit
class TBS (P : Program) (T T' : TypeId) : Prop where
 ok : ∃ e, P.underlying T = some (.slice e) ∧ P.underlying e = some (.int .u8) ∧ P.underlying T' = some .string
theorem r_cvBS {P : Program} {n : Nat} {D : List Deferred} {E : Env} {L : List Fa} {T T' : TypeId} {x : Operand} {A : Option Addr} {l : List UInt8} {c : Nat} [h : TBS P T T'] (hx : ev E x = some (.slice A l.length c)) [hA : Rd1 L (.rd A (bc l))] : Runs0 P n D E L (.convert T T' x) (.string ⟨l.toArray⟩) := fun act w ka s o ho => by
 obtain ⟨e, h1, h2, h3⟩ := h.ok
 have hr := (hA.ok s).2.1
 have hrun : (convert T T' (.slice A l.length c)).run P w = .ok (.string ⟨l.toArray⟩) w := by
  cases A with
  | none =>
   have : l = [] := by
    cases l with
    | nil => rfl
    | cons x l => obtain ⟨b, o, e, _⟩ := hr 0 (.int .u8 x.toNat) rfl; cases e
   subst this
   rw [run_convert_bytes_string w T T' e none [].length c h1 h2 h3]
   rfl
  | some a =>
   refine run_convert_bytes_back w T T' e a c l h1 h2 h3 fun j hj => ?_
   have hj' : (bc l)[j]? = some (.int .u8 (l[j].toNat : Int)) := by simp [bc, hj]
   obtain ⟨b, o, e, h2⟩ := hr j _ hj'
   injection e with e
   subst e
   rw [Addr.add_mid]
   exact h2
 unfold execOp
 simp only [ho, ka.ev hx, Sem.run_bind, hrun, Result.andThen_ok]
 rfl
instance iU140_1 : TBS Tryz.prog 23 9 := ⟨⟨_, Tryz.underlying23, Tryz.underlying5, Tryz.underlying9⟩⟩
theorem bstr_eq (a b : List UInt8) : ((⟨a.toArray⟩ : ByteArray).toList == (⟨b.toArray⟩ : ByteArray).toList) = decide (a = b) := by
 rw [ByteArray.toList_eq, ByteArray.toList_eq]
 by_cases h : a = b
 ·subst h; simp
 ·rw [decide_eq_false h]; simpa using h
theorem bEqual_s (a b : List UInt8) (A B : Option Addr) (c c' : Nat) : Spec Tryz.prog 69 [.slice A a.length c, .slice B b.length c'].toArray [.rd A (bc a), .rd B (bc b)] [] (fun _ : Unit => .bool (decide (a = b))) (fun _ => []) := by
 refine spec_of Tryz.func69 rfl (n := 10) rfl rfl ?_
 intro W
 refine yR ?_
 refine yS rfl ?_
 refine yN ?_
 refine yR ?_
 refine yM rfl ?_
 refine h_op (r_cvBS rfl) ?_
 refine yM rfl ?_
 refine h_op (r_cvBS rfl) ?_
 refine h_op (r_bool (r_eqS rfl rfl) (bstr_eq a b)) ?_
 refine yS rfl ?_
 refine yN ?_
 refine h_ret ?_
 exact h_ret1 rfl rfl fun w s => ⟨(), rfl, s.res (List.nil_sublist _) (by simp)⟩
theorem Entry_s (n : Nat) (h : Zh) (kk : B32) (b : List UInt8) (hb : b.length ≤ 1000000000) (p : Option Addr) [ht : TrZ n h (.leaf kk b) p] : Spec Tryz.prog 124 [.pointer p].toArray [.zone false h] [] (fun u : Option Addr × Nat => .agg (Entry.cells ⟨kk, ⟨u.1, b.length, u.2⟩⟩).toArray) (fun u => [.own (.slice u.1 b.length u.2) b.length 5 1 (bc b)]) := by
 refine spec_of Tryz.func124 rfl (n := 13) rfl rfl ?_
 intro W
 refine yR ?_
 refine h_opX (x_alloc) fun g2 => ?_
 refine yN ?_
 refine yR ?_
 refine yM rfl ?_
 refine h_call ((leaf_s n h kk b p).comes) rfl rfl rfl fun ⟨⟨sA, sn, sc⟩, hs⟩ => ?_
 dsimp only at hs ⊢
 have hsn := hs.len
 have hsr : RdZ h sA (bc b) := hs.rd
 have hnil := hs.nil
 dsimp only at hsn hnil
 subst hsn
 refine h_opX (x_alloc) fun g3 => ?_
 refine h_opS (s_storer rfl rfl) ?_
 refine yN ?_
 refine h_seq ?_
 refine ha_start [.blk g3 (NLeaf.cells ⟨leafOf n kk b, ⟨sA, b.length, sc⟩⟩) 275] [] mixed (same) ?_
 refine ha_takeP 0 rfl (r_field rfl) ?_
 refine ha_takeP 1 rfl (r_field rfl) ?_
 refine ha_take 2 rfl (r_loadr rfl) ?_
 refine ha_takeP 3 rfl (r_field rfl) ?_
 refine ha_take 4 rfl (r_loadc rfl) ?_
 refine ha_one 5 ?_
 refine ho_C 5 rfl ((Clone_s b sA sc hnil hb).comes) rfl rfl rfl (fun xx => same) fun ⟨A11, c11⟩ => ?_
 refine ha_takeP 6 rfl (r_build rfl) ?_
 refine ha_one 7 ?_
 refine ho_SL 7 rfl (s_storer rfl rfl) ?_
 refine q_then ?_
 refine h_ret ?_
 exact h_ret1 rfl (rv_row rfl) fun w s => ⟨(A11, c11), rfl, (same (L' := [.own (.slice A11 b.length c11) b.length 5 1 (bc b)]) w s).res (List.Sublist.refl _) (by simp [Fa.wr])⟩
section
variable (n : Nat) (h : Zh) (m : List En) (p : Option Addr) [ht : TrZ n h (mkT m 0) p] (key : B32) (D : Nat) (w : WayM key m D) (hvl : ∀ e ∈ m, e.val.length ≤ 1000000000)
include ht w hvl
theorem FGet_s : Spec Tryz.prog 68 [.pointer p, .agg key.cells.toArray].toArray [.zone false h] [] (fun u : Option Addr × Nat => .tuple #[.slice u.1 (getV (getE' m key)).length u.2, .bool (getE' m key).isSome]) (fun u => [.own (.slice u.1 (getV (getE' m key)).length u.2) (getV (getE' m key)).length 5 1 (bc (getV (getE' m key)))]) := by
 have hL := Locate_s n h (mkT m 0) p key D w.way
 have hon := w.on D (Nat.le_refl _)
 have hD := w.way.le
 have htD : TrZ n h (wayK key (mkT m 0) D) (wayQ h key p D) := inferInstance
 generalize wayQ h key p D = q at *
 rcases end_get w.last with ⟨h1, h2⟩ | ⟨e, h1, hb, ⟨hk, h2⟩ | ⟨hk, h2⟩⟩
 ·rw [h2]
  rw [hon, h1, mkT_nil] at htD
  have hK := Kind_s n h .nil q
  refine spec_of Tryz.func68 rfl (n := 27) rfl rfl ?_
  intro W
  refine yR ?_
  refine h_opX (x_box rfl) fun g3 => ?_
  refine yS rfl ?_
  refine yS rfl ?_
  refine yN ?_
  refine yR ?_
  refine yM rfl ?_
  refine h_op (r_loadr rfl) ?_
  refine h_call (hL.comes) rfl rfl rfl fun _ => ?_
  refine yM rfl ?_
  refine h_op (r_extract rfl rfl) ?_
  refine h_op (r_extract rfl rfl) ?_
  refine yS rfl ?_
  refine yS rfl ?_
  refine yN ?_
  refine h_seq ?_
  refine h_seq ?_
  refine ha_start [.blk g3 key.cells 35] [] mixed (same) ?_
  refine ha_takeP 0 rfl (r_move rfl) ?_
  refine ha_one 1 ?_
  refine ho_C 1 rfl (hK.comes) rfl rfl rfl (fun xx => same) fun _ => ?_
  refine ha_takeP 2 rfl (r_bool (r_neq rfl rfl) (show _ = true from rfl)) ?_
  refine ha_takeP 3 rfl (r_move rfl) ?_
  refine ha_off 4 rfl ?_
  refine ha_off 5 rfl ?_
  refine ha_off 6 rfl ?_
  refine ha_off 7 rfl ?_
  refine ha_off 8 rfl ?_
  refine ha_takeP 9 rfl (r_pick rfl rfl) ?_
  refine ha_done (by kernel_rfl) ?_
  refine q_then ?_
  refine h_condT rfl ?_
  refine yR ?_
  refine yS rfl ?_
  refine yS rfl ?_
  refine yN ?_
  refine h_ret ?_
  refine q_thenR ?_
  refine h_nil_own 5 1 (xs := bc []) rfl ?_
  exact h_ret2 rfl rfl rfl fun w s => ⟨(none, 0), rfl, (same (L' := [.own (.slice none 0 0) 0 5 1 (bc [])]) w s).res (List.Sublist.refl _) (by simp [Fa.wr])⟩
 ·rw [h2]
  have hem := (atM_bits (key := key) (m := m) (D := D) (e := e) (by rw [h1]; exact List.mem_singleton.2 rfl)).1
  rw [hon, h1, mkT_one e hD, hk] at htD
  have hK := Kind_s n h (.leaf key e.val) q
  have hLf := Leaf_s n h (.leaf key e.val) q
  have hEn := Entry_s n h key e.val (hvl e hem) q
  refine spec_of Tryz.func68 rfl (n := 27) rfl rfl ?_
  intro W
  refine yR ?_
  refine h_opX (x_box rfl) fun g3 => ?_
  refine yS rfl ?_
  refine yS rfl ?_
  refine yN ?_
  refine yR ?_
  refine yM rfl ?_
  refine h_op (r_loadr rfl) ?_
  refine h_call (hL.comes) rfl rfl rfl fun _ => ?_
  refine yM rfl ?_
  refine h_op (r_extract rfl rfl) ?_
  refine h_op (r_extract rfl rfl) ?_
  refine yS rfl ?_
  refine yS rfl ?_
  refine yN ?_
  refine h_seq ?_
  refine h_seq ?_
  refine ha_start [.blk g3 key.cells 35] [] mixed (same) ?_
  refine ha_takeP 0 rfl (r_move rfl) ?_
  refine ha_one 1 ?_
  refine ho_C 1 rfl (hK.comes) rfl rfl rfl (fun xx => same) fun _ => ?_
  refine ha_takeP 2 rfl (r_bool (r_neq rfl rfl) (show _ = false from rfl)) ?_
  refine ha_takeP 3 rfl (r_move rfl) ?_
  refine ha_takeP 4 rfl (r_move rfl) ?_
  refine ha_take 7 rfl (r_loadr rfl) ?_
  refine ha_one 5 ?_
  refine ho_C 5 rfl (hLf.comes) rfl rfl rfl (fun xx => same) fun _ => ?_
  refine ha_takeP 6 rfl (r_fldr rfl) ?_
  refine ha_takeP 8 rfl (r_bool (r_ner rfl rfl) (decide_eq_false (fun h => h rfl))) ?_
  refine ha_takeP 9 rfl (r_pick rfl rfl) ?_
  refine ha_done (by kernel_rfl) ?_
  refine q_then ?_
  refine h_condF rfl ?_
  refine h_skip ?_
  refine q_then ?_
  refine yR ?_
  refine yM rfl ?_
  refine h_call (hEn.comes) rfl rfl rfl fun ⟨A25, c25⟩ => ?_
  dsimp only
  refine h_op (r_fldc rfl) ?_
  refine yS rfl ?_
  refine yS rfl ?_
  refine yN ?_
  refine h_ret ?_
  exact h_ret2 rfl rfl rfl fun w s => ⟨(A25, c25), rfl, (same (L' := [.own (.slice A25 e.val.length c25) e.val.length 5 1 (bc e.val)]) w s).res (List.Sublist.refl _) (by simp [Fa.wr])⟩
 ·rw [h2]
  rw [hon, h1, mkT_one e hD] at htD
  have hK := Kind_s n h (.leaf e.key e.val) q
  have hLf := Leaf_s n h (.leaf e.key e.val) q
  refine spec_of Tryz.func68 rfl (n := 27) rfl rfl ?_
  intro W
  refine yR ?_
  refine h_opX (x_box rfl) fun g3 => ?_
  refine yS rfl ?_
  refine yS rfl ?_
  refine yN ?_
  refine yR ?_
  refine yM rfl ?_
  refine h_op (r_loadr rfl) ?_
  refine h_call (hL.comes) rfl rfl rfl fun _ => ?_
  refine yM rfl ?_
  refine h_op (r_extract rfl rfl) ?_
  refine h_op (r_extract rfl rfl) ?_
  refine yS rfl ?_
  refine yS rfl ?_
  refine yN ?_
  refine h_seq ?_
  refine h_seq ?_
  refine ha_start [.blk g3 key.cells 35] [] mixed (same) ?_
  refine ha_takeP 0 rfl (r_move rfl) ?_
  refine ha_one 1 ?_
  refine ho_C 1 rfl (hK.comes) rfl rfl rfl (fun xx => same) fun _ => ?_
  refine ha_takeP 2 rfl (r_bool (r_neq rfl rfl) (show _ = false from rfl)) ?_
  refine ha_takeP 3 rfl (r_move rfl) ?_
  refine ha_takeP 4 rfl (r_move rfl) ?_
  refine ha_take 7 rfl (r_loadr rfl) ?_
  refine ha_one 5 ?_
  refine ho_C 5 rfl (hLf.comes) rfl rfl rfl (fun xx => same) fun _ => ?_
  refine ha_takeP 6 rfl (r_fldr rfl) ?_
  refine ha_takeP 8 rfl (r_bool (r_ner rfl rfl) (decide_eq_true hk)) ?_
  refine ha_takeP 9 rfl (r_pick rfl rfl) ?_
  refine ha_done (by kernel_rfl) ?_
  refine q_then ?_
  refine h_condT rfl ?_
  refine yR ?_
  refine yS rfl ?_
  refine yS rfl ?_
  refine yN ?_
  refine h_ret ?_
  refine q_thenR ?_
  refine h_nil_own 5 1 (xs := bc []) rfl ?_
  exact h_ret2 rfl rfl rfl fun w s => ⟨(none, 0), rfl, (same (L' := [.own (.slice none 0 0) 0 5 1 (bc [])]) w s).res (List.Sublist.refl _) (by simp [Fa.wr])⟩
end
def trueC (m : List En) (c : Claim) (kb vb : List UInt8) : Bool := decide (claimE c = 0) && ((getE' m (keyOf kb)).isSome == c.present && (!(getE' m (keyOf kb)).isSome || decide (getV (getE' m (keyOf kb)) = vb)))
section
variable (n : Nat) (h : Zh) (m : List En) (hal : Alike m 0) (p : Option Addr) [ht : TrZ n h (mkT m 0) p] (c : Claim) (kb vb : List UInt8) [hK : SlZ h c.key kb] [hV : SlZ h c.value vb] (hvl : ∀ e ∈ m, e.val.length ≤ 1000000000)
include ht hal hvl
theorem xTrue_s : Spec Tryz.prog 18 [.pointer p, .agg c.cells.toArray].toArray [.zone false h] [] (fun _ : Unit => .bool (trueC m c kb vb)) (fun _ => []) := by
 have hC := Claim_s c
 have hkn := hK.len
 have hvn := hV.len
 have hVr : RdZ h c.value.A (bc vb) := hV.rd
 by_cases h1 : claimE c = 0
 ·have hk32 : kb.length = 32 := by
   unfold claimE at h1
   split at h1
   ·omega
   ·cases h1
  obtain ⟨D, w⟩ := wayM (key := keyOf kb) hal
  have hG := FGet_s n h m p (keyOf kb) D w hvl
  rw [h1] at hC
  have ht : trueC m c kb vb = ((getE' m (keyOf kb)).isSome == c.present && (!(getE' m (keyOf kb)).isSome || decide (getV (getE' m (keyOf kb)) = vb))) := by unfold trueC; rw [decide_eq_true h1]; exact Bool.true_and _
  rw [ht]
  have hKr : RdZ h c.key.A (keyOf kb).cells := by rw [keyOf_cells hk32]; exact hK.rd
  obtain ⟨⟨kA, kn, kc⟩, ⟨vA, vn, vc⟩, pr⟩ := c
  dsimp only at hkn hvn hKr hVr ⊢
  subst hkn hvn
  obtain ⟨bK, oK, rfl, -⟩ := hKr.at_ 0 _ (List.getElem?_eq_getElem (by rw [B32.cells_length]; decide))
  generalize getE' m (keyOf kb) = g at *
  generalize getV g = v at *
  have hB := fun A c' => bEqual_s v vb A vA c' vc
  cases hg : g.isSome
  ·rw [hg] at hG
   cases pr
   ·refine spec_of Tryz.func18 rfl (n := 33) rfl rfl ?_
    intro W
    refine yR ?_
    refine h_opX (x_box rfl) fun g3 => ?_
    refine yS rfl ?_
    refine yN ?_
    refine h_seq ?_
    refine yR ?_
    refine h_op (r_loadr rfl) ?_
    refine h_call (hC.comes) rfl rfl rfl fun _ => ?_
    refine h_op (r_neq rfl rfl) ?_
    refine yN ?_
    refine h_no rfl ((fun h => h rfl)) ?_
    refine h_skip ?_
    refine q_then ?_
    refine yR ?_
    refine yM rfl ?_
    refine h_op (r_field rfl) ?_
    refine h_op (r_loadc rfl) ?_
    refine h_op (r_arr rfl (hm := show 32 ≤ kb.length by omega)) ?_
    refine h_op (r_loadr rfl) ?_
    refine h_call (hG.comes) rfl rfl rfl fun ⟨A16, c16⟩ => ?_
    refine yM rfl ?_
    refine h_op (r_extract rfl rfl) ?_
    refine h_op (r_extract rfl rfl) ?_
    refine yS rfl ?_
    refine yS rfl ?_
    refine yN ?_
    refine yR ?_
    refine yM rfl ?_
    refine h_op (r_field rfl) ?_
    refine h_op (r_loadc rfl) ?_
    refine h_op (r_bool (r_eqb rfl rfl) (show _ = true from rfl)) ?_
    refine yM rfl ?_
    refine yM rfl ?_
    refine h_op (r_not rfl) ?_
    refine yM rfl ?_
    refine h_opOff ?_
    refine h_opOff ?_
    refine h_opOff ?_
    refine h_opOff ?_
    refine h_op (r_pick rfl rfl) ?_
    refine h_op (r_pick rfl rfl) ?_
    refine yS rfl ?_
    refine yN ?_
    refine h_ret ?_
    exact h_ret1 rfl rfl fun w s => ⟨(), rfl, s.res (List.nil_sublist _) (by simp)⟩
   ·refine spec_of Tryz.func18 rfl (n := 33) rfl rfl ?_
    intro W
    refine yR ?_
    refine h_opX (x_box rfl) fun g3 => ?_
    refine yS rfl ?_
    refine yN ?_
    refine h_seq ?_
    refine yR ?_
    refine h_op (r_loadr rfl) ?_
    refine h_call (hC.comes) rfl rfl rfl fun _ => ?_
    refine h_op (r_neq rfl rfl) ?_
    refine yN ?_
    refine h_no rfl ((fun h => h rfl)) ?_
    refine h_skip ?_
    refine q_then ?_
    refine yR ?_
    refine yM rfl ?_
    refine h_op (r_field rfl) ?_
    refine h_op (r_loadc rfl) ?_
    refine h_op (r_arr rfl (hm := show 32 ≤ kb.length by omega)) ?_
    refine h_op (r_loadr rfl) ?_
    refine h_call (hG.comes) rfl rfl rfl fun ⟨A16, c16⟩ => ?_
    refine yM rfl ?_
    refine h_op (r_extract rfl rfl) ?_
    refine h_op (r_extract rfl rfl) ?_
    refine yS rfl ?_
    refine yS rfl ?_
    refine yN ?_
    refine yR ?_
    refine yM rfl ?_
    refine h_op (r_field rfl) ?_
    refine h_op (r_loadc rfl) ?_
    refine h_op (r_bool (r_eqb rfl rfl) (show _ = false from rfl)) ?_
    refine yM rfl ?_
    refine h_opOff ?_
    refine h_opOff ?_
    refine h_opOff ?_
    refine h_opOff ?_
    refine h_opOff ?_
    refine h_opOff ?_
    refine h_opOff ?_
    refine h_opOff ?_
    refine h_op (r_pick rfl rfl) ?_
    refine yS rfl ?_
    refine yN ?_
    refine h_ret ?_
    exact h_ret1 rfl rfl fun w s => ⟨(), rfl, s.res (List.nil_sublist _) (by simp)⟩
  ·rw [hg] at hG
   cases pr
   ·refine spec_of Tryz.func18 rfl (n := 33) rfl rfl ?_
    intro W
    refine yR ?_
    refine h_opX (x_box rfl) fun g3 => ?_
    refine yS rfl ?_
    refine yN ?_
    refine h_seq ?_
    refine yR ?_
    refine h_op (r_loadr rfl) ?_
    refine h_call (hC.comes) rfl rfl rfl fun _ => ?_
    refine h_op (r_neq rfl rfl) ?_
    refine yN ?_
    refine h_no rfl ((fun h => h rfl)) ?_
    refine h_skip ?_
    refine q_then ?_
    refine yR ?_
    refine yM rfl ?_
    refine h_op (r_field rfl) ?_
    refine h_op (r_loadc rfl) ?_
    refine h_op (r_arr rfl (hm := show 32 ≤ kb.length by omega)) ?_
    refine h_op (r_loadr rfl) ?_
    refine h_call (hG.comes) rfl rfl rfl fun ⟨A16, c16⟩ => ?_
    refine yM rfl ?_
    refine h_op (r_extract rfl rfl) ?_
    refine h_op (r_extract rfl rfl) ?_
    refine yS rfl ?_
    refine yS rfl ?_
    refine yN ?_
    refine yR ?_
    refine yM rfl ?_
    refine h_op (r_field rfl) ?_
    refine h_op (r_loadc rfl) ?_
    refine h_op (r_bool (r_eqb rfl rfl) (show _ = false from rfl)) ?_
    refine yM rfl ?_
    refine h_opOff ?_
    refine h_opOff ?_
    refine h_opOff ?_
    refine h_opOff ?_
    refine h_opOff ?_
    refine h_opOff ?_
    refine h_opOff ?_
    refine h_opOff ?_
    refine h_op (r_pick rfl rfl) ?_
    refine yS rfl ?_
    refine yN ?_
    refine h_ret ?_
    exact h_ret1 rfl rfl fun w s => ⟨(), rfl, s.res (List.nil_sublist _) (by simp)⟩
   ·refine spec_of Tryz.func18 rfl (n := 33) rfl rfl ?_
    intro W
    refine yR ?_
    refine h_opX (x_box rfl) fun g3 => ?_
    refine yS rfl ?_
    refine yN ?_
    refine h_seq ?_
    refine yR ?_
    refine h_op (r_loadr rfl) ?_
    refine h_call (hC.comes) rfl rfl rfl fun _ => ?_
    refine h_op (r_neq rfl rfl) ?_
    refine yN ?_
    refine h_no rfl ((fun h => h rfl)) ?_
    refine h_skip ?_
    refine q_then ?_
    refine yR ?_
    refine yM rfl ?_
    refine h_op (r_field rfl) ?_
    refine h_op (r_loadc rfl) ?_
    refine h_op (r_arr rfl (hm := show 32 ≤ kb.length by omega)) ?_
    refine h_op (r_loadr rfl) ?_
    refine h_call (hG.comes) rfl rfl rfl fun ⟨A16, c16⟩ => ?_
    dsimp only
    refine yM rfl ?_
    refine h_op (r_extract rfl rfl) ?_
    refine h_op (r_extract rfl rfl) ?_
    refine yS rfl ?_
    refine yS rfl ?_
    refine yN ?_
    refine yR ?_
    refine yM rfl ?_
    refine h_op (r_field rfl) ?_
    refine h_op (r_loadc rfl) ?_
    refine h_op (r_bool (r_eqb rfl rfl) (show _ = true from rfl)) ?_
    refine yM rfl ?_
    refine yM rfl ?_
    refine h_op (r_not rfl) ?_
    refine yM rfl ?_
    refine yM rfl ?_
    refine h_op (r_field rfl) ?_
    refine h_op (r_loadc rfl) ?_
    refine h_call ((hB A16 c16).comes) rfl rfl rfl fun _ => ?_
    refine h_op (r_pick rfl rfl) ?_
    refine h_op (r_pick rfl rfl) ?_
    refine yS rfl ?_
    refine yN ?_
    refine h_ret ?_
    exact h_ret1 rfl rfl fun w s => ⟨(), rfl, s.res (List.nil_sublist _) (by simp)⟩
 ·rw [show trueC m c kb vb = false by unfold trueC; rw [decide_eq_false h1]; rfl]
  refine spec_of Tryz.func18 rfl (n := 33) rfl rfl ?_
  intro W
  refine yR ?_
  refine h_opX (x_box rfl) fun g3 => ?_
  refine yS rfl ?_
  refine yN ?_
  refine h_seq ?_
  refine yR ?_
  refine h_op (r_loadr rfl) ?_
  refine h_call (hC.comes) rfl rfl rfl fun _ => ?_
  refine h_op (r_neq rfl rfl) ?_
  refine yN ?_
  refine h_yes rfl (h1) ?_
  refine yR ?_
  refine yS rfl ?_
  refine yN ?_
  refine h_ret ?_
  refine q_thenR ?_
  exact h_ret1 rfl rfl fun w s => ⟨(), rfl, s.res (List.nil_sublist _) (by simp)⟩
end
end Go.Proofs.YtjhocljhhpkiiaaGreatDoor
/- E15 -/
namespace Go.Proofs.YtjhocljhhpkiiaaGreatDoor
open Go.RowKit
theorem byte_lt_bits (x y : UInt8) (h : x < y) : ∃ j, j < 8 ∧ (∀ i, i < j → bbit x i = bbit y i) ∧ bbit x j = false ∧ bbit y j = true := by
 have key : ∀ n m : Fin 256, n.val < m.val → ((List.range 8).any fun j => ((List.range j).all fun i => bbit (UInt8.ofNat n.val) i == bbit (UInt8.ofNat m.val) i) && !bbit (UInt8.ofNat n.val) j && bbit (UInt8.ofNat m.val) j) = true := by decide +kernel
 have h2 := key ⟨x.toNat, x.toNat_lt⟩ ⟨y.toNat, y.toNat_lt⟩ (UInt8.lt_iff_toNat_lt.1 h)
 simp only [UInt8.ofNat_toNat, List.any_eq_true, List.mem_range, Bool.and_eq_true, List.all_eq_true, beq_iff_eq, Bool.not_eq_true'] at h2
 obtain ⟨j, hj, ⟨h3, h4⟩, h5⟩ := h2
 exact ⟨j, hj, h3, h4, h5⟩
theorem cmpL_lt : ∀ (a b : List UInt8), cmpL a b < 0 → ∃ k, k < a.length ∧ k < b.length ∧ (∀ i, i < k → a.getD i 0 = b.getD i 0) ∧ a.getD k 0 < b.getD k 0
 | [], b, h => by unfold cmpL at h; omega
 | x :: a, [], h => by unfold cmpL at h; omega
 | x :: a, y :: b, h => by
  unfold cmpL at h
  by_cases h1 : x < y
  ·exact ⟨0, by simp, by simp, fun i hi => by omega, by simpa using h1⟩
  ·rw [if_neg h1] at h
   by_cases h2 : y < x
   ·rw [if_pos h2] at h; omega
   ·rw [if_neg h2] at h
    obtain ⟨k, k1, k2, k3, k4⟩ := cmpL_lt a b h
    have e : x = y := UInt8.le_antisymm (UInt8.not_lt.1 h2) (UInt8.not_lt.1 h1)
    refine ⟨k + 1, by simp; omega, by simp; omega, fun i hi => ?_, by simpa using k4⟩
    cases i with
    | zero => simpa using e
    | succ i => simpa using k3 i (by omega)
theorem cmpB_bits {a b : B32} (h : cmpB a b < 0) : ∃ i, i < 256 ∧ (∀ j, j < i → bitAt a j = bitAt b j) ∧ bitAt a i = false ∧ bitAt b i = true := by
 obtain ⟨k, k1, _, k3, k4⟩ := cmpL_lt a.1 b.1 h
 obtain ⟨j, hj, h1, h2, h3⟩ := byte_lt_bits _ _ k4
 have ha := a.2
 refine ⟨8 * k + j, by omega, fun i hi => ?_, ?_, ?_⟩
 ·unfold bitAt
  by_cases hk : i / 8 < k
  ·rw [k3 _ hk]
  ·have e : i / 8 = k := by omega
   rw [e]
   exact h1 _ (by omega)
 ·unfold bitAt
  rw [show (8 * k + j) / 8 = k by omega, show (8 * k + j) % 8 = j by omega]
  exact h2
 ·unfold bitAt
  rw [show (8 * k + j) / 8 = k by omega, show (8 * k + j) % 8 = j by omega]
  exact h3
end Go.Proofs.YtjhocljhhpkiiaaGreatDoor
/- E16 -/
namespace Go.Proofs.YtjhocljhhpkiiaaGreatDoor
open Go.RowKit
def ltK (a b : B32) : Prop := ∃ i, i < 256 ∧ (∀ j, j < i → bitAt a j = bitAt b j) ∧ bitAt a i = false ∧ bitAt b i = true
theorem ltK_trans {a b c : B32} (h : ltK a b) (h' : ltK b c) : ltK a c := by
 obtain ⟨i, i1, i2, i3, i4⟩ := h
 obtain ⟨j, j1, j2, j3, j4⟩ := h'
 rcases Nat.lt_trichotomy i j with hij | rfl | hij
 ·exact ⟨i, i1, fun k hk => (i2 k hk).trans (j2 k (by omega)), i3, (j2 i hij) ▸ i4⟩
 ·rw [i4] at j3; cases j3
 ·exact ⟨j, j1, fun k hk => (i2 k (by omega)).trans (j2 k hk), (i2 j hij).trans j3, j4⟩
def AlikeK (l : List B32) (d : Nat) : Prop := ∀ a ∈ l, ∀ b ∈ l, ∀ i, i < d → bitAt a i = bitAt b i
theorem ltK_bit {a b : B32} {d : Nat} (h : ltK a b) (ha : ∀ i, i < d → bitAt a i = bitAt b i) (hb : bitAt a d = true) : bitAt b d = true := by
 obtain ⟨i, i1, i2, i3, i4⟩ := h
 rcases Nat.lt_trichotomy i d with hid | rfl | hid
 ·rw [ha i hid, i4] at i3; cases i3
 ·rw [hb] at i3; cases i3
 ·rw [← i2 d hid]; exact hb
theorem split_at : ∀ {l : List B32} {d : Nat}, l.Pairwise ltK → AlikeK l d → ∃ m, m ≤ l.length ∧ (∀ j, j < l.length → bitAt (l.getD j zB32) d = decide (m ≤ j)) ∧ l.take m = l.filter (fun k => bitAt k d == false) ∧ l.drop m = l.filter (fun k => bitAt k d == true)
 | [], _, _, _ => ⟨0, Nat.le_refl _, fun j hj => by simp at hj, rfl, rfl⟩
 | a :: l, d, ho, ha => by
  obtain ⟨h1, h2⟩ := List.pairwise_cons.1 ho
  have hal : AlikeK l d := fun x hx y hy => ha x (List.mem_cons_of_mem _ hx) y (List.mem_cons_of_mem _ hy)
  cases hb : bitAt a d
  ·obtain ⟨m, m1, m2, m3, m4⟩ := split_at h2 hal
   refine ⟨m + 1, by simp; omega, fun j hj => ?_, ?_, ?_⟩
   ·cases j with
    | zero => simpa using hb
    | succ j =>
     have := m2 j (by simpa using hj)
     rw [List.getD_cons_succ, this]
     exact decide_eq_decide.2 ⟨fun h => by omega, fun h => by omega⟩
   ·rw [List.take_succ_cons, m3, List.filter_cons_of_pos (by simp [hb])]
   ·rw [List.drop_succ_cons, m4, List.filter_cons_of_neg (by simp [hb])]
  ·have hall : ∀ x ∈ l, bitAt x d = true := fun x hx => ltK_bit (h1 x hx) (ha a (List.mem_cons_self ..) x (List.mem_cons_of_mem _ hx)) hb
   refine ⟨0, Nat.zero_le _, fun j hj => ?_, ?_, ?_⟩
   ·cases j with
    | zero => simpa using hb
    | succ j =>
     have hj' : j < l.length := by simpa using hj
     rw [List.getD_cons_succ, List.getD_eq_getElem?_getD, List.getElem?_eq_getElem hj', Option.getD_some, hall _ (List.getElem_mem hj')]
     simp
   ·rw [List.take_zero, List.filter_cons_of_neg (by simp [hb])]
    symm
    rw [List.filter_eq_nil_iff]
    intro x hx
    simp [hall x hx]
   ·rw [List.drop_zero, List.filter_cons_of_pos (by simp [hb])]
    congr 1
    symm
    rw [List.filter_eq_self]
    intro x hx
    simp [hall x hx]
end Go.Proofs.YtjhocljhhpkiiaaGreatDoor
/- E17 -/
namespace Go.Proofs.YtjhocljhhpkiiaaGreatDoor
open Go.RowKit
def keysB (ks : List B32) (d : Nat) (b : Bool) : List B32 := ks.filter fun k => bitAt k d == b
theorem keysB_alike {ks : List B32} {d : Nat} (h : AlikeK ks d) (b : Bool) : AlikeK (keysB ks d b) (d + 1) := fun x hx y hy i hi => by
 have hx' := List.mem_filter.1 hx
 have hy' := List.mem_filter.1 hy
 rcases Nat.lt_or_ge i d with h1 | h1
 ·exact h x hx'.1 y hy'.1 i h1
 ·obtain rfl : i = d := by omega
  have e1 : bitAt x i = b := by simpa using hx'.2
  have e2 : bitAt y i = b := by simpa using hy'.2
  rw [e1, e2]
theorem keysB_ord {ks : List B32} {d : Nat} (h : ks.Pairwise ltK) (b : Bool) : (keysB ks d b).Pairwise ltK := h.filter _
end Go.Proofs.YtjhocljhhpkiiaaGreatDoor
/- U63 -/
namespace Go.Proofs.YtjhocljhhpkiiaaGreatDoor
open Go.RowKit
theorem its_at {l : List Item} {k : Nat} {x : Item} (h : l[k]? = some x) : ∀ j v, x.cells[j]? = some v → (its l)[k * 97 + j]? = some v := by
 induction l generalizing k with
 | nil => cases h
 | cons y l ih =>
  intro j v hv
  rw [its_cons]
  cases k with
  | zero =>
   obtain rfl : y = x := by simpa using h
   rw [Nat.zero_mul, Nat.zero_add, List.getElem?_append_left (List.getElem?_eq_some_iff.1 hv).1]
   exact hv
  | succ k =>
   rw [List.getElem?_append_right (by rw [Item.cells_length]; omega), Item.cells_length, show (k + 1) * 97 + j - 97 = k * 97 + j by omega]
   exact ih (by simpa using h) j v hv
def parseV : Except Int Sub → Value
 | .ok t => .tuple #[.iface t.tag t.val, .int .i64 0]
 | .error e => .tuple #[.nilIface, .int .i64 e]
theorem clean3 {x : Item} (h : x.kind = 3) : cleanItem x = decide (x.leaf = zLeaf) := by unfold cleanItem; simp [h]
theorem clean1 {x : Item} (h : ¬ x.kind = 3) (hd : x.digest = zB32) (h1 : x.kind = 1) : cleanItem x = true := by unfold cleanItem; simp [hd, h1]
theorem clean0 {x : Item} (h : ¬ x.kind = 3) (hd : x.digest = zB32) (h1 : ¬ x.kind = 1) : cleanItem x = decide (x.leaf = zLeaf) := by unfold cleanItem; simp [hd, h1]
theorem cleanN {x : Item} (h : ¬ x.kind = 3) (hd : ¬ x.digest = zB32) : cleanItem x = false := by unfold cleanItem; simp [h, hd]
section
variable (h : Zh)
theorem parse_s (l : List Item) (A : Option Addr) (c : Nat) [hr : RdZ h A (its l)] (hc : l.length ≤ c) (hl : l.length ≤ 1000000) : Spec Tryz.prog 145 [.slice A l.length c].toArray [.zone false h] [] (fun _ : Unit => parseV (parseM l)) (fun _ => []) := by
 have hR := read_all h 256 (Nat.le_refl _) l A c hr hc
 rw [show (256 - ((256 : Nat) : Int)) = 0 from rfl] at hR
 refine spec_of Tryz.func145 rfl (n := 64) rfl rfl ?_
 intro W
 refine yR ?_
 refine yS rfl ?_
 refine yS rfl ?_
 refine yN ?_
 refine yR ?_
 refine yS rfl ?_
 refine yN ?_
 refine h_seq ?_
 refine yR ?_
 refine yM rfl ?_
 refine h_op (r_len rfl) ?_
 refine yM rfl ?_
 refine yN ?_
 refine h_block ?_
 refine h_loop (fun (s : Nat × Bool) => s.1 ≤ l.length ∧ (l.take s.1).all kindOk = true ∧ s.2 = (l.take s.1).all cleanItem) (fun (s : Nat × Bool) => [(11, .int .i64 (s.1 : Int)), (10, .int .i64 (l.length : Int)), (9, .slice A l.length c), (4, .bool s.2), (0, .slice A l.length c)]) (fun (s : Nat × Bool) => [.zone false h]) (fun (s : Nat × Bool) => l.length - s.1) (0, true) ((show 0 ≤ l.length ∧ _ ∧ _ from ⟨Nat.zero_le _, rfl, rfl⟩)) ⟨rfl, rfl, rfl, rfl, rfl, trivial⟩ (same) ?_
 rintro ⟨k, b⟩ ⟨hk, hok, hb⟩
 dsimp only at hk hok hb ⊢
 refine yR ?_
 refine h_op (r_lss rfl rfl) ?_
 refine yN ?_
 refine h_seq ?_
 refine h_cond rfl (fun hlt => ?_) (fun hlt => ?_)
 ·have hk2 : k < l.length := by omega
  obtain ⟨x, hx⟩ : ∃ x, l[k]? = some x := ⟨_, List.getElem?_eq_getElem hk2⟩
  have hak := all_take kindOk l k x hx
  have hac := all_take cleanItem l k x hx
  rw [hok, Bool.true_and] at hak
  rw [← hb] at hac
  have h0 : 0 < (its l).length := by rw [its_len]; omega
  obtain ⟨bb, o, rfl, -⟩ := hr.at_ 0 _ (List.getElem?_eq_getElem h0)
  have hat := its_at hx
  by_cases h1 : x.kind < 0
  ·have hpm : parseM l = .error 7 := by
    unfold parseM
    rw [if_neg]
    intro ha
    have := List.all_eq_true.1 ha x (List.mem_of_getElem? hx)
    unfold kindOk at this
    simp at this
    omega
   rw [hpm]
   refine h_skip ?_
   refine q_then ?_
   refine h_seq ?_
   refine h_block ?_
   refine yR ?_
   refine h_op (r_idx rfl rfl) ?_
   refine h_op (r_nthr rfl (out := x.cells) (Item.cells_length x) hat) ?_
   refine h_opX (x_alloc) fun g6 => ?_
   refine h_opS (s_storer rfl rfl) ?_
   refine yN ?_
   refine h_seq ?_
   refine yR ?_
   refine h_op (r_field rfl) ?_
   refine h_op (r_loadc rfl) ?_
   refine h_op (r_bool (r_lss rfl rfl) (decide_eq_true h1)) ?_
   refine yM rfl ?_
   refine h_opOff ?_
   refine h_opOff ?_
   refine h_opOff ?_
   refine h_op (r_pick rfl rfl) ?_
   refine yN ?_
   refine h_condT rfl ?_
   refine yR ?_
   refine yS rfl ?_
   refine yS rfl ?_
   refine yN ?_
   refine h_ret ?_
   refine q_thenR ?_
   refine q_blockR ?_
   refine q_thenR ?_
   refine q_thenR ?_
   refine q_blockR ?_
   refine q_thenR ?_
   exact h_ret2 rfl rfl rfl fun w s => ⟨(), rfl, s.res (List.nil_sublist _) (by simp)⟩
  ·by_cases h2 : 3 < x.kind
   ·have hpm : parseM l = .error 7 := by
     unfold parseM
     rw [if_neg]
     intro ha
     have := List.all_eq_true.1 ha x (List.mem_of_getElem? hx)
     unfold kindOk at this
     simp at this
     omega
    rw [hpm]
    refine h_skip ?_
    refine q_then ?_
    refine h_seq ?_
    refine h_block ?_
    refine yR ?_
    refine h_op (r_idx rfl rfl) ?_
    refine h_op (r_nthr rfl (out := x.cells) (Item.cells_length x) hat) ?_
    refine h_opX (x_alloc) fun g6 => ?_
    refine h_opS (s_storer rfl rfl) ?_
    refine yN ?_
    refine h_seq ?_
    refine yR ?_
    refine h_op (r_field rfl) ?_
    refine h_op (r_loadc rfl) ?_
    refine h_op (r_bool (r_lss rfl rfl) (decide_eq_false h1)) ?_
    refine yM rfl ?_
    refine h_op (r_field rfl) ?_
    refine h_op (r_loadc rfl) ?_
    refine h_op (r_bool (r_gtr rfl rfl) (decide_eq_true h2)) ?_
    refine h_op (r_pick rfl rfl) ?_
    refine yN ?_
    refine h_condT rfl ?_
    refine yR ?_
    refine yS rfl ?_
    refine yS rfl ?_
    refine yN ?_
    refine h_ret ?_
    refine q_thenR ?_
    refine q_blockR ?_
    refine q_thenR ?_
    refine q_thenR ?_
    refine q_blockR ?_
    refine q_thenR ?_
    exact h_ret2 rfl rfl rfl fun w s => ⟨(), rfl, s.res (List.nil_sublist _) (by simp)⟩
   ·have hok' : (l.take (k + 1)).all kindOk = true := by rw [hak]; unfold kindOk; simp; omega
    refine h_skip ?_
    refine q_then ?_
    refine h_seq ?_
    refine h_block ?_
    refine yR ?_
    refine h_op (r_idx rfl rfl) ?_
    refine h_op (r_nthr rfl (out := x.cells) (Item.cells_length x) hat) ?_
    refine h_opX (x_alloc) fun g6 => ?_
    refine h_opS (s_storer rfl rfl) ?_
    refine yN ?_
    refine h_seq ?_
    refine yR ?_
    refine h_op (r_field rfl) ?_
    refine h_op (r_loadc rfl) ?_
    refine h_op (r_bool (r_lss rfl rfl) (decide_eq_false h1)) ?_
    refine yM rfl ?_
    refine h_op (r_field rfl) ?_
    refine h_op (r_loadc rfl) ?_
    refine h_op (r_bool (r_gtr rfl rfl) (decide_eq_false h2)) ?_
    refine h_op (r_pick rfl rfl) ?_
    refine yN ?_
    refine h_condF rfl ?_
    rcases b with _ | _
    ·refine h_skip ?_
     refine q_then ?_
     refine h_reg ?_
     refine yM rfl ?_
     refine yM rfl ?_
     refine h_opOff ?_
     refine h_opOff ?_
     refine h_opOff ?_
     refine h_opOff ?_
     refine h_opOff ?_
     refine h_opOff ?_
     refine h_opOff ?_
     refine h_opOff ?_
     refine h_opOff ?_
     refine h_op (r_pick rfl rfl) ?_
     refine yM rfl ?_
     refine h_opOff ?_
     refine h_opOff ?_
     refine h_opOff ?_
     refine h_opOff ?_
     refine h_opOff ?_
     refine h_opOff ?_
     refine h_opOff ?_
     refine h_opOff ?_
     refine h_opOff ?_
     refine h_op (r_pick rfl rfl) ?_
     refine yS rfl ?_
     refine h_nil ?_
     refine q_block ?_
     refine q_then ?_
     refine h_reg ?_
     refine h_op (r_add rfl rfl) ?_
     refine yM rfl ?_
     refine h_nil ?_
     exact h_back (k + 1, false) (⟨hk2, hok', by rw [hac]; rfl⟩) ((show l.length - (k + 1) < l.length - k by omega)) ⟨rfl, rfl, rfl, rfl, rfl, trivial⟩ (same)
    ·rw [Bool.true_and] at hac
     by_cases h3 : x.kind = 3
     ·refine h_skip ?_
      refine q_then ?_
      refine h_reg ?_
      refine yM rfl ?_
      refine yM rfl ?_
      refine h_op (r_field rfl) ?_
      refine h_op (r_loadc rfl) ?_
      refine h_op (r_bool (r_eql rfl rfl) (decide_eq_true h3)) ?_
      refine yM rfl ?_
      refine h_opOff ?_
      refine h_opOff ?_
      refine h_opOff ?_
      refine h_opOff ?_
      refine h_op (r_pick rfl rfl) ?_
      refine h_op (r_pick rfl rfl) ?_
      refine yM rfl ?_
      refine h_op (r_field rfl) ?_
      refine h_op (r_loadc rfl) ?_
      refine h_op (r_bool (r_eql rfl rfl) (decide_eq_false (by omega))) ?_
      refine yM rfl ?_
      refine h_op (r_field rfl) ?_
      refine h_op (r_loadr rfl) ?_
      refine h_op (r_build rfl) ?_
      refine h_op (r_eqr rfl rfl) ?_
      refine h_op (r_pick rfl rfl) ?_
      refine h_op (r_pick rfl rfl) ?_
      refine yS rfl ?_
      refine h_nil ?_
      refine q_block ?_
      refine q_then ?_
      refine h_reg ?_
      refine h_op (r_add rfl rfl) ?_
      refine yM rfl ?_
      refine h_nil ?_
      exact h_back (k + 1, decide (x.leaf = zLeaf)) (⟨hk2, hok', by rw [hac, clean3 h3]⟩) ((show l.length - (k + 1) < l.length - k by omega)) ⟨rfl, rfl, rfl, rfl, rfl, trivial⟩ (same)
     ·by_cases hd : x.digest = zB32
      ·by_cases h4 : x.kind = 1
       ·refine h_skip ?_
        refine q_then ?_
        refine h_reg ?_
        refine yM rfl ?_
        refine yM rfl ?_
        refine h_op (r_field rfl) ?_
        refine h_op (r_loadc rfl) ?_
        refine h_op (r_bool (r_eql rfl rfl) (decide_eq_false h3)) ?_
        refine yM rfl ?_
        refine h_op (r_field rfl) ?_
        refine h_op (r_loadr rfl) ?_
        refine h_op (r_build rfl) ?_
        refine h_op (r_bool (r_eqr rfl rfl) (decide_eq_true hd)) ?_
        refine h_op (r_pick rfl rfl) ?_
        refine h_op (r_pick rfl rfl) ?_
        refine yM rfl ?_
        refine h_op (r_field rfl) ?_
        refine h_op (r_loadc rfl) ?_
        refine h_op (r_bool (r_eql rfl rfl) (decide_eq_true h4)) ?_
        refine yM rfl ?_
        refine h_opOff ?_
        refine h_opOff ?_
        refine h_opOff ?_
        refine h_opOff ?_
        refine h_op (r_pick rfl rfl) ?_
        refine h_op (r_pick rfl rfl) ?_
        refine yS rfl ?_
        refine h_nil ?_
        refine q_block ?_
        refine q_then ?_
        refine h_reg ?_
        refine h_op (r_add rfl rfl) ?_
        refine yM rfl ?_
        refine h_nil ?_
        exact h_back (k + 1, true) (⟨hk2, hok', by rw [hac, clean1 h3 hd h4]⟩) ((show l.length - (k + 1) < l.length - k by omega)) ⟨rfl, rfl, rfl, rfl, rfl, trivial⟩ (same)
       ·refine h_skip ?_
        refine q_then ?_
        refine h_reg ?_
        refine yM rfl ?_
        refine yM rfl ?_
        refine h_op (r_field rfl) ?_
        refine h_op (r_loadc rfl) ?_
        refine h_op (r_bool (r_eql rfl rfl) (decide_eq_false h3)) ?_
        refine yM rfl ?_
        refine h_op (r_field rfl) ?_
        refine h_op (r_loadr rfl) ?_
        refine h_op (r_build rfl) ?_
        refine h_op (r_bool (r_eqr rfl rfl) (decide_eq_true hd)) ?_
        refine h_op (r_pick rfl rfl) ?_
        refine h_op (r_pick rfl rfl) ?_
        refine yM rfl ?_
        refine h_op (r_field rfl) ?_
        refine h_op (r_loadc rfl) ?_
        refine h_op (r_bool (r_eql rfl rfl) (decide_eq_false h4)) ?_
        refine yM rfl ?_
        refine h_op (r_field rfl) ?_
        refine h_op (r_loadr rfl) ?_
        refine h_op (r_build rfl) ?_
        refine h_op (r_eqr rfl rfl) ?_
        refine h_op (r_pick rfl rfl) ?_
        refine h_op (r_pick rfl rfl) ?_
        refine yS rfl ?_
        refine h_nil ?_
        refine q_block ?_
        refine q_then ?_
        refine h_reg ?_
        refine h_op (r_add rfl rfl) ?_
        refine yM rfl ?_
        refine h_nil ?_
        exact h_back (k + 1, decide (x.leaf = zLeaf)) (⟨hk2, hok', by rw [hac, clean0 h3 hd h4]⟩) ((show l.length - (k + 1) < l.length - k by omega)) ⟨rfl, rfl, rfl, rfl, rfl, trivial⟩ (same)
      ·refine h_skip ?_
       refine q_then ?_
       refine h_reg ?_
       refine yM rfl ?_
       refine yM rfl ?_
       refine h_op (r_field rfl) ?_
       refine h_op (r_loadc rfl) ?_
       refine h_op (r_bool (r_eql rfl rfl) (decide_eq_false h3)) ?_
       refine yM rfl ?_
       refine h_op (r_field rfl) ?_
       refine h_op (r_loadr rfl) ?_
       refine h_op (r_build rfl) ?_
       refine h_op (r_bool (r_eqr rfl rfl) (decide_eq_false hd)) ?_
       refine h_op (r_pick rfl rfl) ?_
       refine h_op (r_pick rfl rfl) ?_
       refine yM rfl ?_
       refine h_opOff ?_
       refine h_opOff ?_
       refine h_opOff ?_
       refine h_opOff ?_
       refine h_opOff ?_
       refine h_opOff ?_
       refine h_opOff ?_
       refine h_opOff ?_
       refine h_opOff ?_
       refine h_op (r_pick rfl rfl) ?_
       refine yS rfl ?_
       refine h_nil ?_
       refine q_block ?_
       refine q_then ?_
       refine h_reg ?_
       refine h_op (r_add rfl rfl) ?_
       refine yM rfl ?_
       refine h_nil ?_
       exact h_back (k + 1, false) (⟨hk2, hok', by rw [hac, cleanN h3 hd]⟩) ((show l.length - (k + 1) < l.length - k by omega)) ⟨rfl, rfl, rfl, rfl, rfl, trivial⟩ (same)
 ·obtain rfl : k = l.length := by omega
  rw [List.take_length] at hok hb
  have hpm : parseM l = match readM 256 l with | some (t, []) => if l.all cleanItem then .ok t else .error 5 | _ => .error 5 := by
   unfold parseM
   rw [if_pos hok]
   rcases readM 256 l with _ | ⟨t, r⟩
   ·rfl
   ·cases r <;> rfl
  rw [hpm]
  rcases hm : readM 256 l with _ | ⟨t, r⟩
  ·rw [hm] at hR
   refine h_exit ?_
   refine q_thenE ?_
   refine q_thenE ?_
   refine q_blockE ?_
   refine q_then ?_
   refine yR ?_
   refine yM rfl ?_
   refine h_call (hR.comes) rfl rfl rfl fun _ => ?_
   rcases b with _ | _
   ·refine yM rfl ?_
    refine h_op (r_extract rfl rfl) ?_
    refine h_op (r_extract rfl rfl) ?_
    refine yS rfl ?_
    refine yS rfl ?_
    refine yN ?_
    refine h_seq ?_
    refine yR ?_
    refine yM rfl ?_
    refine h_op (r_not rfl) ?_
    refine yM rfl ?_
    refine h_opOff ?_
    refine h_opOff ?_
    refine h_op (r_pick rfl rfl) ?_
    refine yM rfl ?_
    refine h_opOff ?_
    refine h_opOff ?_
    refine h_opOff ?_
    refine h_op (r_pick rfl rfl) ?_
    refine yN ?_
    refine h_condT rfl ?_
    refine yR ?_
    refine yS rfl ?_
    refine yS rfl ?_
    refine yN ?_
    refine h_ret ?_
    refine q_thenR ?_
    exact h_ret2 rfl rfl rfl fun w s => ⟨(), rfl, s.res (List.nil_sublist _) (by simp)⟩
   ·refine yM rfl ?_
    refine h_op (r_extract rfl rfl) ?_
    refine h_op (r_extract rfl rfl) ?_
    refine yS rfl ?_
    refine yS rfl ?_
    refine yN ?_
    refine h_seq ?_
    refine yR ?_
    refine yM rfl ?_
    refine h_op (r_not rfl) ?_
    refine yM rfl ?_
    refine yM rfl ?_
    refine h_op (r_nilnil rfl) ?_
    refine h_op (r_pick rfl rfl) ?_
    refine yM rfl ?_
    refine h_opOff ?_
    refine h_opOff ?_
    refine h_opOff ?_
    refine h_op (r_pick rfl rfl) ?_
    refine yN ?_
    refine h_condT rfl ?_
    refine yR ?_
    refine yS rfl ?_
    refine yS rfl ?_
    refine yN ?_
    refine h_ret ?_
    refine q_thenR ?_
    exact h_ret2 rfl rfl rfl fun w s => ⟨(), rfl, s.res (List.nil_sublist _) (by simp)⟩
  ·rw [hm] at hR
   refine h_exit ?_
   refine q_thenE ?_
   refine q_thenE ?_
   refine q_blockE ?_
   refine q_then ?_
   refine yR ?_
   refine yM rfl ?_
   refine h_call (hR.comes) rfl rfl rfl fun ⟨⟨A1, c1⟩, hz1, hc1⟩ => ?_
   dsimp only at hz1 hc1 ⊢
   rcases b with _ | _
   ·rw [show parseV (match (some (t, r) : Option (Sub × List Item)) with | some (t, []) => if l.all cleanItem then .ok t else .error 5 | _ => .error 5) = parseV (.error 5) by cases r <;> simp [← hb]]
    refine yM rfl ?_
    refine h_op (r_extract rfl rfl) ?_
    refine h_op (r_extract rfl rfl) ?_
    refine yS rfl ?_
    refine yS rfl ?_
    refine yN ?_
    refine h_seq ?_
    refine yR ?_
    refine yM rfl ?_
    refine h_op (r_not rfl) ?_
    refine yM rfl ?_
    refine h_opOff ?_
    refine h_opOff ?_
    refine h_op (r_pick rfl rfl) ?_
    refine yM rfl ?_
    refine h_opOff ?_
    refine h_opOff ?_
    refine h_opOff ?_
    refine h_op (r_pick rfl rfl) ?_
    refine yN ?_
    refine h_condT rfl ?_
    refine yR ?_
    refine yS rfl ?_
    refine yS rfl ?_
    refine yN ?_
    refine h_ret ?_
    refine q_thenR ?_
    exact h_ret2 rfl rfl rfl fun w s => ⟨(), rfl, s.res (List.nil_sublist _) (by simp)⟩
   ·rcases r with _ | ⟨y, r⟩
    ·rw [show parseV (match (some (t, []) : Option (Sub × List Item)) with | some (t, []) => if l.all cleanItem then .ok t else .error 5 | _ => .error 5) = parseV (.ok t) by simp [← hb]]
     refine yM rfl ?_
     refine h_op (r_extract rfl rfl) ?_
     refine h_op (r_extract rfl rfl) ?_
     refine yS rfl ?_
     refine yS rfl ?_
     refine yN ?_
     refine h_seq ?_
     refine yR ?_
     refine yM rfl ?_
     refine h_op (r_not rfl) ?_
     refine yM rfl ?_
     refine yM rfl ?_
     refine h_op (r_ifnil rfl) ?_
     refine h_op (r_pick rfl rfl) ?_
     refine yM rfl ?_
     refine yM rfl ?_
     refine h_op (r_len rfl) ?_
     refine h_op (r_bool (r_gtr rfl rfl) (show _ = false from rfl)) ?_
     refine h_op (r_pick rfl rfl) ?_
     refine yN ?_
     refine h_condF rfl ?_
     refine h_skip ?_
     refine q_then ?_
     refine yR ?_
     refine yM rfl ?_
     refine yS rfl ?_
     refine yS rfl ?_
     refine yN ?_
     refine h_ret ?_
     exact h_ret2 rfl rfl rfl fun w s => ⟨(), rfl, s.res (List.nil_sublist _) (by simp)⟩
    ·refine yM rfl ?_
     refine h_op (r_extract rfl rfl) ?_
     refine h_op (r_extract rfl rfl) ?_
     refine yS rfl ?_
     refine yS rfl ?_
     refine yN ?_
     refine h_seq ?_
     refine yR ?_
     refine yM rfl ?_
     refine h_op (r_not rfl) ?_
     refine yM rfl ?_
     refine yM rfl ?_
     refine h_op (r_ifnil rfl) ?_
     refine h_op (r_pick rfl rfl) ?_
     refine yM rfl ?_
     refine yM rfl ?_
     refine h_op (r_len rfl) ?_
     refine h_op (r_bool (r_gtr rfl rfl) (decide_eq_true (by simp))) ?_
     refine h_op (r_pick rfl rfl) ?_
     refine yN ?_
     refine h_condT rfl ?_
     refine yR ?_
     refine yS rfl ?_
     refine yS rfl ?_
     refine yN ?_
     refine h_ret ?_
     refine q_thenR ?_
     exact h_ret2 rfl rfl rfl fun w s => ⟨(), rfl, s.res (List.nil_sublist _) (by simp)⟩
theorem mCheck_s (l : List Item) (A : Option Addr) (c : Nat) [hr : RdZ h A (its l)] (hc : l.length ≤ c) (hl : l.length ≤ 1000000) : Spec Tryz.prog 100 [.slice A l.length c].toArray [.zone false h] [] (fun _ : Unit => .int .i64 (checkM l)) (fun _ => []) := by
 have hp := parse_s h l A c hc hl
 unfold checkM
 refine spec_of Tryz.func100 rfl (n := 11) rfl rfl ?_
 intro W
 refine yR ?_
 refine yS rfl ?_
 refine yN ?_
 refine yR ?_
 refine yM rfl ?_
 refine h_call (hp.comes) rfl rfl rfl fun _ => ?_
 cases parseM l
 ·refine yM rfl ?_
  refine h_op (r_extract rfl rfl) ?_
  refine h_op (r_extract rfl rfl) ?_
  refine yS rfl ?_
  refine yS rfl ?_
  refine yN ?_
  refine yR ?_
  refine yM rfl ?_
  refine yS rfl ?_
  refine yN ?_
  refine h_ret ?_
  exact h_ret1 rfl rfl fun w s => ⟨(), rfl, s.res (List.nil_sublist _) (by simp)⟩
 ·refine yM rfl ?_
  refine h_op (r_extract rfl rfl) ?_
  refine h_op (r_extract rfl rfl) ?_
  refine yS rfl ?_
  refine yS rfl ?_
  refine yN ?_
  refine yR ?_
  refine yM rfl ?_
  refine yS rfl ?_
  refine yN ?_
  refine h_ret ?_
  exact h_ret1 rfl rfl fun w s => ⟨(), rfl, s.res (List.nil_sublist _) (by simp)⟩
end
end Go.Proofs.YtjhocljhhpkiiaaGreatDoor
/- U64 -/
namespace Go.Proofs.YtjhocljhhpkiiaaGreatDoor
open Go.RowKit
def preI (x : Item) : List UInt8 := if x.kind = 1 then preL x.leaf else preE
def dgS (n : Nat) : Sub → B32
 | .one x => if x.kind = 3 then x.digest else sumB n (preI x)
 | .two l r => sumB n (preN (dgS n l) (dgS n r))
def Sub.cost : Sub → Nat
 | .one x => if x.kind = 3 then 0 else 1
 | .two l r => l.cost + r.cost + 1
def Sub.dig : Sub → FuncId
 | .one _ => 249
 | .two _ _ => 248
instance iU64_1 : MethT Tryz.prog 235 "sparsetree/multi.digest" 249 := ⟨fun v args w => by kernel_rfl⟩
instance iU64_2 : MethT Tryz.prog 232 "sparsetree/multi.digest" 248 := ⟨fun v args w => by kernel_rfl⟩
instance (t : Sub) : MethT Tryz.prog t.tag "sparsetree/multi.digest" t.dig := by
 cases t
 ·exact inferInstanceAs (MethT Tryz.prog 235 _ 249)
 ·exact inferInstanceAs (MethT Tryz.prog 232 _ 248)
theorem preI_len (x : Item) : (preI x).length ≤ 65 := by
 unfold preI
 split
 ·rw [preL_len]; exact Nat.le_refl _
 ·decide
theorem epre_s (x : Item) : Spec Tryz.prog 148 [.agg x.cells.toArray].toArray [] [] (fun u : Nat × Nat => .slice (some ⟨u.1, 0, none⟩) (preI x).length u.2) (fun u => [.own (.slice (some ⟨u.1, 0, none⟩) (preI x).length u.2) (preI x).length 5 1 (bc (preI x))]) := by
 refine spec_of Tryz.func148 rfl (n := 12) rfl rfl ?_
 intro W
 by_cases hk : x.kind = 1
 ·rw [show preI x = preL x.leaf from if_pos hk]
  refine yR ?_
  refine h_opX (x_box rfl) fun g1 => ?_
  refine yS rfl ?_
  refine yN ?_
  refine h_seq ?_
  refine yR ?_
  refine h_op (r_field rfl) ?_
  refine h_op (r_field rfl) ?_
  refine h_op (r_loadc rfl) ?_
  refine h_op (r_bool (r_eql rfl rfl) (decide_eq_true hk)) ?_
  refine yN ?_
  refine h_condT rfl ?_
  refine yR ?_
  refine h_op (r_field rfl) ?_
  refine h_op (r_field rfl) ?_
  refine h_op (r_loadr rfl) ?_
  refine h_call ((pLeaf_s x.leaf).comes) rfl rfl rfl fun ⟨g10, c10⟩ => ?_
  refine yS rfl ?_
  refine yN ?_
  refine h_ret ?_
  refine q_thenR ?_
  exact h_ret1 rfl rfl fun w s => ⟨(g10, c10), rfl, (same w s).res (List.Sublist.refl _) (by simp [Fa.wr])⟩
 ·rw [show preI x = preE from if_neg hk, show preE.length = 1 from rfl]
  refine yR ?_
  refine h_opX (x_box rfl) fun g1 => ?_
  refine yS rfl ?_
  refine yN ?_
  refine h_seq ?_
  refine yR ?_
  refine h_op (r_field rfl) ?_
  refine h_op (r_field rfl) ?_
  refine h_op (r_loadc rfl) ?_
  refine h_op (r_bool (r_eql rfl rfl) (decide_eq_false hk)) ?_
  refine yN ?_
  refine h_condF rfl ?_
  refine h_skip ?_
  refine q_then ?_
  refine yR ?_
  refine h_call ((pEmpty_s).comes) rfl rfl rfl fun ⟨g11, c11⟩ => ?_
  refine yS rfl ?_
  refine yN ?_
  refine h_ret ?_
  exact h_ret1 rfl rfl fun w s => ⟨(g11, c11), rfl, (same w s).res (List.Sublist.refl _) (by simp [Fa.wr])⟩
section
variable (n : Nat) (hn : n ≤ 256) (gh gc : Nat)
include hn
theorem edig_s (x : Item) (k : Nat) (hk : k ≤ 100000000000) : Spec Tryz.prog 249 [.agg x.cells.toArray, .pointer (some ⟨gh, 0, none⟩)].toArray [HR gh gc n, TBL] [CN gc k] (fun _ : Unit => .agg (dgS n (.one x)).cells.toArray) (fun _ => [CN gc (k + (Sub.one x).cost)]) := by
 have hl := preI_len x
 unfold dgS Sub.cost
 refine spec_of Tryz.func249 rfl (n := 16) rfl rfl ?_
 intro W
 by_cases h3 : x.kind = 3
 ·rw [if_pos h3, if_pos h3]
  refine yR ?_
  refine h_opX (x_box rfl) fun g2 => ?_
  refine h_opX (x_alloc) fun g4 => ?_
  refine yN ?_
  refine h_seq ?_
  refine yR ?_
  refine h_op (r_field rfl) ?_
  refine h_op (r_field rfl) ?_
  refine h_op (r_loadc rfl) ?_
  refine h_op (r_bool (r_eql rfl rfl) (decide_eq_true h3)) ?_
  refine yN ?_
  refine h_condT rfl ?_
  refine yR ?_
  refine h_op (r_field rfl) ?_
  refine h_op (r_field rfl) ?_
  refine h_op (r_loadr rfl) ?_
  refine h_opS (s_storer rfl rfl) ?_
  refine yN ?_
  refine h_ret ?_
  refine q_thenR ?_
  exact h_ret1 rfl (rv_row rfl) fun w s => ⟨(), rfl, (same (L' := [CN gc k]) w s).res (List.Sublist.refl _) (by simp [Fa.wr])⟩
 ·rw [if_neg h3, if_neg h3]
  refine yR ?_
  refine h_opX (x_box rfl) fun g2 => ?_
  refine h_opX (x_alloc) fun g4 => ?_
  refine yN ?_
  refine h_seq ?_
  refine yR ?_
  refine h_op (r_field rfl) ?_
  refine h_op (r_field rfl) ?_
  refine h_op (r_loadc rfl) ?_
  refine h_op (r_bool (r_eql rfl rfl) (decide_eq_false h3)) ?_
  refine yN ?_
  refine h_condF rfl ?_
  refine h_skip ?_
  refine q_then ?_
  refine yR ?_
  refine yM rfl ?_
  refine h_op (r_loadr rfl) ?_
  refine h_call ((epre_s x).comes) rfl rfl rfl fun ⟨g14, c14⟩ => ?_
  refine h_call ((HSum_s n hn gh gc k (by omega) (preI x) (some ⟨g14, 0, none⟩) c14 (fun h => by cases h) (by omega)).comes) rfl rfl rfl fun _ => ?_
  refine h_opS (s_storer rfl rfl) ?_
  refine yN ?_
  refine h_ret ?_
  exact h_ret1 rfl (rv_row rfl) fun w s => ⟨(), rfl, (same (L' := [CN gc (k + 1)]) w s).res (List.Sublist.refl _) (by simp [Fa.wr])⟩
def DigS (t : Sub) : Prop := ∀ k, k + t.cost ≤ 100000000000 → Spec Tryz.prog t.dig [t.val, .pointer (some ⟨gh, 0, none⟩)].toArray [HR gh gc n, TBL] [CN gc k] (fun _ : Unit => .agg (dgS n t).cells.toArray) (fun _ => [CN gc (k + t.cost)])
omit hn in
theorem ppre_s (l r : Sub) (hl : DigS n gh gc l) (hr : DigS n gh gc r) (k : Nat) (hk : k + (l.cost + r.cost) ≤ 100000000000) : Spec Tryz.prog 146 [(Sub.two l r).val, .pointer (some ⟨gh, 0, none⟩)].toArray [HR gh gc n, TBL] [CN gc k] (fun u : Nat × Nat => .slice (some ⟨u.1, 0, none⟩) (preN (dgS n l) (dgS n r)).length u.2) (fun u => [.own (.slice (some ⟨u.1, 0, none⟩) (preN (dgS n l) (dgS n r)).length u.2) (preN (dgS n l) (dgS n r)).length 5 1 (bc (preN (dgS n l) (dgS n r))), CN gc (k + l.cost + r.cost)]) := by
 refine spec_of Tryz.func146 rfl (n := 14) rfl rfl ?_
 intro W
 change H _ _ _ _ (argsEnv 0 [.agg [.iface l.tag l.val, .iface r.tag r.val].toArray, .pointer (some ⟨gh, 0, none⟩)]) _ _
 refine yR ?_
 refine h_opX (x_box rfl) fun g2 => ?_
 refine yS rfl ?_
 refine yN ?_
 refine h_seq ?_
 refine ha_start [.blk g2 [.iface l.tag l.val, .iface r.tag r.val] 232] [] mixed (same) ?_
 refine ha_takeP 0 rfl (r_idxA rfl rfl) ?_
 refine ha_take 1 rfl (r_loadc rfl) ?_
 refine ha_takeP 2 rfl (r_move rfl) ?_
 refine ha_takeP 4 rfl (r_idxA rfl rfl) ?_
 refine ha_take 5 rfl (r_loadc rfl) ?_
 refine ha_takeP 6 rfl (r_move rfl) ?_
 refine ha_one 3 ?_
 refine ho_CM 3 rfl ((hl k (by omega)).comes) rfl rfl rfl (fun xx => same) fun _ => ?_
 refine ha_one 7 ?_
 refine ho_CM 7 rfl ((hr (k + l.cost) (by omega)).comes) rfl rfl rfl (fun xx => same) fun _ => ?_
 refine ha_one 8 ?_
 refine ho_C 8 rfl ((pNode_s (dgS n l) (dgS n r)).comes) rfl rfl rfl (fun xx => same) fun ⟨g13, c13⟩ => ?_
 refine ha_takeP 9 rfl (r_assign rfl) ?_
 refine ha_done (by kernel_rfl) ?_
 refine q_then ?_
 refine h_ret ?_
 exact h_ret1 rfl rfl fun w s => ⟨(g13, c13), rfl, (same w s).res (List.Sublist.refl _) (by simp [Fa.wr])⟩
theorem dig_s : ∀ t : Sub, DigS n gh gc t
 | .one x => fun k hk => edig_s n hn gh gc x k (by omega)
 | .two l r => fun k hk => by
  have ihl := dig_s l
  have ihr := dig_s r
  have hk' : k + (l.cost + r.cost + 1) ≤ 100000000000 := hk
  show Spec Tryz.prog 248 _ _ _ _ (fun _ => [CN gc (k + (l.cost + r.cost + 1))])
  unfold dgS
  have hP := ppre_s n gh gc l r ihl ihr k (by omega)
  have hpl := preN_len (dgS n l) (dgS n r)
  rw [show k + (l.cost + r.cost + 1) = k + l.cost + r.cost + 1 by omega]
  refine spec_of Tryz.func248 rfl (n := 10) rfl rfl ?_
  intro W
  change H _ _ _ _ (argsEnv 0 [.agg [.iface l.tag l.val, .iface r.tag r.val].toArray, .pointer (some ⟨gh, 0, none⟩)]) _ _
  refine yR ?_
  refine h_opX (x_box rfl) fun g2 => ?_
  refine h_opX (x_alloc) fun g4 => ?_
  refine yN ?_
  refine yR ?_
  refine yM rfl ?_
  refine h_op (r_loadr rfl) ?_
  refine yM rfl ?_
  refine h_call (hP.comes) rfl rfl rfl fun ⟨g8, c8⟩ => ?_
  dsimp only
  refine h_call ((HSum_s n hn gh gc (k + l.cost + r.cost) (by omega) (preN (dgS n l) (dgS n r)) (some ⟨g8, 0, none⟩) c8 (fun h => by cases h) (by omega)).comes) rfl rfl rfl fun _ => ?_
  refine h_opS (s_storer rfl rfl) ?_
  refine yN ?_
  refine h_ret ?_
  exact h_ret1 rfl (rv_row rfl) fun w s => ⟨(), rfl, (same (L' := [CN gc (k + l.cost + r.cost + 1)]) w s).res (List.Sublist.refl _) (by simp [Fa.wr])⟩
end
end Go.Proofs.YtjhocljhhpkiiaaGreatDoor
/- U65 -/
namespace Go.Proofs.YtjhocljhhpkiiaaGreatDoor
open Go.RowKit
end Go.Proofs.YtjhocljhhpkiiaaGreatDoor
/- U66 -/
namespace Go.Proofs.YtjhocljhhpkiiaaGreatDoor
open Go.RowKit
end Go.Proofs.YtjhocljhhpkiiaaGreatDoor
/- U67 -/
namespace Go.Proofs.YtjhocljhhpkiiaaGreatDoor
open Go.RowKit
theorem readM_cost : ∀ (d : Nat) (l : List Item) (t : Sub) (r : List Item), readM d l = some (t, r) → t.cost + r.length ≤ l.length
 | d, [], t, r, h => by cases d <;> cases h
 | d, x :: l, t, r, h => by
  by_cases hk : x.kind = 2
  ·match d, h with
   | 0, h => unfold readM at h; rw [if_pos hk] at h; cases h
   | d + 1, h =>
    unfold readM at h
    rw [if_pos hk] at h
    obtain ⟨p, hp, h⟩ := Option.bind_eq_some_iff.1 h
    obtain ⟨q, hq, h⟩ := Option.bind_eq_some_iff.1 h
    have h1 := readM_cost d l p.1 p.2 hp
    have h2 := readM_cost d p.2 q.1 q.2 hq
    simp only [Option.some.injEq, Prod.mk.injEq] at h
    rw [← h.1, ← h.2]
    show p.1.cost + q.1.cost + 1 + q.2.length ≤ (x :: l).length
    rw [List.length_cons]
    omega
  ·have h' : readM d (x :: l) = some (.one x, l) := by cases d <;> (unfold readM; rw [if_neg hk])
   rw [h'] at h
   simp only [Option.some.injEq, Prod.mk.injEq] at h
   rw [← h.1, ← h.2]
   show (if x.kind = 3 then 0 else 1) + l.length ≤ (x :: l).length
   rw [List.length_cons]
   split <;> omega
theorem parse_ok {l : List Item} {t : Sub} (h : parseM l = .ok t) : readM 256 l = some (t, []) ∧ l.all kindOk = true ∧ l.all cleanItem = true := by
 unfold parseM at h
 by_cases h1 : l.all kindOk = true
 ·rw [if_pos h1] at h
  rcases hm : readM 256 l with _ | ⟨t', r⟩
  ·rw [hm] at h; cases h
  ·rw [hm] at h
   cases r with
   | nil =>
    by_cases h2 : l.all cleanItem = true
    ·simp only [h2, if_true] at h
     injection h with h
     exact ⟨by rw [h], h1, h2⟩
    ·simp only [h2] at h
     cases h
   | cons y r => cases h
 ·rw [if_neg h1] at h
  cases h
section
variable (h : Zh) [hT : RdZ h (some ⟨1, 0, none⟩) hashT]
theorem mRoot_s (n : Nat) (hn : n ≤ 256) (gh gc k : Nat) (hk : k ≤ 1000000000) (l : List Item) (A : Option Addr) (c : Nat) [hr : RdZ h A (its l)] (hc : l.length ≤ c) (hl : l.length ≤ 1000000) (t : Sub) (hp : parseM l = .ok t) : Spec Tryz.prog 156 [.pointer (some ⟨gh, 0, none⟩), .slice A l.length c].toArray [.zone false h, HR gh gc n] [CN gc k] (fun _ : Unit => .tuple #[.agg (dgS n t).cells.toArray, .int .i64 0]) (fun _ => [CN gc (k + t.cost)]) := by
 have hP := parse_s h l A c hc hl
 rw [hp] at hP
 have hco := readM_cost 256 l t [] (parse_ok hp).1
 have hD := dig_s n hn gh gc t k (by simp at hco; omega)
 refine spec_of Tryz.func156 rfl (n := 20) rfl rfl ?_
 intro W
 refine yR ?_
 refine h_opX (x_alloc) fun g4 => ?_
 refine yS rfl ?_
 refine yN ?_
 refine yR ?_
 refine yM rfl ?_
 refine h_call (hP.comes) rfl rfl rfl fun _ => ?_
 refine yM rfl ?_
 refine h_op (r_extract rfl rfl) ?_
 refine h_op (r_extract rfl rfl) ?_
 refine yS rfl ?_
 refine yS rfl ?_
 refine yN ?_
 refine h_seq ?_
 refine yR ?_
 refine yM rfl ?_
 refine h_op (r_neq rfl rfl) ?_
 refine yN ?_
 refine h_no rfl ((fun h => h rfl)) ?_
 refine h_skip ?_
 refine q_then ?_
 refine yR ?_
 refine yM rfl ?_
 refine yM rfl ?_
 refine h_callM (hD.comes) rfl rfl rfl fun _ => ?_
 refine h_opS (s_storer rfl rfl) ?_
 refine yS rfl ?_
 refine yN ?_
 refine h_ret ?_
 exact h_ret2 rfl (rv_row rfl) rfl fun w s => ⟨(), rfl, (same (L' := [CN gc (k + t.cost)]) w s).res (List.Sublist.refl _) (by simp [Fa.wr])⟩
end
end Go.Proofs.YtjhocljhhpkiiaaGreatDoor
/- E18 -/
namespace Go.Proofs.YtjhocljhhpkiiaaGreatDoor
open Go.RowKit
abbrev innerI : Item := ⟨2, zB32, zLeaf⟩
def Sub.flat : Sub → List Item
 | .one x => [x]
 | .two l r => innerI :: (l.flat ++ r.flat)
def Sub.ht : Sub → Nat
 | .one _ => 0
 | .two l r => max l.ht r.ht + 1
def Sub.ok : Sub → Prop
 | .one x => x.kind ≠ 2 ∧ kindOk x = true ∧ cleanItem x = true
 | .two l r => l.ok ∧ r.ok
def Sub.sz : Sub → Nat
 | .one _ => 1
 | .two l r => l.sz + r.sz + 1
theorem Sub.flat_len : ∀ t : Sub, t.flat.length = t.sz
 | .one _ => rfl
 | .two l r => by
  show (l.flat ++ r.flat).length + 1 = _
  rw [List.length_append, l.flat_len, r.flat_len]
  rfl
theorem Sub.sz_pos : ∀ t : Sub, 0 < t.sz
 | .one _ => Nat.one_pos
 | .two _ _ => Nat.succ_pos _
theorem read_flat : ∀ (t : Sub) (d : Nat) (rest : List Item), t.ok → t.ht ≤ d → readM d (t.flat ++ rest) = some (t, rest)
 | .one x, d, rest, ho, _ => by
  show readM d (x :: rest) = _
  cases d <;> (unfold readM; rw [if_neg ho.1])
 | .two l r, 0, rest, ho, hd => absurd hd (by simp [Sub.ht])
 | .two l r, d + 1, rest, ho, hd => by
  have hd' : max l.ht r.ht + 1 ≤ d + 1 := hd
  show readM (d + 1) (innerI :: ((l.flat ++ r.flat) ++ rest)) = _
  unfold readM
  rw [if_pos rfl, List.append_assoc, read_flat l d _ ho.1 (by omega)]
  simp only [Option.bind_some]
  rw [read_flat r d _ ho.2 (by omega)]
  rfl
theorem flat_read : ∀ (d : Nat) (l : List Item) (t : Sub) (rest : List Item), readM d l = some (t, rest) → l.all kindOk = true → l.all cleanItem = true → l = t.flat ++ rest ∧ t.ok ∧ t.ht ≤ d ∧ rest.all kindOk = true ∧ rest.all cleanItem = true
 | d, [], t, r, h, _, _ => by cases d <;> cases h
 | d, x :: l, t, r, h, hk, hc => by
  rw [List.all_cons, Bool.and_eq_true] at hk hc
  by_cases hk2 : x.kind = 2
  ·match d, h with
   | 0, h => unfold readM at h; rw [if_pos hk2] at h; cases h
   | d + 1, h =>
    unfold readM at h
    rw [if_pos hk2] at h
    obtain ⟨p, hp, h⟩ := Option.bind_eq_some_iff.1 h
    obtain ⟨q, hq, h⟩ := Option.bind_eq_some_iff.1 h
    obtain ⟨a1, a2, a3, a4, a5⟩ := flat_read d l p.1 p.2 hp hk.2 hc.2
    obtain ⟨b1, b2, b3, b4, b5⟩ := flat_read d p.2 q.1 q.2 hq a4 a5
    simp only [Option.some.injEq, Prod.mk.injEq] at h
    rw [← h.1, ← h.2]
    refine ⟨?_, ⟨a2, b2⟩, ?_, b4, b5⟩
    ·show x :: l = innerI :: (p.1.flat ++ q.1.flat) ++ q.2
     have hx : x = innerI := by
      have h1 := hc.1
      unfold cleanItem at h1
      simp only [hk2] at h1
      simp at h1
      obtain ⟨k, dg, lf⟩ := x
      simp only at hk2 h1
      rw [hk2, h1.1, h1.2]
     rw [hx, List.cons_append, List.append_assoc, ← b1, ← a1]
    ·show max p.1.ht q.1.ht + 1 ≤ d + 1
     omega
  ·have h' : readM d (x :: l) = some (.one x, l) := by cases d <;> (unfold readM; rw [if_neg hk2])
   rw [h'] at h
   simp only [Option.some.injEq, Prod.mk.injEq] at h
   rw [← h.1, ← h.2]
   exact ⟨rfl, ⟨hk2, hk.1, hc.1⟩, Nat.zero_le _, hk.2, hc.2⟩
theorem parse_flat {l : List Item} {t : Sub} (h : parseM l = .ok t) : l = t.flat ∧ t.ok ∧ t.ht ≤ 256 := by
 obtain ⟨h1, h2, h3⟩ := parse_ok h
 obtain ⟨a, b, c, _⟩ := flat_read 256 l t [] h1 h2 h3
 exact ⟨by rw [a, List.append_nil], b, c⟩
def Sub.endI (k : B32) : Sub → Nat → Item × Nat
 | .one x, d => (x, d)
 | .two l r, d => if bitAt k d then r.endI k (d + 1) else l.endI k (d + 1)
def Sub.way (k : B32) : Sub → Nat → Nat → List Nat
 | .one _, _, i => [i]
 | .two l r, d, i => i :: if bitAt k d then r.way k (d + 1) (i + 1 + l.sz) else l.way k (d + 1) (i + 1)
theorem way_rng {k : B32} : ∀ {t : Sub} {d i j : Nat}, j ∈ t.way k d i → i ≤ j ∧ j < i + t.sz
 | .one _, d, i, j, h => by obtain rfl := List.mem_singleton.1 h; exact ⟨Nat.le_refl _, Nat.lt_succ_self _⟩
 | .two l r, d, i, j, h => by
  show i ≤ j ∧ j < i + (l.sz + r.sz + 1)
  rcases List.mem_cons.1 h with rfl | h
  ·omega
  ·cases hb : bitAt k d
   ·rw [hb, if_neg (by simp)] at h
    have := way_rng h
    omega
   ·rw [hb, if_pos rfl] at h
    have := way_rng h
    omega
theorem way_head (k : B32) (t : Sub) (d i : Nat) : i ∈ t.way k d i := by cases t <;> exact List.mem_cons_self ..
def endsM : Sub → List B32 → Nat → List (Item × Nat) × Bool
 | .one x, ks, d => (ks.map fun _ => (x, d), x.kind != 3 || ks.isEmpty)
 | .two l r, ks, d => if ks.isEmpty then ([], false) else
   if (endsM l (keysB ks d false) (d + 1)).2 then ((endsM l (keysB ks d false) (d + 1)).1 ++ (endsM r (keysB ks d true) (d + 1)).1, (endsM r (keysB ks d true) (d + 1)).2)
   else ((endsM l (keysB ks d false) (d + 1)).1, false)
theorem endsM_len : ∀ (t : Sub) (ks : List B32) (d : Nat), (endsM t ks d).1.length ≤ ks.length
 | .one x, ks, d => by show (ks.map _).length ≤ _; rw [List.length_map]; exact Nat.le_refl _
 | .two l r, ks, d => by
  have h1 := endsM_len l (keysB ks d false) (d + 1)
  have h2 := endsM_len r (keysB ks d true) (d + 1)
  have h3 : (keysB ks d false).length + (keysB ks d true).length = ks.length := by
   unfold keysB
   clear h1 h2
   induction ks with
   | nil => rfl
   | cons e m ih =>
    cases hb : bitAt e d
    ·rw [List.filter_cons_of_pos (by simp [hb]), List.filter_cons_of_neg (by simp [hb]), List.length_cons, List.length_cons]; omega
    ·rw [List.filter_cons_of_neg (by simp [hb]), List.filter_cons_of_pos (by simp [hb]), List.length_cons, List.length_cons]; omega
  unfold endsM
  split
  ·exact Nat.zero_le _
  ·split
   ·rw [List.length_append]; omega
   ·show (endsM l _ _).1.length ≤ _
    omega
theorem keys_cut {ks : List B32} {d : Nat} (ho : ks.Pairwise ltK) (ha : AlikeK ks d) : keysB ks d false ++ keysB ks d true = ks := by
 obtain ⟨m, _, _, h1, h2⟩ := split_at ho ha
 unfold keysB
 rw [← h1, ← h2, List.take_append_drop]
theorem keysB_mem {ks : List B32} {d : Nat} {b : Bool} {k : B32} : k ∈ keysB ks d b ↔ k ∈ ks ∧ bitAt k d = b := by unfold keysB; simp
theorem endsM_map : ∀ (t : Sub) (ks : List B32) (d : Nat), ks.Pairwise ltK → AlikeK ks d → (endsM t ks d).2 = true → (endsM t ks d).1 = ks.map fun k => t.endI k d
 | .one x, ks, d, _, _, _ => rfl
 | .two l r, ks, d, ho, ha, h => by
  unfold endsM at h ⊢
  split at h
  ·cases h
  ·split at h
   ·rename_i h1 h2
    rw [if_neg h1, if_pos h2]
    show (endsM l _ _).1 ++ (endsM r _ _).1 = _
    rw [endsM_map l _ _ (keysB_ord ho _) (keysB_alike ha _) h2, endsM_map r _ _ (keysB_ord ho _) (keysB_alike ha _) h]
    conv => rhs; rw [← keys_cut ho ha, List.map_append]
    congr 1
    ·exact List.map_congr_left fun k hk => by rw [Sub.endI, (keysB_mem.1 hk).2]; rfl
    ·exact List.map_congr_left fun k hk => by rw [Sub.endI, (keysB_mem.1 hk).2]; rfl
   ·cases h
def fitsR (t : Sub) (ks : List B32) (d i : Nat) : Prop := (∀ k ∈ ks, (t.endI k d).1.kind ≠ 3) ∧ ∀ (j : Nat) (x : Item), t.flat[j]? = some x → x.kind = 2 → ∃ k ∈ ks, i + j ∈ t.way k d i
theorem fits_iff : ∀ (t : Sub) (ks : List B32) (d i : Nat), t.ok → ((endsM t ks d).2 = true ↔ fitsR t ks d i)
  | .one x, ks, d, i, ho => by
    show (x.kind != 3 || ks.isEmpty) = true ↔ _
    constructor
    · intro h
      refine ⟨fun k hk => ?_, fun j y hj hy => ?_⟩
      · show x.kind ≠ 3
        cases ks with
        | nil => cases hk
        | cons => simpa using h
      · cases j with
        | zero => obtain rfl : x = y := by simpa [Sub.flat] using hj
                  exact (ho.1 hy).elim
        | succ j => simp [Sub.flat] at hj
    · rintro ⟨h, _⟩
      cases ks with
      | nil => simp
      | cons k ks =>
        have : x.kind ≠ 3 := h k (List.mem_cons_self ..)
        simp [this]
  | .two l r, ks, d, i, ho => by
    have ihl := fits_iff l (keysB ks d false) (d + 1) (i + 1) ho.1
    have ihr := fits_iff r (keysB ks d true) (d + 1) (i + 1 + l.sz) ho.2
    have h0 : (endsM (.two l r) ks d).2 = true ↔ ks ≠ [] ∧ (endsM l (keysB ks d false) (d + 1)).2 = true ∧ (endsM r (keysB ks d true) (d + 1)).2 = true := by
      conv => lhs; unfold endsM
      cases ks with
      | nil => simp
      | cons k ks =>
        by_cases h1 : (endsM l (keysB (k :: ks) d false) (d + 1)).2 = true
        · simp [h1]
        · simp [h1]
    rw [h0, ihl, ihr]
    have hE : ∀ k b, bitAt k d = b → (Sub.two l r).endI k d = if b then r.endI k (d + 1) else l.endI k (d + 1) := fun k b hb => by rw [Sub.endI, hb]
    have hW : ∀ k b, bitAt k d = b → (Sub.two l r).way k d i = i :: if b then r.way k (d + 1) (i + 1 + l.sz) else l.way k (d + 1) (i + 1) := fun k b hb => by rw [Sub.way, hb]
    have hf : (Sub.two l r).flat = innerI :: (l.flat ++ r.flat) := rfl
    constructor
    · rintro ⟨hne, ⟨a1, a2⟩, b1, b2⟩
      refine ⟨fun k hk => ?_, fun j x hj hx => ?_⟩
      · cases hb : bitAt k d
        · rw [hE k _ hb]; exact a1 k (keysB_mem.2 ⟨hk, hb⟩)
        · rw [hE k _ hb]; exact b1 k (keysB_mem.2 ⟨hk, hb⟩)
      · rw [hf] at hj
        cases j with
        | zero =>
          obtain ⟨k, ks', rfl⟩ := List.exists_cons_of_ne_nil hne
          exact ⟨k, List.mem_cons_self .., way_head k _ d i⟩
        | succ j =>
          rw [List.getElem?_cons_succ] at hj
          rcases Nat.lt_or_ge j l.sz with h1 | h1
          · rw [List.getElem?_append_left (by rw [l.flat_len]; exact h1)] at hj
            obtain ⟨k, hk, hw⟩ := a2 j x hj hx
            obtain ⟨hk, hb⟩ := keysB_mem.1 hk
            refine ⟨k, hk, ?_⟩
            rw [hW k _ hb]
            exact List.mem_cons_of_mem _ (by rw [show i + (j + 1) = i + 1 + j by omega]; exact hw)
          · rw [List.getElem?_append_right (by rw [l.flat_len]; exact h1), l.flat_len] at hj
            obtain ⟨k, hk, hw⟩ := b2 (j - l.sz) x hj hx
            obtain ⟨hk, hb⟩ := keysB_mem.1 hk
            refine ⟨k, hk, ?_⟩
            rw [hW k _ hb]
            exact List.mem_cons_of_mem _ (by rw [show i + (j + 1) = i + 1 + l.sz + (j - l.sz) by omega]; exact hw)
    · rintro ⟨h1, h2⟩
      refine ⟨fun e => ?_, ⟨fun k hk => ?_, fun j x hj hx => ?_⟩, fun k hk => ?_, fun j x hj hx => ?_⟩
      · obtain ⟨k, hk, _⟩ := h2 0 innerI rfl rfl
        rw [e] at hk
        cases hk
      · obtain ⟨hk, hb⟩ := keysB_mem.1 hk
        have := h1 k hk
        rwa [hE k _ hb] at this
      · have hl := (List.getElem?_eq_some_iff.1 hj).1
        rw [l.flat_len] at hl
        obtain ⟨k, hk, hw⟩ := h2 (j + 1) x (by rw [hf, List.getElem?_cons_succ, List.getElem?_append_left (by rw [l.flat_len]; exact hl)]; exact hj) hx
        cases hb : bitAt k d
        · rw [hW k _ hb] at hw
          rcases List.mem_cons.1 hw with e | hw
          · omega
          · exact ⟨k, keysB_mem.2 ⟨hk, hb⟩, by rw [show i + 1 + j = i + (j + 1) by omega]; exact hw⟩
        · rw [hW k _ hb] at hw
          rcases List.mem_cons.1 hw with e | hw
          · omega
          · have := way_rng hw
            omega
      · obtain ⟨hk, hb⟩ := keysB_mem.1 hk
        have := h1 k hk
        rwa [hE k _ hb] at this
      · have hl := (List.getElem?_eq_some_iff.1 hj).1
        rw [r.flat_len] at hl
        obtain ⟨k, hk, hw⟩ := h2 (l.sz + j + 1) x (by rw [hf, List.getElem?_cons_succ, List.getElem?_append_right (by rw [l.flat_len]; omega), l.flat_len, Nat.add_sub_cancel_left]; exact hj) hx
        cases hb : bitAt k d
        · rw [hW k _ hb] at hw
          rcases List.mem_cons.1 hw with e | hw
          · omega
          · have := way_rng hw
            omega
        · rw [hW k _ hb] at hw
          rcases List.mem_cons.1 hw with e | hw
          · omega
          · exact ⟨k, keysB_mem.2 ⟨hk, hb⟩, by rw [show i + 1 + l.sz + j = i + (l.sz + j + 1) by omega]; exact hw⟩
end Go.Proofs.YtjhocljhhpkiiaaGreatDoor
/- U70 -/
namespace Go.Proofs.YtjhocljhhpkiiaaGreatDoor
open Go.RowKit
theorem splitF_s (l : List B32) (A : Option Addr) (c i j g2 g3 : Nat) (hj : j < l.length) (hi : i < 256) : Spec Tryz.prog 211 [.int .i64 (j : Int), .pointer (some ⟨g2, 0, none⟩), .pointer (some ⟨g3, 0, none⟩)].toArray [.rd (some ⟨g2, 0, none⟩) [.slice A l.length c], .rd (some ⟨g3, 0, none⟩) [.int .i64 (i : Int)], .rd A (dgs l)] [] (fun _ : Unit => .bool (bitAt (l.getD j zB32) i)) (fun _ => []) := by
 have h1 := dgs_at hj
 refine spec_of Tryz.func211 rfl (n := 12) rfl rfl ?_
 intro W
 refine h_pure (φ := ∃ b o, A = some ⟨b, o, none⟩) (fun w s => Rd.some (s.ok (.rd A (dgs l)) (by simp)) (by rw [dgs_len]; omega)) ?_
 rintro ⟨b, o, rfl⟩
 refine yR ?_
 refine yS rfl ?_
 refine yN ?_
 refine h_seq ?_
 refine ha_start [.rd (some ⟨g2, 0, none⟩) [.slice (some ⟨b, o, none⟩) l.length c], .rd (some ⟨g3, 0, none⟩) [.int .i64 (i : Int)], .rd (some ⟨b, o, none⟩) (dgs l)] [] mixed (same) ?_
 refine ha_take 0 rfl (r_loadc rfl) ?_
 refine ha_takeP 1 rfl (r_move rfl) ?_
 refine ha_takeP 2 rfl (r_idx rfl rfl) ?_
 refine ha_take 3 rfl (r_nthr rfl (out := (l.getD j zB32).cells) (B32.cells_length _) h1) ?_
 refine ha_take 4 rfl (r_loadc rfl) ?_
 refine ha_one 5 ?_
 refine ho_C 5 rfl ((Bit_s (l.getD j zB32) i hi).comes) rfl rfl rfl (fun xx => same) fun _ => ?_
 refine ha_takeP 6 rfl (r_bool (r_eql rfl rfl) (bitN_one (l.getD j zB32) i)) ?_
 refine ha_takeP 7 rfl (r_assign rfl) ?_
 refine ha_done (by kernel_rfl) ?_
 refine q_then ?_
 refine h_ret ?_
 exact h_ret1 rfl rfl fun w s => ⟨(), rfl, s.res (List.nil_sublist _) (by simp)⟩
theorem half (a : Nat) (h : a < 18446744073709551616) : (((BitVec.ofNat 64 a) >>> 1).toNat : Int) = ((a / 2 : Nat) : Int) := by
 rw [BitVec.toNat_ushiftRight, BitVec.toNat_ofNat, Nat.mod_eq_of_lt (by omega), Nat.shiftRight_eq_div_pow]
theorem Search_s (l : List B32) (A : Option Addr) (c i g2 g3 m : Nat) (hi : i < 256) (hl : l.length ≤ 1000000) (hm : m ≤ l.length) (hp : ∀ j, j < l.length → bitAt (l.getD j zB32) i = decide (m ≤ j)) : Spec Tryz.prog 210 [.int .i64 (l.length : Int), .func (.func 211) #[] [.pointer (some ⟨g2, 0, none⟩), .pointer (some ⟨g3, 0, none⟩)].toArray].toArray [.rd (some ⟨g2, 0, none⟩) [.slice A l.length c], .rd (some ⟨g3, 0, none⟩) [.int .i64 (i : Int)], .rd A (dgs l)] [] (fun _ : Unit => .int .i64 (m : Int)) (fun _ => []) := by
 refine spec_of Tryz.func210 rfl (n := 26) rfl rfl ?_
 intro W
 refine yR ?_
 refine yS rfl ?_
 refine yN ?_
 refine yR ?_
 refine yM rfl ?_
 refine yS rfl ?_
 refine yS rfl ?_
 refine yN ?_
 refine h_seq ?_
 refine h_block ?_
 refine h_loop (fun (s : Nat × Nat) => s.1 ≤ m ∧ m ≤ s.2 ∧ s.2 ≤ l.length) (fun (s : Nat × Nat) => [(5, .int .i64 (s.1 : Int)), (6, .int .i64 (s.2 : Int)), (1, .func (.func 211) #[] [.pointer (some ⟨g2, 0, none⟩), .pointer (some ⟨g3, 0, none⟩)].toArray)]) (fun (s : Nat × Nat) => [.rd (some ⟨g2, 0, none⟩) [.slice A l.length c], .rd (some ⟨g3, 0, none⟩) [.int .i64 (i : Int)], .rd A (dgs l)]) (fun (s : Nat × Nat) => s.2 - s.1) (0, l.length) (⟨Nat.zero_le _, hm, Nat.le_refl _⟩) ⟨rfl, rfl, rfl, trivial⟩ (same) ?_
 rintro ⟨a, b⟩ ⟨h1, h2, h3⟩
 dsimp only at h1 h2 h3 ⊢
 refine h_seq ?_
 refine yR ?_
 refine yM rfl ?_
 refine yM rfl ?_
 refine h_op (r_lss rfl rfl) ?_
 refine yN ?_
 refine h_cond rfl (fun hlt => ?_) (fun hlt => ?_)
 ·have hh : (a + b) / 2 < l.length := by omega
  have hb := splitF_s l A c i ((a + b) / 2) g2 g3 hh hi
  rw [hp _ hh] at hb
  refine h_skip ?_
  refine q_then ?_
  refine h_block ?_
  refine yR ?_
  refine yM rfl ?_
  refine yM rfl ?_
  refine h_op (r_int (r_add rfl rfl) (show _ = ((a + b : Nat) : Int) by omega)) ?_
  refine h_op (r_cNW rfl) ?_
  refine h_op (r_int (r_shr rfl rfl) (half (a + b) (by omega))) ?_
  refine h_op (r_cN rfl (IntWalk.i64_in _ (by omega))) ?_
  refine yS rfl ?_
  refine yN ?_
  refine yR ?_
  refine yM rfl ?_
  refine yM rfl ?_
  by_cases hc : m ≤ (a + b) / 2
  ·rw [decide_eq_true hc] at hb
   refine h_call (hb.comes) rfl rfl rfl fun _ => ?_
   refine h_op (r_not rfl) ?_
   refine yN ?_
   refine h_condF rfl ?_
   refine h_reg ?_
   refine yM rfl ?_
   refine yS rfl ?_
   refine h_nil ?_
   refine q_block ?_
   exact h_back (a, (a + b) / 2) (⟨h1, hc, by dsimp only; omega⟩) ((show (a + b) / 2 - a < b - a by omega)) ⟨rfl, rfl, rfl, trivial⟩ (same)
  ·rw [decide_eq_false hc] at hb
   refine h_call (hb.comes) rfl rfl rfl fun _ => ?_
   refine h_op (r_not rfl) ?_
   refine yN ?_
   refine h_condT rfl ?_
   refine h_reg ?_
   refine yM rfl ?_
   refine h_op (r_add rfl rfl) ?_
   refine yS rfl ?_
   refine h_nil ?_
   refine q_block ?_
   exact h_back ((a + b) / 2 + 1, b) (⟨by dsimp only; omega, h2, h3⟩) ((show b - ((a + b) / 2 + 1) < b - a by omega)) ⟨aI rfl (by omega), rfl, rfl, trivial⟩ (same)
 ·obtain rfl : a = m := by omega
  refine h_exit ?_
  refine q_thenE ?_
  refine q_thenE ?_
  refine q_blockE ?_
  refine q_then ?_
  refine yR ?_
  refine yM rfl ?_
  refine yS rfl ?_
  refine yN ?_
  refine h_ret ?_
  exact h_ret1 rfl rfl fun w s => ⟨(), rfl, s.res (List.nil_sublist _) (by simp)⟩
theorem Split_s (l : List B32) (A : Option Addr) (c i m : Nat) (hi : i < 256) (hl : l.length ≤ 1000000) (hm : m ≤ l.length) (hp : ∀ j, j < l.length → bitAt (l.getD j zB32) i = decide (m ≤ j)) : Spec Tryz.prog 166 [.slice A l.length c, .int .i64 (i : Int)].toArray [.rd A (dgs l)] [] (fun _ : Unit => .int .i64 (m : Int)) (fun _ => []) := by
 refine spec_of Tryz.func166 rfl (n := 9) rfl rfl ?_
 intro W
 refine yR ?_
 refine h_opX (x_box1 rfl) fun g2 => ?_
 refine h_opX (x_box1 rfl) fun g3 => ?_
 refine yS rfl ?_
 refine yN ?_
 refine yR ?_
 refine h_op (r_loadc rfl) ?_
 refine h_op (r_len rfl) ?_
 refine h_op (r_func rfl rfl) ?_
 refine h_call ((Search_s l A c i g2 g3 m hi hl hm hp).comes) rfl rfl rfl fun _ => ?_
 refine yS rfl ?_
 refine yN ?_
 refine h_ret ?_
 exact h_ret1 rfl rfl fun w s => ⟨(), rfl, s.res (List.nil_sublist _) (by simp)⟩
end Go.Proofs.YtjhocljhhpkiiaaGreatDoor
/- U71 -/
namespace Go.Proofs.YtjhocljhhpkiiaaGreatDoor
open Go.RowKit
def Tr.ht : Tr → Nat
 | .node l r => max l.ht r.ht + 1
 | _ => 0
def Tr.sz : Tr → Nat
 | .node l r => l.sz + r.sz + 1
 | _ => 1
theorem dgs_takeZ {h : Zh} {A : Option Addr} {ks : List B32} (hr : RdZ h A (dgs ks)) (m : Nat) : RdZ h A (dgs (ks.take m)) := by
 have e : dgs ks = dgs (ks.take m) ++ dgs (ks.drop m) := by rw [← dgs_append, List.take_append_drop]
 refine ⟨fun j v hv => hr.at_ j v ?_⟩
 rw [e, List.getElem?_append_left (List.getElem?_eq_some_iff.1 hv).1]
 exact hv
theorem dgs_dropZ {h : Zh} {A : Option Addr} {ks : List B32} {c m : Nat} (hr : RdZ h A (dgs ks)) (hm : m ≤ ks.length) (hc : ks.length ≤ c) : RdZ h (cutA A c m 32) (dgs (ks.drop m)) := by
 have e : dgs ks = dgs (ks.take m) ++ dgs (ks.drop m) := by rw [← dgs_append, List.take_append_drop]
 have hl : (dgs (ks.take m)).length = m * 32 := by rw [dgs_len, List.length_take, Nat.min_eq_left hm]
 unfold cutA
 split
 ·have : ks.drop m = [] := List.drop_of_length_le (by omega)
  rw [this]
  exact RdZ.nil _ _
 ·refine ⟨fun j v hv => ?_⟩
  have h1 := hr.at_ (m * 32 + j) v (by rw [e, List.getElem?_append_right (by omega), hl, Nat.add_sub_cancel_left]; exact hv)
  obtain ⟨b, o, rfl, h2⟩ := h1
  exact ⟨b, o + m * 32, by simp [Addr.add_mid], by rw [Nat.add_assoc]; exact h2⟩
end Go.Proofs.YtjhocljhhpkiiaaGreatDoor
/- E19 -/
namespace Go.Proofs.YtjhocljhhpkiiaaGreatDoor
open Go.RowKit
theorem ltK_of {a b : B32} (h : cmpB a b < 0) : ltK a b := cmpB_bits h
theorem chk_ord : ∀ {l : List B32}, chkK l = 0 → l.Pairwise ltK
 | [], _ => .nil
 | [a], _ => List.pairwise_singleton ..
 | a :: b :: l, h => by
  unfold chkK at h
  split at h
  ·cases h
  ·split at h
   ·cases h
   ·have ih := chk_ord h
    have hab : ltK a b := ltK_of (by omega)
    refine List.pairwise_cons.2 ⟨fun x hx => ?_, ih⟩
    rcases List.mem_cons.1 hx with rfl | hx
    ·exact hab
    ·exact ltK_trans hab ((List.pairwise_cons.1 ih).1 x hx)
theorem keysE_ok {l : List B32} (h : keysE l = 0) : l.length ≠ 0 ∧ l.length ≤ 65535 ∧ l.Pairwise ltK := by
 unfold keysE at h
 split at h
 ·cases h
 ·split at h
  ·cases h
  ·exact ⟨by assumption, by omega, chk_ord h⟩
end Go.Proofs.YtjhocljhhpkiiaaGreatDoor
/- U68 -/
namespace Go.Proofs.YtjhocljhhpkiiaaGreatDoor
open Go.RowKit
def preS (n : Nat) : Sub → List UInt8
 | .one x => preI x
 | .two l r => preN (dgS n l) (dgS n r)
theorem preS_len (n : Nat) (t : Sub) : (preS n t).length ≤ 65 := by
 cases t with
 | one x => exact preI_len x
 | two l r => show (preN _ _).length ≤ 65; rw [preN_len]; exact Nat.le_refl _
end Go.Proofs.YtjhocljhhpkiiaaGreatDoor
