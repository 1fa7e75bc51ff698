/- Arguments of mverify's laws, opened: claims; a root with bytes; a root with items; keys with an index; The reference's check; law18.Short; The example of chapter 18: plain; law15.alive: it is true; law18.alive: it is true; The hasher's count, read; law18: VerifyChecks, VerifyExplains, VerifyClaims are true; law18: VerifyAccepts is true; An argument that is a root with a proof, opened; Arguments of law22 that are structs: a claim with a proof, a claim with a proof and items; Arguments of law22, opened: a byte slice; a claim with a proof; claims with items; a claim with a proof and items; The reference's proof of a map: List, Bytes, End, Sibling; The reference's proof of a map; The laws' trees: inputs that they leave out; a key's way; law15: ProofIsTrue is true; bytes.Equal; the entry of a leaf; find.Get, find.Way; extract.True; Keys in order, by their bits: plain; Keys in order, split at a depth: plain; The items of a tree for some keys: plain; multi: parse, Check; multi: the digest of a subtree; multiproofs: the reference's Skip (joined texts: TM U99 E24 U46 U100 U10c U101 U102 TR U152 TX U49 U50 U51t U52 U140 E15 E16 E17 U63 U64 U65) -/
import Derived.Test.YtjhocljhhpkiiaaGreatDoorF10
import Derived.Laws.IdiomStrings
import Derived.Laws.BytesString
set_option linter.all false
/- TM -/
namespace Go.Proofs.YtjhocljhhpkiiaaGreatDoor
open Go.RowKit Go.ChangeShapes Go.WideShapes
section
variable {H : Type} {enc : TypeId × Value → H} {w : World} {base : Nat} {spare : Nat → Bool} {held : Bool} {v : Value} {d : DataW H} {ps : List MemPlace} {r : Reach} {b0 : Nat}
instance iCBInh : Inhabited CB := ⟨zCB⟩
set_option maxRecDepth 100000 in
theorem dec_CB {fuel : Nat} {cs : List Value} {x : DataW H × List MemPlace} (h : DataW.trod enc Tryz.prog w base spare held fuel 25 cs = some x) : ∃ y : CB, cs = y.cells ∧ (SlZ (World.zh w) y.c.key y.kb ∧ SlZ (World.zh w) y.c.value y.vb) := by
 obtain ⟨f1, f2, f3, hT, t1, t2, t3, o1, o2, o3⟩ := claimFields'
 obtain ⟨xs, n, -, -, hl, hxl, hx⟩ := DataW.trod_struct hT h
 rw [c_Claim] at hl
 have hxl' : xs.length = 3 := hxl
 have k1 := hx 0 f1 rfl
 have k2 := hx 1 f2 rfl
 have k3 := hx 2 f3 rfl
 rw [List.getElem?_eq_getElem (by omega)] at k1 k2 k3
 rw [o1, t1, c_bytes, List.drop_zero] at k1
 rw [o2, t2, c_bytes] at k2
 rw [o3, t3, c_bool] at k3
 obtain ⟨s1, l1, e1, z1⟩ := dec_bytes k1
 obtain ⟨s2, l2, e2, z2⟩ := dec_bytes k2
 obtain ⟨b, e3, -⟩ := DataW.trod_bool Tryz.underlying4 k3
 refine ⟨⟨⟨s1, s2, b⟩, l1, l2⟩, ?_, z1, z2⟩
 have r1 : cs = cs.take 1 ++ ((cs.drop 1).take 1 ++ (cs.drop 2).take 1) := by
  rw [List.take_of_length_le (l := cs.drop 2) (by simp; omega)]
  rw [show cs.drop 2 = (cs.drop 1).drop 1 by rw [List.drop_drop], List.take_append_drop, List.take_append_drop]
 rw [r1, e1, e2, e3]
 rfl
theorem dec_items {fuel : Nat} {cs : List Value} {x : DataW H × List MemPlace} (h : DataW.trod enc Tryz.prog w base spare held fuel 68 cs = some x) : ∃ (l : List Item) (A : Option Addr) (c : Nat), cs = [.slice A l.length c] ∧ l.length ≤ c ∧ RdZ (World.zh w) A (its l) := by
 obtain ⟨l, A, c, e2, hlc, -, -, hr, -⟩ := open_rows_t (f := fun y : Item => y.cells) Item.cells_length (by omega) Tryz.underlying68 c_Item (fun _ => True) (fun fuel cs x h => dec_It h) h
 exact ⟨l, A, c, e2, hlc, RdZ.of hr⟩
theorem c_itemsSl : Tryz.prog.cellsOf 68 = 1 := by kernel_rfl
end
end Go.Proofs.YtjhocljhhpkiiaaGreatDoor
/- U99 -/
namespace Go.Proofs.YtjhocljhhpkiiaaGreatDoor
open Go.RowKit
def scOf : Option (Nat × Int) → Int × Int
 | none => (0, 0)
 | some (i, e) => ((i : Int), e)
theorem Short_s (c : Claim) : Spec Tryz.prog 16 [.agg c.cells.toArray].toArray [] [] (fun _ : Unit => .int .i64 (if c.key.n ≤ 100 ∧ c.value.n ≤ 70000 then 1 else 0)) (fun _ => []) := by
 obtain ⟨ks, vs, b⟩ := c
 refine spec_of Tryz.func16 rfl (n := 13) rfl rfl ?_
 intro W
 by_cases h1 : ks.n ≤ 100
 ·by_cases h2 : vs.n ≤ 70000
  ·rw [if_pos ⟨h1, h2⟩]
   refine yR ?_
   refine h_opX (x_box rfl) fun g1 => ?_
   refine yS rfl ?_
   refine yN ?_
   refine h_seq ?_
   refine yR ?_
   refine h_op (r_field rfl) ?_
   refine h_op (r_loadc rfl) ?_
   refine h_op (r_len rfl) ?_
   refine h_op (r_bool (r_gtr rfl rfl) (decide_eq_false (show ¬ (100 : Int) < (ks.n : Int) by omega))) ?_
   refine yM rfl ?_
   refine h_op (r_field rfl) ?_
   refine h_op (r_loadc rfl) ?_
   refine h_op (r_len rfl) ?_
   refine h_op (r_bool (r_gtr rfl rfl) (decide_eq_false (show ¬ (70000 : Int) < (vs.n : Int) by omega))) ?_
   refine h_op (r_pick rfl rfl) ?_
   refine yN ?_
   refine h_condF rfl ?_
   refine h_skip ?_
   refine q_then ?_
   refine yR ?_
   refine yS rfl ?_
   refine yN ?_
   refine h_ret ?_
   exact h_ret1 rfl rfl fun w s => ⟨(), rfl, s.res (List.nil_sublist _) (by simp)⟩
  ·rw [if_neg (fun h => h2 h.2)]
   refine yR ?_
   refine h_opX (x_box rfl) fun g1 => ?_
   refine yS rfl ?_
   refine yN ?_
   refine h_seq ?_
   refine yR ?_
   refine h_op (r_field rfl) ?_
   refine h_op (r_loadc rfl) ?_
   refine h_op (r_len rfl) ?_
   refine h_op (r_bool (r_gtr rfl rfl) (decide_eq_false (show ¬ (100 : Int) < (ks.n : Int) by omega))) ?_
   refine yM rfl ?_
   refine h_op (r_field rfl) ?_
   refine h_op (r_loadc rfl) ?_
   refine h_op (r_len rfl) ?_
   refine h_op (r_bool (r_gtr rfl rfl) (decide_eq_true (show (70000 : Int) < (vs.n : Int) by omega))) ?_
   refine h_op (r_pick rfl rfl) ?_
   refine yN ?_
   refine h_condT rfl ?_
   refine yR ?_
   refine yS rfl ?_
   refine yN ?_
   refine h_ret ?_
   refine q_thenR ?_
   exact h_ret1 rfl rfl fun w s => ⟨(), rfl, s.res (List.nil_sublist _) (by simp)⟩
 ·rw [if_neg (fun h => h1 h.1)]
  refine yR ?_
  refine h_opX (x_box rfl) fun g1 => ?_
  refine yS rfl ?_
  refine yN ?_
  refine h_seq ?_
  refine yR ?_
  refine h_op (r_field rfl) ?_
  refine h_op (r_loadc rfl) ?_
  refine h_op (r_len rfl) ?_
  refine h_op (r_bool (r_gtr rfl rfl) (decide_eq_true (show (100 : Int) < (ks.n : Int) by omega))) ?_
  refine yM rfl ?_
  refine h_opOff ?_
  refine h_opOff ?_
  refine h_opOff ?_
  refine h_opOff ?_
  refine h_op (r_pick rfl rfl) ?_
  refine yN ?_
  refine h_condT rfl ?_
  refine yR ?_
  refine yS rfl ?_
  refine yN ?_
  refine h_ret ?_
  refine q_thenR ?_
  exact h_ret1 rfl rfl fun w s => ⟨(), rfl, s.res (List.nil_sublist _) (by simp)⟩
end Go.Proofs.YtjhocljhhpkiiaaGreatDoor
/- E24 -/
namespace Go.Proofs.YtjhocljhhpkiiaaGreatDoor
open Go.RowKit
abbrev p18 : DP := ⟨0, 0, zLeaf, zB32, []⟩
abbrev kb18 : List UInt8 := List.replicate 32 0
theorem check18 : checkP (p18.pr none 0) = 0 := by kernel_rfl
theorem keyOf_val (x : B32) : keyOf x.1 = x := by unfold keyOf; rw [dif_pos x.2]
end Go.Proofs.YtjhocljhhpkiiaaGreatDoor
/- U46 -/
namespace Go.Proofs.YtjhocljhhpkiiaaGreatDoor
open Go.RowKit
def kB (x : UInt8) : B32 := ⟨x :: List.replicate 31 0, rfl⟩
theorem slz_nil (h : Zh) : SlZ h ⟨none, 0, 0⟩ [] := ⟨rfl, Nat.le_refl _, fun _ => ⟨rfl, rfl⟩, RdZ.nil _ _⟩
theorem z7 : prfK 256 (kB 7) .nil 0 none 0 = zProof := by
 unfold prfK
 show (⟨0, 0, zLeaf, dset [], ⟨none, 0, 0⟩⟩ : Proof) = zProof
 rw [dset_nil]; rfl
end Go.Proofs.YtjhocljhhpkiiaaGreatDoor
/- U100 -/
namespace Go.Proofs.YtjhocljhhpkiiaaGreatDoor
open Go.RowKit
end Go.Proofs.YtjhocljhhpkiiaaGreatDoor
/- U10c -/
namespace Go.Proofs.YtjhocljhhpkiiaaGreatDoor
open Go.RowKit
end Go.Proofs.YtjhocljhhpkiiaaGreatDoor
/- U101 -/
namespace Go.Proofs.YtjhocljhhpkiiaaGreatDoor
open Go.RowKit
end Go.Proofs.YtjhocljhhpkiiaaGreatDoor
/- U102 -/
namespace Go.Proofs.YtjhocljhhpkiiaaGreatDoor
open Go.RowKit
structure RtP where
 root : B32
 p : Proof
def RtP.cells (x : RtP) : List Value := x.root.cells ++ (x.p.cells ++ [])
end Go.Proofs.YtjhocljhhpkiiaaGreatDoor
/- TR -/
namespace Go.Proofs.YtjhocljhhpkiiaaGreatDoor
open Go.RowKit Go.ChangeShapes Go.WideShapes
end Go.Proofs.YtjhocljhhpkiiaaGreatDoor
/- U152 -/
namespace Go.Proofs.YtjhocljhhpkiiaaGreatDoor
open Go.RowKit
structure CPf where
 c : Claim
 p : Proof
def CPf.cells (x : CPf) : List Value := x.c.cells ++ (x.p.cells ++ [])
structure Snd where
 c : Claim
 p : Proof
 s : Sl
def Snd.cells (x : Snd) : List Value := x.c.cells ++ (x.p.cells ++ ([.slice x.s.A x.s.n x.s.c] ++ []))
end Go.Proofs.YtjhocljhhpkiiaaGreatDoor
/- TX -/
namespace Go.Proofs.YtjhocljhhpkiiaaGreatDoor
open Go.RowKit Go.ChangeShapes Go.WideShapes
section
variable {H : Type} {enc : TypeId × Value → H} {w : World} {base : Nat} {spare : Nat → Bool} {held : Bool} {v : Value} {d : DataW H} {ps : List MemPlace} {r : Reach} {b0 : Nat}
theorem c_claimsSl : Tryz.prog.cellsOf 67 = 1 := by kernel_rfl
theorem dec_claims {fuel : Nat} {cs : List Value} {x : DataW H × List MemPlace} (h : DataW.trod enc Tryz.prog w base spare held fuel 67 cs = some x) : ∃ (l : List CB) (A : Option Addr) (c : Nat), cs = [.slice A l.length c] ∧ l.length ≤ 9223372036854775807 ∧ RdZ (World.zh w) A (cbs l) ∧ ClsZ (World.zh w) l := by
  obtain ⟨l, A, c, e2, hlc, hcm, -, hr, hz⟩ := open_rows_t (f := fun y : CB => y.cells) CB.cells_length (by omega) Tryz.underlying67 c_Claim (fun y => SlZ (World.zh w) y.c.key y.kb ∧ SlZ (World.zh w) y.c.value y.vb) (fun fuel cs x h => dec_CB h) h
  exact ⟨l, A, c, e2, by have : maxLen ≤ 9223372036854775807 := by decide
                         omega, RdZ.of hr, hz⟩
theorem c_ClaimsItems : Tryz.prog.cellsOf 70 = 2 := by kernel_rfl
theorem claimsItemsFields : ∃ f1 f2 : Field, Tryz.prog.underlying 70 = some (.struct #[f1, f2]) ∧ f1.type = 67 ∧ f2.type = 68 ∧ f1.offset = 0 ∧ f2.offset = 1 :=
 ⟨_, _, Tryz.underlying70, rfl, rfl, rfl, rfl⟩
set_option maxRecDepth 100000 in
theorem openClaimsItems (hval : Value.okWide Tryz.prog w r b0 70 v) (hd : DataW.Trod enc Tryz.prog w base spare held 70 v d ps) :
  ∃ (l : List CB) (A : Option Addr) (c : Nat) (m : List Item) (I : Option Addr) (ic : Nat), v = .agg [.slice A l.length c, .slice I m.length ic].toArray ∧ l.length ≤ 9223372036854775807 ∧ RdZ (World.zh w) A (cbs l) ∧ ClsZ (World.zh w) l ∧ m.length ≤ ic ∧ RdZ (World.zh w) I (its m) := by
 obtain ⟨f1, f2, hT, t1, t2, o1, o2⟩ := claimsItemsFields
 obtain ⟨cs, rfl, -⟩ := okWide_struct hT hval
 obtain ⟨fuel, hf⟩ := hd
 obtain ⟨cs⟩ := cs
 have hf' : DataW.trod enc Tryz.prog w base spare held fuel 70 cs = some (d, ps) := by simpa [Value.cells] using hf
 obtain ⟨xs, n, -, -, hl, hxl, hx⟩ := DataW.trod_struct hT hf'
 rw [c_ClaimsItems] at hl
 have hxl' : xs.length = 2 := hxl
 have k1 := hx 0 f1 rfl
 have k2 := hx 1 f2 rfl
 rw [List.getElem?_eq_getElem (by omega)] at k1 k2
 rw [o1, t1, c_claimsSl, List.drop_zero] at k1
 rw [o2, t2, c_itemsSl] at k2
 obtain ⟨l, A, c, e1, hlm, hr, hz⟩ := dec_claims k1
 obtain ⟨m, I, ic, e2, hic, hI⟩ := dec_items k2
 refine ⟨l, A, c, m, I, ic, ?_, hlm, hr, hz, hic, hI⟩
 have r1 : cs = cs.take 1 ++ (cs.drop 1).take 1 := by
  rw [List.take_of_length_le (l := cs.drop 1) (by simp; omega), List.take_append_drop]
 rw [r1, e1, e2]
 rfl
end
end Go.Proofs.YtjhocljhhpkiiaaGreatDoor
/- U49 -/
namespace Go.Proofs.YtjhocljhhpkiiaaGreatDoor
open Go.RowKit
theorem bitN_bI (key : B32) (i : Nat) : ((bitN key i : Nat) : Int) = bI (bitAt key i) := by unfold bI bitN; cases bitAt key i <;> rfl
theorem PartK_s (key : B32) (m : List En) (B : Option Addr) (c d : Nat) (hd : d < 256) (hm : m.length ≤ 100000000) : Spec Tryz.prog 74 [.slice B m.length c, .int .i64 (d : Int), .int .i64 ((bitN key d : Nat) : Int)].toArray [.rd B (ents m)] [] (fun u : Option Addr × Nat => .slice u.1 (part m d (bitAt key d)).length u.2) (fun u => [.own (.slice u.1 (part m d (bitAt key d)).length u.2) (part m d (bitAt key d)).length 124 33 (ents (part m d (bitAt key d)))]) := by
 rw [bitN_bI]
 exact Part_s m B c d _ hd hm
theorem atM_vals {h : Zh} {key : B32} {m : List En} (x : ValsZ h m) : ∀ d, ValsZ h (atM key m d)
 | 0 => x
 | d + 1 => (atM_vals x d).part _ _
end Go.Proofs.YtjhocljhhpkiiaaGreatDoor
/- U50 -/
namespace Go.Proofs.YtjhocljhhpkiiaaGreatDoor
open Go.RowKit
end Go.Proofs.YtjhocljhhpkiiaaGreatDoor
/- U51t -/
namespace Go.Proofs.YtjhocljhhpkiiaaGreatDoor
open Go.RowKit
instance iU51t_1 : TBool Tryz.prog 4 := ⟨Tryz.underlying4⟩
theorem New_no (i : Int) (h : ¬ (0 ≤ i ∧ i ≤ 256)) : Spec Tryz.prog 71 [.int .i64 i].toArray [] [] (fun _ : Unit => .tuple #[.pointer none, .int .i64 4]) (fun _ => []) := by
 refine spec_of Tryz.func71 rfl (n := 15) rfl rfl ?_
 intro W
 by_cases h0 : i < 0
 ·refine h_seq ?_
  refine h_reg ?_
  refine yS rfl ?_
  refine yS rfl ?_
  refine yN ?_
  refine h_seq ?_
  refine yR ?_
  refine yM rfl ?_
  refine h_op (r_bool (r_lss rfl rfl) (decide_eq_true h0)) ?_
  refine yM rfl ?_
  refine h_opOff ?_
  refine h_opOff ?_
  refine h_op (r_pick rfl rfl) ?_
  refine yN ?_
  refine h_condT rfl ?_
  refine yR ?_
  refine yS rfl ?_
  refine yS rfl ?_
  refine yN ?_
  refine h_ret ?_
  refine q_thenR ?_
  exact h_ret2 rfl rfl rfl fun w s => ⟨(), rfl, s.res (List.nil_sublist _) (by simp)⟩
 ·refine h_seq ?_
  refine h_reg ?_
  refine yS rfl ?_
  refine yS rfl ?_
  refine yN ?_
  refine h_seq ?_
  refine yR ?_
  refine yM rfl ?_
  refine h_op (r_bool (r_lss rfl rfl) (decide_eq_false h0)) ?_
  refine yM rfl ?_
  refine yM rfl ?_
  refine h_op (r_bool (r_gtr rfl rfl) (decide_eq_true (by omega))) ?_
  refine h_op (r_pick rfl rfl) ?_
  refine yN ?_
  refine h_condT rfl ?_
  refine yR ?_
  refine yS rfl ?_
  refine yS rfl ?_
  refine yN ?_
  refine h_ret ?_
  refine q_thenR ?_
  exact h_ret2 rfl rfl rfl fun w s => ⟨(), rfl, s.res (List.nil_sublist _) (by simp)⟩
theorem Hash_no (i : Int) (h : ¬ (0 ≤ i ∧ i ≤ 256)) : Spec Tryz.prog 20 [.int .i64 i].toArray [] [] (fun _ : Unit => .pointer none) (fun _ => []) := by
 refine spec_of Tryz.func20 rfl (n := 13) rfl rfl ?_
 intro W
 refine yR ?_
 refine yS rfl ?_
 refine yN ?_
 refine yR ?_
 refine yM rfl ?_
 refine h_call ((New_no i h).comes) rfl rfl rfl fun _ => ?_
 refine yM rfl ?_
 refine h_op (r_extract rfl rfl) ?_
 refine h_op (r_extract rfl rfl) ?_
 refine yS rfl ?_
 refine yS rfl ?_
 refine yN ?_
 refine h_seq ?_
 refine yR ?_
 refine yM rfl ?_
 refine h_op (r_neq rfl rfl) ?_
 refine yN ?_
 refine h_yes rfl ((by decide)) ?_
 refine yR ?_
 refine yS rfl ?_
 refine yN ?_
 refine h_ret ?_
 refine q_thenR ?_
 exact h_ret1 rfl rfl fun w s => ⟨(), rfl, s.res (List.nil_sublist _) (by simp)⟩
theorem Few_long (l : List En) (B : Option Addr) (c : Nat) (hl : 12 < l.length) : Spec Tryz.prog 63 [.slice B l.length c].toArray [.rd B (ents l)] [] (fun _ : Unit => .bool (fewM l)) (fun _ => []) := by
 unfold fewM
 rw [decide_eq_false (by omega), Bool.false_and]
 refine spec_of Tryz.func63 rfl (n := 20) rfl rfl ?_
 intro W
 refine yR ?_
 refine yS rfl ?_
 refine yN ?_
 refine h_seq ?_
 refine yR ?_
 refine yM rfl ?_
 refine h_op (r_len rfl) ?_
 refine h_op (r_gtr rfl rfl) ?_
 refine yN ?_
 refine h_yes rfl ((by omega)) ?_
 refine yR ?_
 refine yS rfl ?_
 refine yN ?_
 refine h_ret ?_
 refine q_thenR ?_
 exact h_ret1 rfl rfl fun w s => ⟨(), rfl, s.res (List.nil_sublist _) (by simp)⟩
theorem Few_any (l : List En) (B : Option Addr) (c : Nat) : Spec Tryz.prog 63 [.slice B l.length c].toArray [.rd B (ents l)] [] (fun _ : Unit => .bool (fewM l)) (fun _ => []) := by
 by_cases hl : 12 < l.length
 ·exact Few_long l B c hl
 ·exact Few_s l B c (by omega)
theorem Tree_bits (i : Int) (hi : ¬ (0 ≤ i ∧ i ≤ 256)) (l : List En) (B : Option Addr) (c : Nat) : Spec Tryz.prog 15 [.int .i64 i, .slice B l.length c].toArray [] [] (fun _ : Unit => .tuple #[.slice none 0 0, .pointer none, .bool false]) (fun _ => []) := by
 refine spec_of Tryz.func15 rfl (n := 27) rfl rfl ?_
 intro W
 refine yR ?_
 refine yS rfl ?_
 refine yS rfl ?_
 refine yS rfl ?_
 refine yN ?_
 refine h_seq ?_
 refine yR ?_
 refine yM rfl ?_
 refine h_call ((Right_no i hi).comes) rfl rfl rfl fun _ => ?_
 refine h_op (r_not rfl) ?_
 refine yM rfl ?_
 refine h_opOff ?_
 refine h_opOff ?_
 refine h_opOff ?_
 refine h_op (r_pick rfl rfl) ?_
 refine yN ?_
 refine h_condT rfl ?_
 refine yR ?_
 refine yS rfl ?_
 refine yS rfl ?_
 refine yS rfl ?_
 refine yN ?_
 refine h_ret ?_
 refine q_thenR ?_
 exact h_ret3 rfl rfl rfl rfl fun w s => ⟨(), rfl, s.res (List.nil_sublist _) (by simp)⟩
theorem Tree_few (n : Nat) (hn : n ≤ 256) (l : List En) (B : Option Addr) (c : Nat) (hf : fewM l = false) : Spec Tryz.prog 15 [.int .i64 (n : Int), .slice B l.length c].toArray [.rd B (ents l)] [] (fun _ : Unit => .tuple #[.slice none 0 0, .pointer none, .bool false]) (fun _ => []) := by
 refine spec_of Tryz.func15 rfl (n := 27) rfl rfl ?_
 intro W
 refine yR ?_
 refine yS rfl ?_
 refine yS rfl ?_
 refine yS rfl ?_
 refine yN ?_
 refine h_seq ?_
 refine yR ?_
 refine yM rfl ?_
 refine h_call ((Right_yes n hn).comes) rfl rfl rfl fun _ => ?_
 refine h_op (r_not rfl) ?_
 refine yM rfl ?_
 refine yM rfl ?_
 refine h_call ((Few_any l B c).comes) rfl rfl rfl fun _ => ?_
 rw [hf]
 refine h_op (r_not rfl) ?_
 refine h_op (r_pick rfl rfl) ?_
 refine yN ?_
 refine h_condT rfl ?_
 refine yR ?_
 refine yS rfl ?_
 refine yS rfl ?_
 refine yS rfl ?_
 refine yN ?_
 refine h_ret ?_
 refine q_thenR ?_
 exact h_ret3 rfl rfl rfl rfl fun w s => ⟨(), rfl, s.res (List.nil_sublist _) (by simp)⟩
def SlsZ (h : Zh) (l : List En) : Prop := ∀ e ∈ l, SlZ h e.e.value e.val
theorem SlsZ.few {h : Zh} {l : List En} (x : SlsZ h l) (hf : fewM l = true) : ValsZ h l := fun e he => by
 unfold fewM at hf
 rw [Bool.and_eq_true, List.all_eq_true] at hf
 have h1 := of_decide_eq_true (hf.2 e he)
 have h2 := (x e he).len
 exact ⟨x e he, by omega⟩
theorem ValsZ.few {h h' : Zh} {l : List En} (x : ValsZ h l) (hl : LeZ h h') : ValsZ h' (ofM l) := (ValsZ.of x).mono hl
structure WayM (key : B32) (m : List En) (D : Nat) : Prop where
 way : WayTo key (mkT m 0) D
 last : (atM key m D).length ≤ 1
 more : ∀ i, i < D → 1 < (atM key m i).length
 on : ∀ i, i ≤ D → wayK key (mkT m 0) i = mkT (atM key m i) i
theorem wayM {key : B32} {m : List En} (h : Alike m 0) : ∃ D, WayM key m D := by
 obtain ⟨D, a, b, c, d, e⟩ := wayTo_mkT (key := key) h
 exact ⟨D, a, c, d, e⟩
end Go.Proofs.YtjhocljhhpkiiaaGreatDoor
/- U52 -/
namespace Go.Proofs.YtjhocljhhpkiiaaGreatDoor
open Go.RowKit
theorem atM_bits {key : B32} {m : List En} : ∀ {D : Nat} {e : En}, e ∈ atM key m D → e ∈ m ∧ ∀ i, i < D → bitAt e.key i = bitAt key i
 | 0, e, h => ⟨h, fun i hi => by omega⟩
 | D + 1, e, h => by
  obtain ⟨h1, h2⟩ := part_mem.1 h
  obtain ⟨h3, h4⟩ := atM_bits h1
  refine ⟨h3, fun i hi => ?_⟩
  rcases Nat.lt_or_ge i D with h5 | h5
  ·exact h4 i h5
  ·obtain rfl : i = D := by omega
   exact h2
theorem atM_key {key : B32} {m : List En} {e : En} (h : e ∈ m) (hk : e.key = key) : ∀ D, e ∈ atM key m D
 | 0 => h
 | D + 1 => part_mem.2 ⟨atM_key h hk D, by rw [hk]⟩
def getE' (m : List En) (key : B32) : Option En := m.find? fun e => decide (e.key = key)
def getV : Option En → List UInt8
 | some e => e.val
 | none => []
def getS : Option En → Sl
 | some e => e.e.value
 | none => ⟨none, 0, 0⟩
theorem getS_ok {h : Zh} {m : List En} (hv : ValsZ h m) (key : B32) : SlZ h (getS (getE' m key)) (getV (getE' m key)) ∧ (getV (getE' m key)).length ≤ 10000000 := by
 cases hg : getE' m key with
 | none => exact ⟨⟨rfl, Nat.le_refl _, fun _ => ⟨rfl, rfl⟩, RdZ.nil _ _⟩, Nat.zero_le _⟩
 | some e => exact hv e (List.mem_of_find?_eq_some hg)
theorem end_get {key : B32} {m : List En} {D : Nat} (hl : (atM key m D).length ≤ 1) : (atM key m D = [] ∧ getE' m key = none) ∨ ∃ e, atM key m D = [e] ∧ (∀ i, i < D → bitAt e.key i = bitAt key i) ∧ ((e.key = key ∧ getE' m key = some e) ∨ (e.key ≠ key ∧ getE' m key = none)) := by
 have hno : ∀ {e : En}, getE' m key = some e → e ∈ atM key m D ∧ e.key = key := fun {e} he => by
  have h2 := List.find?_some he
  have h3 : e.key = key := by simpa using h2
  exact ⟨atM_key (List.mem_of_find?_eq_some he) h3 D, h3⟩
 cases hg : getE' m key with
 | none =>
  match hq : atM key m D, hl with
  | [], _ => exact .inl ⟨rfl, rfl⟩
  | [e], _ =>
   have hm : e ∈ atM key m D := by rw [hq]; simp
   obtain ⟨h1, h2⟩ := atM_bits hm
   refine .inr ⟨e, rfl, h2, .inr ⟨fun hk => ?_, rfl⟩⟩
   have := List.find?_eq_none.1 hg e h1
   simp [hk] at this
  | _ :: _ :: _, hl => exact absurd hl (by simp)
 | some f =>
  obtain ⟨h1, h2⟩ := hno hg
  match hq : atM key m D, hl with
  | [], _ => rw [hq] at h1; cases h1
  | [e], _ =>
   rw [hq] at h1
   obtain rfl : f = e := by simpa using h1
   exact .inr ⟨f, rfl, fun i _ => by rw [h2], .inl ⟨h2, rfl⟩⟩
  | _ :: _ :: _, hl => exact absurd hl (by simp)
theorem find_take {m : List En} {key : B32} {k : Nat} {e : En} (he : m[k]? = some e) (hk : e.key = key) (ha : ∀ f ∈ m.take k, f.key ≠ key) : getE' m key = some e := by
 have e1 : m = m.take k ++ e :: m.drop (k + 1) := by
  have h1 := List.take_append_drop k m
  have hl := (List.getElem?_eq_some_iff.1 he)
  obtain ⟨hl, hx⟩ := hl
  rw [List.drop_eq_getElem_cons hl, hx] at h1
  exact h1.symm
 unfold getE'
 rw [e1, List.find?_append]
 have h2 : (m.take k).find? (fun f => decide (f.key = key)) = none := List.find?_eq_none.2 fun f hf => by simpa using ha f hf
 rw [h2, List.find?_cons_of_pos (by simpa using hk)]
 rfl
theorem Get_s (m : List En) (B : Option Addr) (c : Nat) (key : B32) (hm : m.length ≤ 100000000) : Spec Tryz.prog 60 [.slice B m.length c, .agg key.cells.toArray].toArray [.rd B (ents m)] [] (fun _ : Unit => .tuple #[.slice (getS (getE' m key)).A (getS (getE' m key)).n (getS (getE' m key)).c, .bool (getE' m key).isSome]) (fun _ => []) := by
 refine spec_of Tryz.func60 rfl (n := 25) rfl rfl ?_
 intro W
 refine yR ?_
 refine h_opX (x_box rfl) fun g3 => ?_
 refine yS rfl ?_
 refine yS rfl ?_
 refine yN ?_
 refine h_seq ?_
 refine yR ?_
 refine yS rfl ?_
 refine yN ?_
 refine h_block ?_
 refine h_loop (fun (k : Nat) => k ≤ m.length ∧ ∀ f ∈ m.take k, f.key ≠ key) (fun (k : Nat) => [(6, .int .i64 (k : Int)), (0, .slice B m.length c), (3, .pointer (some ⟨g3, 0, none⟩))]) (fun (k : Nat) => [.blk g3 key.cells 35, .rd B (ents m)]) (fun (k : Nat) => m.length - k) 0 (⟨Nat.zero_le _, fun f hf => by simp at hf⟩) ⟨rfl, rfl, rfl, trivial⟩ (same) ?_
 rintro k ⟨hk, ha⟩
 refine h_seq ?_
 refine yR ?_
 refine yM rfl ?_
 refine yM rfl ?_
 refine h_op (r_len rfl) ?_
 refine h_op (r_lss rfl rfl) ?_
 refine yN ?_
 refine h_cond rfl (fun h => ?_) (fun h => ?_)
 ·obtain ⟨e, he⟩ := getE (l := m) (k := k) (by omega)
  refine h_pure (φ := ∃ b o, B = some ⟨b, o, none⟩) (fun w s => Rd.some (s.ok (.rd B (ents m)) (by simp)) (by rw [ents_len]; omega)) ?_
  rintro ⟨bb, o, rfl⟩
  refine h_skip ?_
  refine q_then ?_
  refine h_seq ?_
  refine h_block ?_
  refine h_seq ?_
  refine ha_start [.blk g3 key.cells 35, .rd (some ⟨bb, o, none⟩) (ents m)] [] mixed (same) ?_
  refine ha_takeP 0 rfl (r_move rfl) ?_
  refine ha_takeP 1 rfl (r_move rfl) ?_
  refine ha_takeP 2 rfl (r_idx rfl rfl) ?_
  refine ha_takeP 3 rfl (r_field rfl) ?_
  refine ha_take 4 rfl (r_nthr rfl (out := e.key.cells) (B32.cells_length _) (ents_key he)) ?_
  refine ha_take 5 rfl (r_loadr rfl) ?_
  refine ha_takeP 6 rfl (r_eqr rfl rfl) ?_
  refine ha_done (by kernel_rfl) ?_
  refine q_then ?_
  refine h_cond rfl (fun h2 => ?_) (fun h2 => ?_)
  ·rw [find_take he (by simpa using h2) ha]
   refine yR ?_
   refine yM rfl ?_
   refine yM rfl ?_
   refine h_op (r_idx rfl rfl) ?_
   refine h_op (r_field rfl (O' := o + (k * 33 + 32)) (by omega)) ?_
   refine h_op (r_nth rfl (ents_val he)) ?_
   refine yS rfl ?_
   refine yS rfl ?_
   refine yN ?_
   refine h_ret ?_
   refine q_blockR ?_
   refine q_thenR ?_
   refine q_thenR ?_
   refine q_blockR ?_
   refine q_thenR ?_
   exact h_ret2 rfl rfl rfl fun w s => ⟨(), rfl, s.res (List.nil_sublist _) (by simp)⟩
  ·have ha2 : ∀ f ∈ m.take (k + 1), f.key ≠ key := fun f hf => by
    rw [take_snocE he] at hf
    rcases List.mem_append.1 hf with hf | hf
    ·exact ha f hf
    ·rw [List.mem_singleton.1 hf]; simpa using h2
   refine h_skip ?_
   refine q_block ?_
   refine q_then ?_
   refine h_reg ?_
   refine yM rfl ?_
   refine h_op (r_add rfl rfl) ?_
   refine yS rfl ?_
   refine h_nil ?_
   exact h_back (k + 1) (⟨by omega, ha2⟩) (by omega) ⟨rfl, rfl, rfl, trivial⟩ (same)
 ·obtain rfl : k = m.length := by omega
  rw [List.take_length] at ha
  have : getE' m key = none := List.find?_eq_none.2 fun f hf => by simpa using ha f hf
  rw [this]
  refine h_exit ?_
  refine q_thenE ?_
  refine q_thenE ?_
  refine q_blockE ?_
  refine q_then ?_
  refine yR ?_
  refine yS rfl ?_
  refine yS rfl ?_
  refine yN ?_
  refine h_ret ?_
  exact h_ret2 rfl rfl rfl fun w s => ⟨(), rfl, s.res (List.nil_sublist _) (by simp)⟩
end Go.Proofs.YtjhocljhhpkiiaaGreatDoor
/- U140 -/
namespace Go.Proofs.YtjhocljhhpkiiaaGreatDoor
open Go.RowKit
class TBS (P : Program) (T T' : TypeId) : Prop where
 ok : ∃ e, P.underlying T = some (.slice e) ∧ P.underlying e = some (.int .u8) ∧ P.underlying T' = some .string
theorem r_cvBS {P : Program} {n : Nat} {D : List Deferred} {E : Env} {L : List Fa} {T T' : TypeId} {x : Operand} {A : Option Addr} {l : List UInt8} {c : Nat} [h : TBS P T T'] (hx : ev E x = some (.slice A l.length c)) [hA : Rd1 L (.rd A (bc l))] : Runs0 P n D E L (.convert T T' x) (.string ⟨l.toArray⟩) := fun act w ka s o ho => by
 obtain ⟨e, h1, h2, h3⟩ := h.ok
 have hr := (hA.ok s).2.1
 have hrun : (convert T T' (.slice A l.length c)).run P w = .ok (.string ⟨l.toArray⟩) w := by
  cases A with
  | none =>
   have : l = [] := by
    cases l with
    | nil => rfl
    | cons x l => obtain ⟨b, o, e, _⟩ := hr 0 (.int .u8 x.toNat) rfl; cases e
   subst this
   rw [run_convert_bytes_string w T T' e none [].length c h1 h2 h3]
   rfl
  | some a =>
   refine run_convert_bytes_back w T T' e a c l h1 h2 h3 fun j hj => ?_
   have hj' : (bc l)[j]? = some (.int .u8 (l[j].toNat : Int)) := by simp [bc, hj]
   obtain ⟨b, o, e, h2⟩ := hr j _ hj'
   injection e with e
   subst e
   rw [Addr.add_mid]
   exact h2
 unfold execOp
 simp only [ho, ka.ev hx, Sem.run_bind, hrun, Result.andThen_ok]
 rfl
instance iU140_1 : TBS Tryz.prog 23 9 := ⟨⟨_, Tryz.underlying23, Tryz.underlying5, Tryz.underlying9⟩⟩
theorem bstr_eq (a b : List UInt8) : ((⟨a.toArray⟩ : ByteArray).toList == (⟨b.toArray⟩ : ByteArray).toList) = decide (a = b) := by
 rw [ByteArray.toList_eq, ByteArray.toList_eq]
 by_cases h : a = b
 ·subst h; simp
 ·rw [decide_eq_false h]; simpa using h
theorem bEqual_s (a b : List UInt8) (A B : Option Addr) (c c' : Nat) : Spec Tryz.prog 69 [.slice A a.length c, .slice B b.length c'].toArray [.rd A (bc a), .rd B (bc b)] [] (fun _ : Unit => .bool (decide (a = b))) (fun _ => []) := by
 refine spec_of Tryz.func69 rfl (n := 10) rfl rfl ?_
 intro W
 refine yR ?_
 refine yS rfl ?_
 refine yN ?_
 refine yR ?_
 refine yM rfl ?_
 refine h_op (r_cvBS rfl) ?_
 refine yM rfl ?_
 refine h_op (r_cvBS rfl) ?_
 refine h_op (r_bool (r_eqS rfl rfl) (bstr_eq a b)) ?_
 refine yS rfl ?_
 refine yN ?_
 refine h_ret ?_
 exact h_ret1 rfl rfl fun w s => ⟨(), rfl, s.res (List.nil_sublist _) (by simp)⟩
theorem Entry_s (n : Nat) (h : Zh) (kk : B32) (b : List UInt8) (hb : b.length ≤ 1000000000) (p : Option Addr) [ht : TrZ n h (.leaf kk b) p] : Spec Tryz.prog 124 [.pointer p].toArray [.zone false h] [] (fun u : Option Addr × Nat => .agg (Entry.cells ⟨kk, ⟨u.1, b.length, u.2⟩⟩).toArray) (fun u => [.own (.slice u.1 b.length u.2) b.length 5 1 (bc b)]) := by
 refine spec_of Tryz.func124 rfl (n := 13) rfl rfl ?_
 intro W
 refine yR ?_
 refine h_opX (x_alloc) fun g2 => ?_
 refine yN ?_
 refine yR ?_
 refine yM rfl ?_
 refine h_call ((leaf_s n h kk b p).comes) rfl rfl rfl fun ⟨⟨sA, sn, sc⟩, hs⟩ => ?_
 dsimp only at hs ⊢
 have hsn := hs.len
 have hsr : RdZ h sA (bc b) := hs.rd
 have hnil := hs.nil
 dsimp only at hsn hnil
 subst hsn
 refine h_opX (x_alloc) fun g3 => ?_
 refine h_opS (s_storer rfl rfl) ?_
 refine yN ?_
 refine h_seq ?_
 refine ha_start [.blk g3 (NLeaf.cells ⟨leafOf n kk b, ⟨sA, b.length, sc⟩⟩) 275] [] mixed (same) ?_
 refine ha_takeP 0 rfl (r_field rfl) ?_
 refine ha_takeP 1 rfl (r_field rfl) ?_
 refine ha_take 2 rfl (r_loadr rfl) ?_
 refine ha_takeP 3 rfl (r_field rfl) ?_
 refine ha_take 4 rfl (r_loadc rfl) ?_
 refine ha_one 5 ?_
 refine ho_C 5 rfl ((Clone_s b sA sc hnil hb).comes) rfl rfl rfl (fun xx => same) fun ⟨A11, c11⟩ => ?_
 refine ha_takeP 6 rfl (r_build rfl) ?_
 refine ha_one 7 ?_
 refine ho_SL 7 rfl (s_storer rfl rfl) ?_
 refine q_then ?_
 refine h_ret ?_
 exact h_ret1 rfl (rv_row rfl) fun w s => ⟨(A11, c11), rfl, (same (L' := [.own (.slice A11 b.length c11) b.length 5 1 (bc b)]) w s).res (List.Sublist.refl _) (by simp [Fa.wr])⟩
section
variable (n : Nat) (h : Zh) (m : List En) (p : Option Addr) [ht : TrZ n h (mkT m 0) p] (key : B32) (D : Nat) (w : WayM key m D) (hvl : ∀ e ∈ m, e.val.length ≤ 1000000000)
include ht w hvl
theorem FGet_s : Spec Tryz.prog 68 [.pointer p, .agg key.cells.toArray].toArray [.zone false h] [] (fun u : Option Addr × Nat => .tuple #[.slice u.1 (getV (getE' m key)).length u.2, .bool (getE' m key).isSome]) (fun u => [.own (.slice u.1 (getV (getE' m key)).length u.2) (getV (getE' m key)).length 5 1 (bc (getV (getE' m key)))]) := by
 have hL := Locate_s n h (mkT m 0) p key D w.way
 have hon := w.on D (Nat.le_refl _)
 have hD := w.way.le
 have htD : TrZ n h (wayK key (mkT m 0) D) (wayQ h key p D) := inferInstance
 generalize wayQ h key p D = q at *
 rcases end_get w.last with ⟨h1, h2⟩ | ⟨e, h1, hb, ⟨hk, h2⟩ | ⟨hk, h2⟩⟩
 ·rw [h2]
  rw [hon, h1, mkT_nil] at htD
  have hK := Kind_s n h .nil q
  refine spec_of Tryz.func68 rfl (n := 27) rfl rfl ?_
  intro W
  refine yR ?_
  refine h_opX (x_box rfl) fun g3 => ?_
  refine yS rfl ?_
  refine yS rfl ?_
  refine yN ?_
  refine yR ?_
  refine yM rfl ?_
  refine h_op (r_loadr rfl) ?_
  refine h_call (hL.comes) rfl rfl rfl fun _ => ?_
  refine yM rfl ?_
  refine h_op (r_extract rfl rfl) ?_
  refine h_op (r_extract rfl rfl) ?_
  refine yS rfl ?_
  refine yS rfl ?_
  refine yN ?_
  refine h_seq ?_
  refine h_seq ?_
  refine ha_start [.blk g3 key.cells 35] [] mixed (same) ?_
  refine ha_takeP 0 rfl (r_move rfl) ?_
  refine ha_one 1 ?_
  refine ho_C 1 rfl (hK.comes) rfl rfl rfl (fun xx => same) fun _ => ?_
  refine ha_takeP 2 rfl (r_bool (r_neq rfl rfl) (show _ = true from rfl)) ?_
  refine ha_takeP 3 rfl (r_move rfl) ?_
  refine ha_off 4 rfl ?_
  refine ha_off 5 rfl ?_
  refine ha_off 6 rfl ?_
  refine ha_off 7 rfl ?_
  refine ha_off 8 rfl ?_
  refine ha_takeP 9 rfl (r_pick rfl rfl) ?_
  refine ha_done (by kernel_rfl) ?_
  refine q_then ?_
  refine h_condT rfl ?_
  refine yR ?_
  refine yS rfl ?_
  refine yS rfl ?_
  refine yN ?_
  refine h_ret ?_
  refine q_thenR ?_
  refine h_nil_own 5 1 (xs := bc []) rfl ?_
  exact h_ret2 rfl rfl rfl fun w s => ⟨(none, 0), rfl, (same (L' := [.own (.slice none 0 0) 0 5 1 (bc [])]) w s).res (List.Sublist.refl _) (by simp [Fa.wr])⟩
 ·rw [h2]
  have hem := (atM_bits (key := key) (m := m) (D := D) (e := e) (by rw [h1]; exact List.mem_singleton.2 rfl)).1
  rw [hon, h1, mkT_one e hD, hk] at htD
  have hK := Kind_s n h (.leaf key e.val) q
  have hLf := Leaf_s n h (.leaf key e.val) q
  have hEn := Entry_s n h key e.val (hvl e hem) q
  refine spec_of Tryz.func68 rfl (n := 27) rfl rfl ?_
  intro W
  refine yR ?_
  refine h_opX (x_box rfl) fun g3 => ?_
  refine yS rfl ?_
  refine yS rfl ?_
  refine yN ?_
  refine yR ?_
  refine yM rfl ?_
  refine h_op (r_loadr rfl) ?_
  refine h_call (hL.comes) rfl rfl rfl fun _ => ?_
  refine yM rfl ?_
  refine h_op (r_extract rfl rfl) ?_
  refine h_op (r_extract rfl rfl) ?_
  refine yS rfl ?_
  refine yS rfl ?_
  refine yN ?_
  refine h_seq ?_
  refine h_seq ?_
  refine ha_start [.blk g3 key.cells 35] [] mixed (same) ?_
  refine ha_takeP 0 rfl (r_move rfl) ?_
  refine ha_one 1 ?_
  refine ho_C 1 rfl (hK.comes) rfl rfl rfl (fun xx => same) fun _ => ?_
  refine ha_takeP 2 rfl (r_bool (r_neq rfl rfl) (show _ = false from rfl)) ?_
  refine ha_takeP 3 rfl (r_move rfl) ?_
  refine ha_takeP 4 rfl (r_move rfl) ?_
  refine ha_take 7 rfl (r_loadr rfl) ?_
  refine ha_one 5 ?_
  refine ho_C 5 rfl (hLf.comes) rfl rfl rfl (fun xx => same) fun _ => ?_
  refine ha_takeP 6 rfl (r_fldr rfl) ?_
  refine ha_takeP 8 rfl (r_bool (r_ner rfl rfl) (decide_eq_false (fun h => h rfl))) ?_
  refine ha_takeP 9 rfl (r_pick rfl rfl) ?_
  refine ha_done (by kernel_rfl) ?_
  refine q_then ?_
  refine h_condF rfl ?_
  refine h_skip ?_
  refine q_then ?_
  refine yR ?_
  refine yM rfl ?_
  refine h_call (hEn.comes) rfl rfl rfl fun ⟨A25, c25⟩ => ?_
  dsimp only
  refine h_op (r_fldc rfl) ?_
  refine yS rfl ?_
  refine yS rfl ?_
  refine yN ?_
  refine h_ret ?_
  exact h_ret2 rfl rfl rfl fun w s => ⟨(A25, c25), rfl, (same (L' := [.own (.slice A25 e.val.length c25) e.val.length 5 1 (bc e.val)]) w s).res (List.Sublist.refl _) (by simp [Fa.wr])⟩
 ·rw [h2]
  rw [hon, h1, mkT_one e hD] at htD
  have hK := Kind_s n h (.leaf e.key e.val) q
  have hLf := Leaf_s n h (.leaf e.key e.val) q
  refine spec_of Tryz.func68 rfl (n := 27) rfl rfl ?_
  intro W
  refine yR ?_
  refine h_opX (x_box rfl) fun g3 => ?_
  refine yS rfl ?_
  refine yS rfl ?_
  refine yN ?_
  refine yR ?_
  refine yM rfl ?_
  refine h_op (r_loadr rfl) ?_
  refine h_call (hL.comes) rfl rfl rfl fun _ => ?_
  refine yM rfl ?_
  refine h_op (r_extract rfl rfl) ?_
  refine h_op (r_extract rfl rfl) ?_
  refine yS rfl ?_
  refine yS rfl ?_
  refine yN ?_
  refine h_seq ?_
  refine h_seq ?_
  refine ha_start [.blk g3 key.cells 35] [] mixed (same) ?_
  refine ha_takeP 0 rfl (r_move rfl) ?_
  refine ha_one 1 ?_
  refine ho_C 1 rfl (hK.comes) rfl rfl rfl (fun xx => same) fun _ => ?_
  refine ha_takeP 2 rfl (r_bool (r_neq rfl rfl) (show _ = false from rfl)) ?_
  refine ha_takeP 3 rfl (r_move rfl) ?_
  refine ha_takeP 4 rfl (r_move rfl) ?_
  refine ha_take 7 rfl (r_loadr rfl) ?_
  refine ha_one 5 ?_
  refine ho_C 5 rfl (hLf.comes) rfl rfl rfl (fun xx => same) fun _ => ?_
  refine ha_takeP 6 rfl (r_fldr rfl) ?_
  refine ha_takeP 8 rfl (r_bool (r_ner rfl rfl) (decide_eq_true hk)) ?_
  refine ha_takeP 9 rfl (r_pick rfl rfl) ?_
  refine ha_done (by kernel_rfl) ?_
  refine q_then ?_
  refine h_condT rfl ?_
  refine yR ?_
  refine yS rfl ?_
  refine yS rfl ?_
  refine yN ?_
  refine h_ret ?_
  refine q_thenR ?_
  refine h_nil_own 5 1 (xs := bc []) rfl ?_
  exact h_ret2 rfl rfl rfl fun w s => ⟨(none, 0), rfl, (same (L' := [.own (.slice none 0 0) 0 5 1 (bc [])]) w s).res (List.Sublist.refl _) (by simp [Fa.wr])⟩
end
def trueC (m : List En) (c : Claim) (kb vb : List UInt8) : Bool := decide (claimE c = 0) && ((getE' m (keyOf kb)).isSome == c.present && (!(getE' m (keyOf kb)).isSome || decide (getV (getE' m (keyOf kb)) = vb)))
section
variable (n : Nat) (h : Zh) (m : List En) (hal : Alike m 0) (p : Option Addr) [ht : TrZ n h (mkT m 0) p] (c : Claim) (kb vb : List UInt8) [hK : SlZ h c.key kb] [hV : SlZ h c.value vb] (hvl : ∀ e ∈ m, e.val.length ≤ 1000000000)
include ht hal hvl
theorem xTrue_s : Spec Tryz.prog 18 [.pointer p, .agg c.cells.toArray].toArray [.zone false h] [] (fun _ : Unit => .bool (trueC m c kb vb)) (fun _ => []) := by
 have hC := Claim_s c
 have hkn := hK.len
 have hvn := hV.len
 have hVr : RdZ h c.value.A (bc vb) := hV.rd
 by_cases h1 : claimE c = 0
 ·have hk32 : kb.length = 32 := by
   unfold claimE at h1
   split at h1
   ·omega
   ·cases h1
  obtain ⟨D, w⟩ := wayM (key := keyOf kb) hal
  have hG := FGet_s n h m p (keyOf kb) D w hvl
  rw [h1] at hC
  have ht : trueC m c kb vb = ((getE' m (keyOf kb)).isSome == c.present && (!(getE' m (keyOf kb)).isSome || decide (getV (getE' m (keyOf kb)) = vb))) := by unfold trueC; rw [decide_eq_true h1]; exact Bool.true_and _
  rw [ht]
  have hKr : RdZ h c.key.A (keyOf kb).cells := by rw [keyOf_cells hk32]; exact hK.rd
  obtain ⟨⟨kA, kn, kc⟩, ⟨vA, vn, vc⟩, pr⟩ := c
  dsimp only at hkn hvn hKr hVr ⊢
  subst hkn hvn
  obtain ⟨bK, oK, rfl, -⟩ := hKr.at_ 0 _ (List.getElem?_eq_getElem (by rw [B32.cells_length]; decide))
  generalize getE' m (keyOf kb) = g at *
  generalize getV g = v at *
  have hB := fun A c' => bEqual_s v vb A vA c' vc
  cases hg : g.isSome
  ·rw [hg] at hG
   cases pr
   ·refine spec_of Tryz.func18 rfl (n := 33) rfl rfl ?_
    intro W
    refine yR ?_
    refine h_opX (x_box rfl) fun g3 => ?_
    refine yS rfl ?_
    refine yN ?_
    refine h_seq ?_
    refine yR ?_
    refine h_op (r_loadr rfl) ?_
    refine h_call (hC.comes) rfl rfl rfl fun _ => ?_
    refine h_op (r_neq rfl rfl) ?_
    refine yN ?_
    refine h_no rfl ((fun h => h rfl)) ?_
    refine h_skip ?_
    refine q_then ?_
    refine yR ?_
    refine yM rfl ?_
    refine h_op (r_field rfl) ?_
    refine h_op (r_loadc rfl) ?_
    refine h_op (r_arr rfl (hm := show 32 ≤ kb.length by omega)) ?_
    refine h_op (r_loadr rfl) ?_
    refine h_call (hG.comes) rfl rfl rfl fun ⟨A16, c16⟩ => ?_
    refine yM rfl ?_
    refine h_op (r_extract rfl rfl) ?_
    refine h_op (r_extract rfl rfl) ?_
    refine yS rfl ?_
    refine yS rfl ?_
    refine yN ?_
    refine yR ?_
    refine yM rfl ?_
    refine h_op (r_field rfl) ?_
    refine h_op (r_loadc rfl) ?_
    refine h_op (r_bool (r_eqb rfl rfl) (show _ = true from rfl)) ?_
    refine yM rfl ?_
    refine yM rfl ?_
    refine h_op (r_not rfl) ?_
    refine yM rfl ?_
    refine h_opOff ?_
    refine h_opOff ?_
    refine h_opOff ?_
    refine h_opOff ?_
    refine h_op (r_pick rfl rfl) ?_
    refine h_op (r_pick rfl rfl) ?_
    refine yS rfl ?_
    refine yN ?_
    refine h_ret ?_
    exact h_ret1 rfl rfl fun w s => ⟨(), rfl, s.res (List.nil_sublist _) (by simp)⟩
   ·refine spec_of Tryz.func18 rfl (n := 33) rfl rfl ?_
    intro W
    refine yR ?_
    refine h_opX (x_box rfl) fun g3 => ?_
    refine yS rfl ?_
    refine yN ?_
    refine h_seq ?_
    refine yR ?_
    refine h_op (r_loadr rfl) ?_
    refine h_call (hC.comes) rfl rfl rfl fun _ => ?_
    refine h_op (r_neq rfl rfl) ?_
    refine yN ?_
    refine h_no rfl ((fun h => h rfl)) ?_
    refine h_skip ?_
    refine q_then ?_
    refine yR ?_
    refine yM rfl ?_
    refine h_op (r_field rfl) ?_
    refine h_op (r_loadc rfl) ?_
    refine h_op (r_arr rfl (hm := show 32 ≤ kb.length by omega)) ?_
    refine h_op (r_loadr rfl) ?_
    refine h_call (hG.comes) rfl rfl rfl fun ⟨A16, c16⟩ => ?_
    refine yM rfl ?_
    refine h_op (r_extract rfl rfl) ?_
    refine h_op (r_extract rfl rfl) ?_
    refine yS rfl ?_
    refine yS rfl ?_
    refine yN ?_
    refine yR ?_
    refine yM rfl ?_
    refine h_op (r_field rfl) ?_
    refine h_op (r_loadc rfl) ?_
    refine h_op (r_bool (r_eqb rfl rfl) (show _ = false from rfl)) ?_
    refine yM rfl ?_
    refine h_opOff ?_
    refine h_opOff ?_
    refine h_opOff ?_
    refine h_opOff ?_
    refine h_opOff ?_
    refine h_opOff ?_
    refine h_opOff ?_
    refine h_opOff ?_
    refine h_op (r_pick rfl rfl) ?_
    refine yS rfl ?_
    refine yN ?_
    refine h_ret ?_
    exact h_ret1 rfl rfl fun w s => ⟨(), rfl, s.res (List.nil_sublist _) (by simp)⟩
  ·rw [hg] at hG
   cases pr
   ·refine spec_of Tryz.func18 rfl (n := 33) rfl rfl ?_
    intro W
    refine yR ?_
    refine h_opX (x_box rfl) fun g3 => ?_
    refine yS rfl ?_
    refine yN ?_
    refine h_seq ?_
    refine yR ?_
    refine h_op (r_loadr rfl) ?_
    refine h_call (hC.comes) rfl rfl rfl fun _ => ?_
    refine h_op (r_neq rfl rfl) ?_
    refine yN ?_
    refine h_no rfl ((fun h => h rfl)) ?_
    refine h_skip ?_
    refine q_then ?_
    refine yR ?_
    refine yM rfl ?_
    refine h_op (r_field rfl) ?_
    refine h_op (r_loadc rfl) ?_
    refine h_op (r_arr rfl (hm := show 32 ≤ kb.length by omega)) ?_
    refine h_op (r_loadr rfl) ?_
    refine h_call (hG.comes) rfl rfl rfl fun ⟨A16, c16⟩ => ?_
    refine yM rfl ?_
    refine h_op (r_extract rfl rfl) ?_
    refine h_op (r_extract rfl rfl) ?_
    refine yS rfl ?_
    refine yS rfl ?_
    refine yN ?_
    refine yR ?_
    refine yM rfl ?_
    refine h_op (r_field rfl) ?_
    refine h_op (r_loadc rfl) ?_
    refine h_op (r_bool (r_eqb rfl rfl) (show _ = false from rfl)) ?_
    refine yM rfl ?_
    refine h_opOff ?_
    refine h_opOff ?_
    refine h_opOff ?_
    refine h_opOff ?_
    refine h_opOff ?_
    refine h_opOff ?_
    refine h_opOff ?_
    refine h_opOff ?_
    refine h_op (r_pick rfl rfl) ?_
    refine yS rfl ?_
    refine yN ?_
    refine h_ret ?_
    exact h_ret1 rfl rfl fun w s => ⟨(), rfl, s.res (List.nil_sublist _) (by simp)⟩
   ·refine spec_of Tryz.func18 rfl (n := 33) rfl rfl ?_
    intro W
    refine yR ?_
    refine h_opX (x_box rfl) fun g3 => ?_
    refine yS rfl ?_
    refine yN ?_
    refine h_seq ?_
    refine yR ?_
    refine h_op (r_loadr rfl) ?_
    refine h_call (hC.comes) rfl rfl rfl fun _ => ?_
    refine h_op (r_neq rfl rfl) ?_
    refine yN ?_
    refine h_no rfl ((fun h => h rfl)) ?_
    refine h_skip ?_
    refine q_then ?_
    refine yR ?_
    refine yM rfl ?_
    refine h_op (r_field rfl) ?_
    refine h_op (r_loadc rfl) ?_
    refine h_op (r_arr rfl (hm := show 32 ≤ kb.length by omega)) ?_
    refine h_op (r_loadr rfl) ?_
    refine h_call (hG.comes) rfl rfl rfl fun ⟨A16, c16⟩ => ?_
    dsimp only
    refine yM rfl ?_
    refine h_op (r_extract rfl rfl) ?_
    refine h_op (r_extract rfl rfl) ?_
    refine yS rfl ?_
    refine yS rfl ?_
    refine yN ?_
    refine yR ?_
    refine yM rfl ?_
    refine h_op (r_field rfl) ?_
    refine h_op (r_loadc rfl) ?_
    refine h_op (r_bool (r_eqb rfl rfl) (show _ = true from rfl)) ?_
    refine yM rfl ?_
    refine yM rfl ?_
    refine h_op (r_not rfl) ?_
    refine yM rfl ?_
    refine yM rfl ?_
    refine h_op (r_field rfl) ?_
    refine h_op (r_loadc rfl) ?_
    refine h_call ((hB A16 c16).comes) rfl rfl rfl fun _ => ?_
    refine h_op (r_pick rfl rfl) ?_
    refine h_op (r_pick rfl rfl) ?_
    refine yS rfl ?_
    refine yN ?_
    refine h_ret ?_
    exact h_ret1 rfl rfl fun w s => ⟨(), rfl, s.res (List.nil_sublist _) (by simp)⟩
 ·rw [show trueC m c kb vb = false by unfold trueC; rw [decide_eq_false h1]; rfl]
  refine spec_of Tryz.func18 rfl (n := 33) rfl rfl ?_
  intro W
  refine yR ?_
  refine h_opX (x_box rfl) fun g3 => ?_
  refine yS rfl ?_
  refine yN ?_
  refine h_seq ?_
  refine yR ?_
  refine h_op (r_loadr rfl) ?_
  refine h_call (hC.comes) rfl rfl rfl fun _ => ?_
  refine h_op (r_neq rfl rfl) ?_
  refine yN ?_
  refine h_yes rfl (h1) ?_
  refine yR ?_
  refine yS rfl ?_
  refine yN ?_
  refine h_ret ?_
  refine q_thenR ?_
  exact h_ret1 rfl rfl fun w s => ⟨(), rfl, s.res (List.nil_sublist _) (by simp)⟩
end
end Go.Proofs.YtjhocljhhpkiiaaGreatDoor
/- E15 -/
namespace Go.Proofs.YtjhocljhhpkiiaaGreatDoor
open Go.RowKit
theorem byte_lt_bits (x y : UInt8) (h : x < y) : ∃ j, j < 8 ∧ (∀ i, i < j → bbit x i = bbit y i) ∧ bbit x j = false ∧ bbit y j = true := by
 have key : ∀ n m : Fin 256, n.val < m.val → ((List.range 8).any fun j => ((List.range j).all fun i => bbit (UInt8.ofNat n.val) i == bbit (UInt8.ofNat m.val) i) && !bbit (UInt8.ofNat n.val) j && bbit (UInt8.ofNat m.val) j) = true := by decide +kernel
 have h2 := key ⟨x.toNat, x.toNat_lt⟩ ⟨y.toNat, y.toNat_lt⟩ (UInt8.lt_iff_toNat_lt.1 h)
 simp only [UInt8.ofNat_toNat, List.any_eq_true, List.mem_range, Bool.and_eq_true, List.all_eq_true, beq_iff_eq, Bool.not_eq_true'] at h2
 obtain ⟨j, hj, ⟨h3, h4⟩, h5⟩ := h2
 exact ⟨j, hj, h3, h4, h5⟩
theorem cmpL_lt : ∀ (a b : List UInt8), cmpL a b < 0 → ∃ k, k < a.length ∧ k < b.length ∧ (∀ i, i < k → a.getD i 0 = b.getD i 0) ∧ a.getD k 0 < b.getD k 0
 | [], b, h => by unfold cmpL at h; omega
 | x :: a, [], h => by unfold cmpL at h; omega
 | x :: a, y :: b, h => by
  unfold cmpL at h
  by_cases h1 : x < y
  ·exact ⟨0, by simp, by simp, fun i hi => by omega, by simpa using h1⟩
  ·rw [if_neg h1] at h
   by_cases h2 : y < x
   ·rw [if_pos h2] at h; omega
   ·rw [if_neg h2] at h
    obtain ⟨k, k1, k2, k3, k4⟩ := cmpL_lt a b h
    have e : x = y := UInt8.le_antisymm (UInt8.not_lt.1 h2) (UInt8.not_lt.1 h1)
    refine ⟨k + 1, by simp; omega, by simp; omega, fun i hi => ?_, by simpa using k4⟩
    cases i with
    | zero => simpa using e
    | succ i => simpa using k3 i (by omega)
theorem cmpB_bits {a b : B32} (h : cmpB a b < 0) : ∃ i, i < 256 ∧ (∀ j, j < i → bitAt a j = bitAt b j) ∧ bitAt a i = false ∧ bitAt b i = true := by
 obtain ⟨k, k1, _, k3, k4⟩ := cmpL_lt a.1 b.1 h
 obtain ⟨j, hj, h1, h2, h3⟩ := byte_lt_bits _ _ k4
 have ha := a.2
 refine ⟨8 * k + j, by omega, fun i hi => ?_, ?_, ?_⟩
 ·unfold bitAt
  by_cases hk : i / 8 < k
  ·rw [k3 _ hk]
  ·have e : i / 8 = k := by omega
   rw [e]
   exact h1 _ (by omega)
 ·unfold bitAt
  rw [show (8 * k + j) / 8 = k by omega, show (8 * k + j) % 8 = j by omega]
  exact h2
 ·unfold bitAt
  rw [show (8 * k + j) / 8 = k by omega, show (8 * k + j) % 8 = j by omega]
  exact h3
end Go.Proofs.YtjhocljhhpkiiaaGreatDoor
/- E16 -/
namespace Go.Proofs.YtjhocljhhpkiiaaGreatDoor
open Go.RowKit
def ltK (a b : B32) : Prop := ∃ i, i < 256 ∧ (∀ j, j < i → bitAt a j = bitAt b j) ∧ bitAt a i = false ∧ bitAt b i = true
theorem ltK_trans {a b c : B32} (h : ltK a b) (h' : ltK b c) : ltK a c := by
 obtain ⟨i, i1, i2, i3, i4⟩ := h
 obtain ⟨j, j1, j2, j3, j4⟩ := h'
 rcases Nat.lt_trichotomy i j with hij | rfl | hij
 ·exact ⟨i, i1, fun k hk => (i2 k hk).trans (j2 k (by omega)), i3, (j2 i hij) ▸ i4⟩
 ·rw [i4] at j3; cases j3
 ·exact ⟨j, j1, fun k hk => (i2 k (by omega)).trans (j2 k hk), (i2 j hij).trans j3, j4⟩
def AlikeK (l : List B32) (d : Nat) : Prop := ∀ a ∈ l, ∀ b ∈ l, ∀ i, i < d → bitAt a i = bitAt b i
theorem ltK_bit {a b : B32} {d : Nat} (h : ltK a b) (ha : ∀ i, i < d → bitAt a i = bitAt b i) (hb : bitAt a d = true) : bitAt b d = true := by
 obtain ⟨i, i1, i2, i3, i4⟩ := h
 rcases Nat.lt_trichotomy i d with hid | rfl | hid
 ·rw [ha i hid, i4] at i3; cases i3
 ·rw [hb] at i3; cases i3
 ·rw [← i2 d hid]; exact hb
theorem split_at : ∀ {l : List B32} {d : Nat}, l.Pairwise ltK → AlikeK l d → ∃ m, m ≤ l.length ∧ (∀ j, j < l.length → bitAt (l.getD j zB32) d = decide (m ≤ j)) ∧ l.take m = l.filter (fun k => bitAt k d == false) ∧ l.drop m = l.filter (fun k => bitAt k d == true)
 | [], _, _, _ => ⟨0, Nat.le_refl _, fun j hj => by simp at hj, rfl, rfl⟩
 | a :: l, d, ho, ha => by
  obtain ⟨h1, h2⟩ := List.pairwise_cons.1 ho
  have hal : AlikeK l d := fun x hx y hy => ha x (List.mem_cons_of_mem _ hx) y (List.mem_cons_of_mem _ hy)
  cases hb : bitAt a d
  ·obtain ⟨m, m1, m2, m3, m4⟩ := split_at h2 hal
   refine ⟨m + 1, by simp; omega, fun j hj => ?_, ?_, ?_⟩
   ·cases j with
    | zero => simpa using hb
    | succ j =>
     have := m2 j (by simpa using hj)
     rw [List.getD_cons_succ, this]
     exact decide_eq_decide.2 ⟨fun h => by omega, fun h => by omega⟩
   ·rw [List.take_succ_cons, m3, List.filter_cons_of_pos (by simp [hb])]
   ·rw [List.drop_succ_cons, m4, List.filter_cons_of_neg (by simp [hb])]
  ·have hall : ∀ x ∈ l, bitAt x d = true := fun x hx => ltK_bit (h1 x hx) (ha a (List.mem_cons_self ..) x (List.mem_cons_of_mem _ hx)) hb
   refine ⟨0, Nat.zero_le _, fun j hj => ?_, ?_, ?_⟩
   ·cases j with
    | zero => simpa using hb
    | succ j =>
     have hj' : j < l.length := by simpa using hj
     rw [List.getD_cons_succ, List.getD_eq_getElem?_getD, List.getElem?_eq_getElem hj', Option.getD_some, hall _ (List.getElem_mem hj')]
     simp
   ·rw [List.take_zero, List.filter_cons_of_neg (by simp [hb])]
    symm
    rw [List.filter_eq_nil_iff]
    intro x hx
    simp [hall x hx]
   ·rw [List.drop_zero, List.filter_cons_of_pos (by simp [hb])]
    congr 1
    symm
    rw [List.filter_eq_self]
    intro x hx
    simp [hall x hx]
end Go.Proofs.YtjhocljhhpkiiaaGreatDoor
/- E17 -/
namespace Go.Proofs.YtjhocljhhpkiiaaGreatDoor
open Go.RowKit
def keysB (ks : List B32) (d : Nat) (b : Bool) : List B32 := ks.filter fun k => bitAt k d == b
theorem keysB_alike {ks : List B32} {d : Nat} (h : AlikeK ks d) (b : Bool) : AlikeK (keysB ks d b) (d + 1) := fun x hx y hy i hi => by
 have hx' := List.mem_filter.1 hx
 have hy' := List.mem_filter.1 hy
 rcases Nat.lt_or_ge i d with h1 | h1
 ·exact h x hx'.1 y hy'.1 i h1
 ·obtain rfl : i = d := by omega
  have e1 : bitAt x i = b := by simpa using hx'.2
  have e2 : bitAt y i = b := by simpa using hy'.2
  rw [e1, e2]
theorem keysB_ord {ks : List B32} {d : Nat} (h : ks.Pairwise ltK) (b : Bool) : (keysB ks d b).Pairwise ltK := h.filter _
end Go.Proofs.YtjhocljhhpkiiaaGreatDoor
/- U63 -/
namespace Go.Proofs.YtjhocljhhpkiiaaGreatDoor
open Go.RowKit
theorem its_at {l : List Item} {k : Nat} {x : Item} (h : l[k]? = some x) : ∀ j v, x.cells[j]? = some v → (its l)[k * 97 + j]? = some v := by
 induction l generalizing k with
 | nil => cases h
 | cons y l ih =>
  intro j v hv
  rw [its_cons]
  cases k with
  | zero =>
   obtain rfl : y = x := by simpa using h
   rw [Nat.zero_mul, Nat.zero_add, List.getElem?_append_left (List.getElem?_eq_some_iff.1 hv).1]
   exact hv
  | succ k =>
   rw [List.getElem?_append_right (by rw [Item.cells_length]; omega), Item.cells_length, show (k + 1) * 97 + j - 97 = k * 97 + j by omega]
   exact ih (by simpa using h) j v hv
def parseV : Except Int Sub → Value
 | .ok t => .tuple #[.iface t.tag t.val, .int .i64 0]
 | .error e => .tuple #[.nilIface, .int .i64 e]
theorem clean3 {x : Item} (h : x.kind = 3) : cleanItem x = decide (x.leaf = zLeaf) := by unfold cleanItem; simp [h]
theorem clean1 {x : Item} (h : ¬ x.kind = 3) (hd : x.digest = zB32) (h1 : x.kind = 1) : cleanItem x = true := by unfold cleanItem; simp [hd, h1]
theorem clean0 {x : Item} (h : ¬ x.kind = 3) (hd : x.digest = zB32) (h1 : ¬ x.kind = 1) : cleanItem x = decide (x.leaf = zLeaf) := by unfold cleanItem; simp [hd, h1]
theorem cleanN {x : Item} (h : ¬ x.kind = 3) (hd : ¬ x.digest = zB32) : cleanItem x = false := by unfold cleanItem; simp [h, hd]
section
variable (h : Zh)
theorem parse_s (l : List Item) (A : Option Addr) (c : Nat) [hr : RdZ h A (its l)] (hc : l.length ≤ c) (hl : l.length ≤ 1000000) : Spec Tryz.prog 145 [.slice A l.length c].toArray [.zone false h] [] (fun _ : Unit => parseV (parseM l)) (fun _ => []) := by
 have hR := read_all h 256 (Nat.le_refl _) l A c hr hc
 rw [show (256 - ((256 : Nat) : Int)) = 0 from rfl] at hR
 refine spec_of Tryz.func145 rfl (n := 64) rfl rfl ?_
 intro W
 refine yR ?_
 refine yS rfl ?_
 refine yS rfl ?_
 refine yN ?_
 refine yR ?_
 refine yS rfl ?_
 refine yN ?_
 refine h_seq ?_
 refine yR ?_
 refine yM rfl ?_
 refine h_op (r_len rfl) ?_
 refine yM rfl ?_
 refine yN ?_
 refine h_block ?_
 refine h_loop (fun (s : Nat × Bool) => s.1 ≤ l.length ∧ (l.take s.1).all kindOk = true ∧ s.2 = (l.take s.1).all cleanItem) (fun (s : Nat × Bool) => [(11, .int .i64 (s.1 : Int)), (10, .int .i64 (l.length : Int)), (9, .slice A l.length c), (4, .bool s.2), (0, .slice A l.length c)]) (fun (s : Nat × Bool) => [.zone false h]) (fun (s : Nat × Bool) => l.length - s.1) (0, true) ((show 0 ≤ l.length ∧ _ ∧ _ from ⟨Nat.zero_le _, rfl, rfl⟩)) ⟨rfl, rfl, rfl, rfl, rfl, trivial⟩ (same) ?_
 rintro ⟨k, b⟩ ⟨hk, hok, hb⟩
 dsimp only at hk hok hb ⊢
 refine yR ?_
 refine h_op (r_lss rfl rfl) ?_
 refine yN ?_
 refine h_seq ?_
 refine h_cond rfl (fun hlt => ?_) (fun hlt => ?_)
 ·have hk2 : k < l.length := by omega
  obtain ⟨x, hx⟩ : ∃ x, l[k]? = some x := ⟨_, List.getElem?_eq_getElem hk2⟩
  have hak := all_take kindOk l k x hx
  have hac := all_take cleanItem l k x hx
  rw [hok, Bool.true_and] at hak
  rw [← hb] at hac
  have h0 : 0 < (its l).length := by rw [its_len]; omega
  obtain ⟨bb, o, rfl, -⟩ := hr.at_ 0 _ (List.getElem?_eq_getElem h0)
  have hat := its_at hx
  by_cases h1 : x.kind < 0
  ·have hpm : parseM l = .error 7 := by
    unfold parseM
    rw [if_neg]
    intro ha
    have := List.all_eq_true.1 ha x (List.mem_of_getElem? hx)
    unfold kindOk at this
    simp at this
    omega
   rw [hpm]
   refine h_skip ?_
   refine q_then ?_
   refine h_seq ?_
   refine h_block ?_
   refine yR ?_
   refine h_op (r_idx rfl rfl) ?_
   refine h_op (r_nthr rfl (out := x.cells) (Item.cells_length x) hat) ?_
   refine h_opX (x_alloc) fun g6 => ?_
   refine h_opS (s_storer rfl rfl) ?_
   refine yN ?_
   refine h_seq ?_
   refine yR ?_
   refine h_op (r_field rfl) ?_
   refine h_op (r_loadc rfl) ?_
   refine h_op (r_bool (r_lss rfl rfl) (decide_eq_true h1)) ?_
   refine yM rfl ?_
   refine h_opOff ?_
   refine h_opOff ?_
   refine h_opOff ?_
   refine h_op (r_pick rfl rfl) ?_
   refine yN ?_
   refine h_condT rfl ?_
   refine yR ?_
   refine yS rfl ?_
   refine yS rfl ?_
   refine yN ?_
   refine h_ret ?_
   refine q_thenR ?_
   refine q_blockR ?_
   refine q_thenR ?_
   refine q_thenR ?_
   refine q_blockR ?_
   refine q_thenR ?_
   exact h_ret2 rfl rfl rfl fun w s => ⟨(), rfl, s.res (List.nil_sublist _) (by simp)⟩
  ·by_cases h2 : 3 < x.kind
   ·have hpm : parseM l = .error 7 := by
     unfold parseM
     rw [if_neg]
     intro ha
     have := List.all_eq_true.1 ha x (List.mem_of_getElem? hx)
     unfold kindOk at this
     simp at this
     omega
    rw [hpm]
    refine h_skip ?_
    refine q_then ?_
    refine h_seq ?_
    refine h_block ?_
    refine yR ?_
    refine h_op (r_idx rfl rfl) ?_
    refine h_op (r_nthr rfl (out := x.cells) (Item.cells_length x) hat) ?_
    refine h_opX (x_alloc) fun g6 => ?_
    refine h_opS (s_storer rfl rfl) ?_
    refine yN ?_
    refine h_seq ?_
    refine yR ?_
    refine h_op (r_field rfl) ?_
    refine h_op (r_loadc rfl) ?_
    refine h_op (r_bool (r_lss rfl rfl) (decide_eq_false h1)) ?_
    refine yM rfl ?_
    refine h_op (r_field rfl) ?_
    refine h_op (r_loadc rfl) ?_
    refine h_op (r_bool (r_gtr rfl rfl) (decide_eq_true h2)) ?_
    refine h_op (r_pick rfl rfl) ?_
    refine yN ?_
    refine h_condT rfl ?_
    refine yR ?_
    refine yS rfl ?_
    refine yS rfl ?_
    refine yN ?_
    refine h_ret ?_
    refine q_thenR ?_
    refine q_blockR ?_
    refine q_thenR ?_
    refine q_thenR ?_
    refine q_blockR ?_
    refine q_thenR ?_
    exact h_ret2 rfl rfl rfl fun w s => ⟨(), rfl, s.res (List.nil_sublist _) (by simp)⟩
   ·have hok' : (l.take (k + 1)).all kindOk = true := by rw [hak]; unfold kindOk; simp; omega
    refine h_skip ?_
    refine q_then ?_
    refine h_seq ?_
    refine h_block ?_
    refine yR ?_
    refine h_op (r_idx rfl rfl) ?_
    refine h_op (r_nthr rfl (out := x.cells) (Item.cells_length x) hat) ?_
    refine h_opX (x_alloc) fun g6 => ?_
    refine h_opS (s_storer rfl rfl) ?_
    refine yN ?_
    refine h_seq ?_
    refine yR ?_
    refine h_op (r_field rfl) ?_
    refine h_op (r_loadc rfl) ?_
    refine h_op (r_bool (r_lss rfl rfl) (decide_eq_false h1)) ?_
    refine yM rfl ?_
    refine h_op (r_field rfl) ?_
    refine h_op (r_loadc rfl) ?_
    refine h_op (r_bool (r_gtr rfl rfl) (decide_eq_false h2)) ?_
    refine h_op (r_pick rfl rfl) ?_
    refine yN ?_
    refine h_condF rfl ?_
    rcases b with _ | _
    ·refine h_skip ?_
     refine q_then ?_
     refine h_reg ?_
     refine yM rfl ?_
     refine yM rfl ?_
     refine h_opOff ?_
     refine h_opOff ?_
     refine h_opOff ?_
     refine h_opOff ?_
     refine h_opOff ?_
     refine h_opOff ?_
     refine h_opOff ?_
     refine h_opOff ?_
     refine h_opOff ?_
     refine h_op (r_pick rfl rfl) ?_
     refine yM rfl ?_
     refine h_opOff ?_
     refine h_opOff ?_
     refine h_opOff ?_
     refine h_opOff ?_
     refine h_opOff ?_
     refine h_opOff ?_
     refine h_opOff ?_
     refine h_opOff ?_
     refine h_opOff ?_
     refine h_op (r_pick rfl rfl) ?_
     refine yS rfl ?_
     refine h_nil ?_
     refine q_block ?_
     refine q_then ?_
     refine h_reg ?_
     refine h_op (r_add rfl rfl) ?_
     refine yM rfl ?_
     refine h_nil ?_
     exact h_back (k + 1, false) (⟨hk2, hok', by rw [hac]; rfl⟩) ((show l.length - (k + 1) < l.length - k by omega)) ⟨rfl, rfl, rfl, rfl, rfl, trivial⟩ (same)
    ·rw [Bool.true_and] at hac
     by_cases h3 : x.kind = 3
     ·refine h_skip ?_
      refine q_then ?_
      refine h_reg ?_
      refine yM rfl ?_
      refine yM rfl ?_
      refine h_op (r_field rfl) ?_
      refine h_op (r_loadc rfl) ?_
      refine h_op (r_bool (r_eql rfl rfl) (decide_eq_true h3)) ?_
      refine yM rfl ?_
      refine h_opOff ?_
      refine h_opOff ?_
      refine h_opOff ?_
      refine h_opOff ?_
      refine h_op (r_pick rfl rfl) ?_
      refine h_op (r_pick rfl rfl) ?_
      refine yM rfl ?_
      refine h_op (r_field rfl) ?_
      refine h_op (r_loadc rfl) ?_
      refine h_op (r_bool (r_eql rfl rfl) (decide_eq_false (by omega))) ?_
      refine yM rfl ?_
      refine h_op (r_field rfl) ?_
      refine h_op (r_loadr rfl) ?_
      refine h_op (r_build rfl) ?_
      refine h_op (r_eqr rfl rfl) ?_
      refine h_op (r_pick rfl rfl) ?_
      refine h_op (r_pick rfl rfl) ?_
      refine yS rfl ?_
      refine h_nil ?_
      refine q_block ?_
      refine q_then ?_
      refine h_reg ?_
      refine h_op (r_add rfl rfl) ?_
      refine yM rfl ?_
      refine h_nil ?_
      exact h_back (k + 1, decide (x.leaf = zLeaf)) (⟨hk2, hok', by rw [hac, clean3 h3]⟩) ((show l.length - (k + 1) < l.length - k by omega)) ⟨rfl, rfl, rfl, rfl, rfl, trivial⟩ (same)
     ·by_cases hd : x.digest = zB32
      ·by_cases h4 : x.kind = 1
       ·refine h_skip ?_
        refine q_then ?_
        refine h_reg ?_
        refine yM rfl ?_
        refine yM rfl ?_
        refine h_op (r_field rfl) ?_
        refine h_op (r_loadc rfl) ?_
        refine h_op (r_bool (r_eql rfl rfl) (decide_eq_false h3)) ?_
        refine yM rfl ?_
        refine h_op (r_field rfl) ?_
        refine h_op (r_loadr rfl) ?_
        refine h_op (r_build rfl) ?_
        refine h_op (r_bool (r_eqr rfl rfl) (decide_eq_true hd)) ?_
        refine h_op (r_pick rfl rfl) ?_
        refine h_op (r_pick rfl rfl) ?_
        refine yM rfl ?_
        refine h_op (r_field rfl) ?_
        refine h_op (r_loadc rfl) ?_
        refine h_op (r_bool (r_eql rfl rfl) (decide_eq_true h4)) ?_
        refine yM rfl ?_
        refine h_opOff ?_
        refine h_opOff ?_
        refine h_opOff ?_
        refine h_opOff ?_
        refine h_op (r_pick rfl rfl) ?_
        refine h_op (r_pick rfl rfl) ?_
        refine yS rfl ?_
        refine h_nil ?_
        refine q_block ?_
        refine q_then ?_
        refine h_reg ?_
        refine h_op (r_add rfl rfl) ?_
        refine yM rfl ?_
        refine h_nil ?_
        exact h_back (k + 1, true) (⟨hk2, hok', by rw [hac, clean1 h3 hd h4]⟩) ((show l.length - (k + 1) < l.length - k by omega)) ⟨rfl, rfl, rfl, rfl, rfl, trivial⟩ (same)
       ·refine h_skip ?_
        refine q_then ?_
        refine h_reg ?_
        refine yM rfl ?_
        refine yM rfl ?_
        refine h_op (r_field rfl) ?_
        refine h_op (r_loadc rfl) ?_
        refine h_op (r_bool (r_eql rfl rfl) (decide_eq_false h3)) ?_
        refine yM rfl ?_
        refine h_op (r_field rfl) ?_
        refine h_op (r_loadr rfl) ?_
        refine h_op (r_build rfl) ?_
        refine h_op (r_bool (r_eqr rfl rfl) (decide_eq_true hd)) ?_
        refine h_op (r_pick rfl rfl) ?_
        refine h_op (r_pick rfl rfl) ?_
        refine yM rfl ?_
        refine h_op (r_field rfl) ?_
        refine h_op (r_loadc rfl) ?_
        refine h_op (r_bool (r_eql rfl rfl) (decide_eq_false h4)) ?_
        refine yM rfl ?_
        refine h_op (r_field rfl) ?_
        refine h_op (r_loadr rfl) ?_
        refine h_op (r_build rfl) ?_
        refine h_op (r_eqr rfl rfl) ?_
        refine h_op (r_pick rfl rfl) ?_
        refine h_op (r_pick rfl rfl) ?_
        refine yS rfl ?_
        refine h_nil ?_
        refine q_block ?_
        refine q_then ?_
        refine h_reg ?_
        refine h_op (r_add rfl rfl) ?_
        refine yM rfl ?_
        refine h_nil ?_
        exact h_back (k + 1, decide (x.leaf = zLeaf)) (⟨hk2, hok', by rw [hac, clean0 h3 hd h4]⟩) ((show l.length - (k + 1) < l.length - k by omega)) ⟨rfl, rfl, rfl, rfl, rfl, trivial⟩ (same)
      ·refine h_skip ?_
       refine q_then ?_
       refine h_reg ?_
       refine yM rfl ?_
       refine yM rfl ?_
       refine h_op (r_field rfl) ?_
       refine h_op (r_loadc rfl) ?_
       refine h_op (r_bool (r_eql rfl rfl) (decide_eq_false h3)) ?_
       refine yM rfl ?_
       refine h_op (r_field rfl) ?_
       refine h_op (r_loadr rfl) ?_
       refine h_op (r_build rfl) ?_
       refine h_op (r_bool (r_eqr rfl rfl) (decide_eq_false hd)) ?_
       refine h_op (r_pick rfl rfl) ?_
       refine h_op (r_pick rfl rfl) ?_
       refine yM rfl ?_
       refine h_opOff ?_
       refine h_opOff ?_
       refine h_opOff ?_
       refine h_opOff ?_
       refine h_opOff ?_
       refine h_opOff ?_
       refine h_opOff ?_
       refine h_opOff ?_
       refine h_opOff ?_
       refine h_op (r_pick rfl rfl) ?_
       refine yS rfl ?_
       refine h_nil ?_
       refine q_block ?_
       refine q_then ?_
       refine h_reg ?_
       refine h_op (r_add rfl rfl) ?_
       refine yM rfl ?_
       refine h_nil ?_
       exact h_back (k + 1, false) (⟨hk2, hok', by rw [hac, cleanN h3 hd]⟩) ((show l.length - (k + 1) < l.length - k by omega)) ⟨rfl, rfl, rfl, rfl, rfl, trivial⟩ (same)
 ·obtain rfl : k = l.length := by omega
  rw [List.take_length] at hok hb
  have hpm : parseM l = match readM 256 l with | some (t, []) => if l.all cleanItem then .ok t else .error 5 | _ => .error 5 := by
   unfold parseM
   rw [if_pos hok]
   rcases readM 256 l with _ | ⟨t, r⟩
   ·rfl
   ·cases r <;> rfl
  rw [hpm]
  rcases hm : readM 256 l with _ | ⟨t, r⟩
  ·rw [hm] at hR
   refine h_exit ?_
   refine q_thenE ?_
   refine q_thenE ?_
   refine q_blockE ?_
   refine q_then ?_
   refine yR ?_
   refine yM rfl ?_
   refine h_call (hR.comes) rfl rfl rfl fun _ => ?_
   rcases b with _ | _
   ·refine yM rfl ?_
    refine h_op (r_extract rfl rfl) ?_
    refine h_op (r_extract rfl rfl) ?_
    refine yS rfl ?_
    refine yS rfl ?_
    refine yN ?_
    refine h_seq ?_
    refine yR ?_
    refine yM rfl ?_
    refine h_op (r_not rfl) ?_
    refine yM rfl ?_
    refine h_opOff ?_
    refine h_opOff ?_
    refine h_op (r_pick rfl rfl) ?_
    refine yM rfl ?_
    refine h_opOff ?_
    refine h_opOff ?_
    refine h_opOff ?_
    refine h_op (r_pick rfl rfl) ?_
    refine yN ?_
    refine h_condT rfl ?_
    refine yR ?_
    refine yS rfl ?_
    refine yS rfl ?_
    refine yN ?_
    refine h_ret ?_
    refine q_thenR ?_
    exact h_ret2 rfl rfl rfl fun w s => ⟨(), rfl, s.res (List.nil_sublist _) (by simp)⟩
   ·refine yM rfl ?_
    refine h_op (r_extract rfl rfl) ?_
    refine h_op (r_extract rfl rfl) ?_
    refine yS rfl ?_
    refine yS rfl ?_
    refine yN ?_
    refine h_seq ?_
    refine yR ?_
    refine yM rfl ?_
    refine h_op (r_not rfl) ?_
    refine yM rfl ?_
    refine yM rfl ?_
    refine h_op (r_nilnil rfl) ?_
    refine h_op (r_pick rfl rfl) ?_
    refine yM rfl ?_
    refine h_opOff ?_
    refine h_opOff ?_
    refine h_opOff ?_
    refine h_op (r_pick rfl rfl) ?_
    refine yN ?_
    refine h_condT rfl ?_
    refine yR ?_
    refine yS rfl ?_
    refine yS rfl ?_
    refine yN ?_
    refine h_ret ?_
    refine q_thenR ?_
    exact h_ret2 rfl rfl rfl fun w s => ⟨(), rfl, s.res (List.nil_sublist _) (by simp)⟩
  ·rw [hm] at hR
   refine h_exit ?_
   refine q_thenE ?_
   refine q_thenE ?_
   refine q_blockE ?_
   refine q_then ?_
   refine yR ?_
   refine yM rfl ?_
   refine h_call (hR.comes) rfl rfl rfl fun ⟨⟨A1, c1⟩, hz1, hc1⟩ => ?_
   dsimp only at hz1 hc1 ⊢
   rcases b with _ | _
   ·rw [show parseV (match (some (t, r) : Option (Sub × List Item)) with | some (t, []) => if l.all cleanItem then .ok t else .error 5 | _ => .error 5) = parseV (.error 5) by cases r <;> simp [← hb]]
    refine yM rfl ?_
    refine h_op (r_extract rfl rfl) ?_
    refine h_op (r_extract rfl rfl) ?_
    refine yS rfl ?_
    refine yS rfl ?_
    refine yN ?_
    refine h_seq ?_
    refine yR ?_
    refine yM rfl ?_
    refine h_op (r_not rfl) ?_
    refine yM rfl ?_
    refine h_opOff ?_
    refine h_opOff ?_
    refine h_op (r_pick rfl rfl) ?_
    refine yM rfl ?_
    refine h_opOff ?_
    refine h_opOff ?_
    refine h_opOff ?_
    refine h_op (r_pick rfl rfl) ?_
    refine yN ?_
    refine h_condT rfl ?_
    refine yR ?_
    refine yS rfl ?_
    refine yS rfl ?_
    refine yN ?_
    refine h_ret ?_
    refine q_thenR ?_
    exact h_ret2 rfl rfl rfl fun w s => ⟨(), rfl, s.res (List.nil_sublist _) (by simp)⟩
   ·rcases r with _ | ⟨y, r⟩
    ·rw [show parseV (match (some (t, []) : Option (Sub × List Item)) with | some (t, []) => if l.all cleanItem then .ok t else .error 5 | _ => .error 5) = parseV (.ok t) by simp [← hb]]
     refine yM rfl ?_
     refine h_op (r_extract rfl rfl) ?_
     refine h_op (r_extract rfl rfl) ?_
     refine yS rfl ?_
     refine yS rfl ?_
     refine yN ?_
     refine h_seq ?_
     refine yR ?_
     refine yM rfl ?_
     refine h_op (r_not rfl) ?_
     refine yM rfl ?_
     refine yM rfl ?_
     refine h_op (r_ifnil rfl) ?_
     refine h_op (r_pick rfl rfl) ?_
     refine yM rfl ?_
     refine yM rfl ?_
     refine h_op (r_len rfl) ?_
     refine h_op (r_bool (r_gtr rfl rfl) (show _ = false from rfl)) ?_
     refine h_op (r_pick rfl rfl) ?_
     refine yN ?_
     refine h_condF rfl ?_
     refine h_skip ?_
     refine q_then ?_
     refine yR ?_
     refine yM rfl ?_
     refine yS rfl ?_
     refine yS rfl ?_
     refine yN ?_
     refine h_ret ?_
     exact h_ret2 rfl rfl rfl fun w s => ⟨(), rfl, s.res (List.nil_sublist _) (by simp)⟩
    ·refine yM rfl ?_
     refine h_op (r_extract rfl rfl) ?_
     refine h_op (r_extract rfl rfl) ?_
     refine yS rfl ?_
     refine yS rfl ?_
     refine yN ?_
     refine h_seq ?_
     refine yR ?_
     refine yM rfl ?_
     refine h_op (r_not rfl) ?_
     refine yM rfl ?_
     refine yM rfl ?_
     refine h_op (r_ifnil rfl) ?_
     refine h_op (r_pick rfl rfl) ?_
     refine yM rfl ?_
     refine yM rfl ?_
     refine h_op (r_len rfl) ?_
     refine h_op (r_bool (r_gtr rfl rfl) (decide_eq_true (by simp))) ?_
     refine h_op (r_pick rfl rfl) ?_
     refine yN ?_
     refine h_condT rfl ?_
     refine yR ?_
     refine yS rfl ?_
     refine yS rfl ?_
     refine yN ?_
     refine h_ret ?_
     refine q_thenR ?_
     exact h_ret2 rfl rfl rfl fun w s => ⟨(), rfl, s.res (List.nil_sublist _) (by simp)⟩
theorem mCheck_s (l : List Item) (A : Option Addr) (c : Nat) [hr : RdZ h A (its l)] (hc : l.length ≤ c) (hl : l.length ≤ 1000000) : Spec Tryz.prog 100 [.slice A l.length c].toArray [.zone false h] [] (fun _ : Unit => .int .i64 (checkM l)) (fun _ => []) := by
 have hp := parse_s h l A c hc hl
 unfold checkM
 refine spec_of Tryz.func100 rfl (n := 11) rfl rfl ?_
 intro W
 refine yR ?_
 refine yS rfl ?_
 refine yN ?_
 refine yR ?_
 refine yM rfl ?_
 refine h_call (hp.comes) rfl rfl rfl fun _ => ?_
 cases parseM l
 ·refine yM rfl ?_
  refine h_op (r_extract rfl rfl) ?_
  refine h_op (r_extract rfl rfl) ?_
  refine yS rfl ?_
  refine yS rfl ?_
  refine yN ?_
  refine yR ?_
  refine yM rfl ?_
  refine yS rfl ?_
  refine yN ?_
  refine h_ret ?_
  exact h_ret1 rfl rfl fun w s => ⟨(), rfl, s.res (List.nil_sublist _) (by simp)⟩
 ·refine yM rfl ?_
  refine h_op (r_extract rfl rfl) ?_
  refine h_op (r_extract rfl rfl) ?_
  refine yS rfl ?_
  refine yS rfl ?_
  refine yN ?_
  refine yR ?_
  refine yM rfl ?_
  refine yS rfl ?_
  refine yN ?_
  refine h_ret ?_
  exact h_ret1 rfl rfl fun w s => ⟨(), rfl, s.res (List.nil_sublist _) (by simp)⟩
end
end Go.Proofs.YtjhocljhhpkiiaaGreatDoor
/- U64 -/
namespace Go.Proofs.YtjhocljhhpkiiaaGreatDoor
open Go.RowKit
def preI (x : Item) : List UInt8 := if x.kind = 1 then preL x.leaf else preE
def dgS (n : Nat) : Sub → B32
 | .one x => if x.kind = 3 then x.digest else sumB n (preI x)
 | .two l r => sumB n (preN (dgS n l) (dgS n r))
def Sub.cost : Sub → Nat
 | .one x => if x.kind = 3 then 0 else 1
 | .two l r => l.cost + r.cost + 1
def Sub.dig : Sub → FuncId
 | .one _ => 249
 | .two _ _ => 248
instance iU64_1 : MethT Tryz.prog 235 "sparsetree/multi.digest" 249 := ⟨fun v args w => by kernel_rfl⟩
instance iU64_2 : MethT Tryz.prog 232 "sparsetree/multi.digest" 248 := ⟨fun v args w => by kernel_rfl⟩
instance (t : Sub) : MethT Tryz.prog t.tag "sparsetree/multi.digest" t.dig := by
 cases t
 ·exact inferInstanceAs (MethT Tryz.prog 235 _ 249)
 ·exact inferInstanceAs (MethT Tryz.prog 232 _ 248)
theorem preI_len (x : Item) : (preI x).length ≤ 65 := by
 unfold preI
 split
 ·rw [preL_len]; exact Nat.le_refl _
 ·decide
theorem epre_s (x : Item) : Spec Tryz.prog 148 [.agg x.cells.toArray].toArray [] [] (fun u : Nat × Nat => .slice (some ⟨u.1, 0, none⟩) (preI x).length u.2) (fun u => [.own (.slice (some ⟨u.1, 0, none⟩) (preI x).length u.2) (preI x).length 5 1 (bc (preI x))]) := by
 refine spec_of Tryz.func148 rfl (n := 12) rfl rfl ?_
 intro W
 by_cases hk : x.kind = 1
 ·rw [show preI x = preL x.leaf from if_pos hk]
  refine yR ?_
  refine h_opX (x_box rfl) fun g1 => ?_
  refine yS rfl ?_
  refine yN ?_
  refine h_seq ?_
  refine yR ?_
  refine h_op (r_field rfl) ?_
  refine h_op (r_field rfl) ?_
  refine h_op (r_loadc rfl) ?_
  refine h_op (r_bool (r_eql rfl rfl) (decide_eq_true hk)) ?_
  refine yN ?_
  refine h_condT rfl ?_
  refine yR ?_
  refine h_op (r_field rfl) ?_
  refine h_op (r_field rfl) ?_
  refine h_op (r_loadr rfl) ?_
  refine h_call ((pLeaf_s x.leaf).comes) rfl rfl rfl fun ⟨g10, c10⟩ => ?_
  refine yS rfl ?_
  refine yN ?_
  refine h_ret ?_
  refine q_thenR ?_
  exact h_ret1 rfl rfl fun w s => ⟨(g10, c10), rfl, (same w s).res (List.Sublist.refl _) (by simp [Fa.wr])⟩
 ·rw [show preI x = preE from if_neg hk, show preE.length = 1 from rfl]
  refine yR ?_
  refine h_opX (x_box rfl) fun g1 => ?_
  refine yS rfl ?_
  refine yN ?_
  refine h_seq ?_
  refine yR ?_
  refine h_op (r_field rfl) ?_
  refine h_op (r_field rfl) ?_
  refine h_op (r_loadc rfl) ?_
  refine h_op (r_bool (r_eql rfl rfl) (decide_eq_false hk)) ?_
  refine yN ?_
  refine h_condF rfl ?_
  refine h_skip ?_
  refine q_then ?_
  refine yR ?_
  refine h_call ((pEmpty_s).comes) rfl rfl rfl fun ⟨g11, c11⟩ => ?_
  refine yS rfl ?_
  refine yN ?_
  refine h_ret ?_
  exact h_ret1 rfl rfl fun w s => ⟨(g11, c11), rfl, (same w s).res (List.Sublist.refl _) (by simp [Fa.wr])⟩
section
variable (n : Nat) (hn : n ≤ 256) (gh gc : Nat)
include hn
theorem edig_s (x : Item) (k : Nat) (hk : k ≤ 100000000000) : Spec Tryz.prog 249 [.agg x.cells.toArray, .pointer (some ⟨gh, 0, none⟩)].toArray [HR gh gc n, TBL] [CN gc k] (fun _ : Unit => .agg (dgS n (.one x)).cells.toArray) (fun _ => [CN gc (k + (Sub.one x).cost)]) := by
 have hl := preI_len x
 unfold dgS Sub.cost
 refine spec_of Tryz.func249 rfl (n := 16) rfl rfl ?_
 intro W
 by_cases h3 : x.kind = 3
 ·rw [if_pos h3, if_pos h3]
  refine yR ?_
  refine h_opX (x_box rfl) fun g2 => ?_
  refine h_opX (x_alloc) fun g4 => ?_
  refine yN ?_
  refine h_seq ?_
  refine yR ?_
  refine h_op (r_field rfl) ?_
  refine h_op (r_field rfl) ?_
  refine h_op (r_loadc rfl) ?_
  refine h_op (r_bool (r_eql rfl rfl) (decide_eq_true h3)) ?_
  refine yN ?_
  refine h_condT rfl ?_
  refine yR ?_
  refine h_op (r_field rfl) ?_
  refine h_op (r_field rfl) ?_
  refine h_op (r_loadr rfl) ?_
  refine h_opS (s_storer rfl rfl) ?_
  refine yN ?_
  refine h_ret ?_
  refine q_thenR ?_
  exact h_ret1 rfl (rv_row rfl) fun w s => ⟨(), rfl, (same (L' := [CN gc k]) w s).res (List.Sublist.refl _) (by simp [Fa.wr])⟩
 ·rw [if_neg h3, if_neg h3]
  refine yR ?_
  refine h_opX (x_box rfl) fun g2 => ?_
  refine h_opX (x_alloc) fun g4 => ?_
  refine yN ?_
  refine h_seq ?_
  refine yR ?_
  refine h_op (r_field rfl) ?_
  refine h_op (r_field rfl) ?_
  refine h_op (r_loadc rfl) ?_
  refine h_op (r_bool (r_eql rfl rfl) (decide_eq_false h3)) ?_
  refine yN ?_
  refine h_condF rfl ?_
  refine h_skip ?_
  refine q_then ?_
  refine yR ?_
  refine yM rfl ?_
  refine h_op (r_loadr rfl) ?_
  refine h_call ((epre_s x).comes) rfl rfl rfl fun ⟨g14, c14⟩ => ?_
  refine h_call ((HSum_s n hn gh gc k (by omega) (preI x) (some ⟨g14, 0, none⟩) c14 (fun h => by cases h) (by omega)).comes) rfl rfl rfl fun _ => ?_
  refine h_opS (s_storer rfl rfl) ?_
  refine yN ?_
  refine h_ret ?_
  exact h_ret1 rfl (rv_row rfl) fun w s => ⟨(), rfl, (same (L' := [CN gc (k + 1)]) w s).res (List.Sublist.refl _) (by simp [Fa.wr])⟩
def DigS (t : Sub) : Prop := ∀ k, k + t.cost ≤ 100000000000 → Spec Tryz.prog t.dig [t.val, .pointer (some ⟨gh, 0, none⟩)].toArray [HR gh gc n, TBL] [CN gc k] (fun _ : Unit => .agg (dgS n t).cells.toArray) (fun _ => [CN gc (k + t.cost)])
omit hn in
theorem ppre_s (l r : Sub) (hl : DigS n gh gc l) (hr : DigS n gh gc r) (k : Nat) (hk : k + (l.cost + r.cost) ≤ 100000000000) : Spec Tryz.prog 146 [(Sub.two l r).val, .pointer (some ⟨gh, 0, none⟩)].toArray [HR gh gc n, TBL] [CN gc k] (fun u : Nat × Nat => .slice (some ⟨u.1, 0, none⟩) (preN (dgS n l) (dgS n r)).length u.2) (fun u => [.own (.slice (some ⟨u.1, 0, none⟩) (preN (dgS n l) (dgS n r)).length u.2) (preN (dgS n l) (dgS n r)).length 5 1 (bc (preN (dgS n l) (dgS n r))), CN gc (k + l.cost + r.cost)]) := by
 refine spec_of Tryz.func146 rfl (n := 14) rfl rfl ?_
 intro W
 change H _ _ _ _ (argsEnv 0 [.agg [.iface l.tag l.val, .iface r.tag r.val].toArray, .pointer (some ⟨gh, 0, none⟩)]) _ _
 refine yR ?_
 refine h_opX (x_box rfl) fun g2 => ?_
 refine yS rfl ?_
 refine yN ?_
 refine h_seq ?_
 refine ha_start [.blk g2 [.iface l.tag l.val, .iface r.tag r.val] 232] [] mixed (same) ?_
 refine ha_takeP 0 rfl (r_idxA rfl rfl) ?_
 refine ha_take 1 rfl (r_loadc rfl) ?_
 refine ha_takeP 2 rfl (r_move rfl) ?_
 refine ha_takeP 4 rfl (r_idxA rfl rfl) ?_
 refine ha_take 5 rfl (r_loadc rfl) ?_
 refine ha_takeP 6 rfl (r_move rfl) ?_
 refine ha_one 3 ?_
 refine ho_CM 3 rfl ((hl k (by omega)).comes) rfl rfl rfl (fun xx => same) fun _ => ?_
 refine ha_one 7 ?_
 refine ho_CM 7 rfl ((hr (k + l.cost) (by omega)).comes) rfl rfl rfl (fun xx => same) fun _ => ?_
 refine ha_one 8 ?_
 refine ho_C 8 rfl ((pNode_s (dgS n l) (dgS n r)).comes) rfl rfl rfl (fun xx => same) fun ⟨g13, c13⟩ => ?_
 refine ha_takeP 9 rfl (r_assign rfl) ?_
 refine ha_done (by kernel_rfl) ?_
 refine q_then ?_
 refine h_ret ?_
 exact h_ret1 rfl rfl fun w s => ⟨(g13, c13), rfl, (same w s).res (List.Sublist.refl _) (by simp [Fa.wr])⟩
theorem dig_s : ∀ t : Sub, DigS n gh gc t
 | .one x => fun k hk => edig_s n hn gh gc x k (by omega)
 | .two l r => fun k hk => by
  have ihl := dig_s l
  have ihr := dig_s r
  have hk' : k + (l.cost + r.cost + 1) ≤ 100000000000 := hk
  show Spec Tryz.prog 248 _ _ _ _ (fun _ => [CN gc (k + (l.cost + r.cost + 1))])
  unfold dgS
  have hP := ppre_s n gh gc l r ihl ihr k (by omega)
  have hpl := preN_len (dgS n l) (dgS n r)
  rw [show k + (l.cost + r.cost + 1) = k + l.cost + r.cost + 1 by omega]
  refine spec_of Tryz.func248 rfl (n := 10) rfl rfl ?_
  intro W
  change H _ _ _ _ (argsEnv 0 [.agg [.iface l.tag l.val, .iface r.tag r.val].toArray, .pointer (some ⟨gh, 0, none⟩)]) _ _
  refine yR ?_
  refine h_opX (x_box rfl) fun g2 => ?_
  refine h_opX (x_alloc) fun g4 => ?_
  refine yN ?_
  refine yR ?_
  refine yM rfl ?_
  refine h_op (r_loadr rfl) ?_
  refine yM rfl ?_
  refine h_call (hP.comes) rfl rfl rfl fun ⟨g8, c8⟩ => ?_
  dsimp only
  refine h_call ((HSum_s n hn gh gc (k + l.cost + r.cost) (by omega) (preN (dgS n l) (dgS n r)) (some ⟨g8, 0, none⟩) c8 (fun h => by cases h) (by omega)).comes) rfl rfl rfl fun _ => ?_
  refine h_opS (s_storer rfl rfl) ?_
  refine yN ?_
  refine h_ret ?_
  exact h_ret1 rfl (rv_row rfl) fun w s => ⟨(), rfl, (same (L' := [CN gc (k + l.cost + r.cost + 1)]) w s).res (List.Sublist.refl _) (by simp [Fa.wr])⟩
end
end Go.Proofs.YtjhocljhhpkiiaaGreatDoor
/- U65 -/
namespace Go.Proofs.YtjhocljhhpkiiaaGreatDoor
open Go.RowKit
theorem its_kind {l : List Item} {k : Nat} {x : Item} (h : l[k]? = some x) : (its l)[k * 97]? = some (.int .i64 x.kind) := by
 have := its_at h 0 (.int .i64 x.kind) (by simp [Item.cells])
 rwa [Nat.add_zero] at this
theorem Skip_neg (l : List Item) (A : Option Addr) (c : Nat) (i : Int) : Spec Tryz.prog 93 [.slice A l.length c, .int .i64 (-1), .int .i64 i].toArray [.rd A (its l)] [] (fun _ : Unit => .int .i64 (-1)) (fun _ => []) := by
 refine spec_of Tryz.func93 rfl (n := 45) rfl rfl ?_
 intro W
 refine yR ?_
 refine yS rfl ?_
 refine yN ?_
 refine h_seq ?_
 refine yR ?_
 refine yM rfl ?_
 refine h_op (r_bool (r_lss rfl rfl) (show _ = true from rfl)) ?_
 refine yM rfl ?_
 refine h_opOff ?_
 refine h_opOff ?_
 refine h_opOff ?_
 refine h_opOff ?_
 refine h_op (r_pick rfl rfl) ?_
 refine yM rfl ?_
 refine h_opOff ?_
 refine h_opOff ?_
 refine h_opOff ?_
 refine h_opOff ?_
 refine h_opOff ?_
 refine h_opOff ?_
 refine h_opOff ?_
 refine h_opOff ?_
 refine h_opOff ?_
 refine h_opOff ?_
 refine h_op (r_pick rfl rfl) ?_
 refine yN ?_
 refine h_condT rfl ?_
 refine yR ?_
 refine yS rfl ?_
 refine yN ?_
 refine h_ret ?_
 refine q_thenR ?_
 exact h_ret1 rfl rfl fun w s => ⟨(), rfl, s.res (List.nil_sublist _) (by simp)⟩
theorem Skip_end (l : List Item) (A : Option Addr) (c at_ : Nat) (h : l.length ≤ at_) (i : Int) : Spec Tryz.prog 93 [.slice A l.length c, .int .i64 (at_ : Int), .int .i64 i].toArray [.rd A (its l)] [] (fun _ : Unit => .int .i64 (-1)) (fun _ => []) := by
 refine spec_of Tryz.func93 rfl (n := 45) rfl rfl ?_
 intro W
 refine yR ?_
 refine yS rfl ?_
 refine yN ?_
 refine h_seq ?_
 refine yR ?_
 refine yM rfl ?_
 refine h_op (r_bool (r_lss rfl rfl) (decide_eq_false (by omega))) ?_
 refine yM rfl ?_
 refine yM rfl ?_
 refine yM rfl ?_
 refine h_op (r_len rfl) ?_
 refine h_op (r_bool (r_geq rfl rfl) (decide_eq_true (by omega))) ?_
 refine h_op (r_pick rfl rfl) ?_
 refine yM rfl ?_
 refine h_opOff ?_
 refine h_opOff ?_
 refine h_opOff ?_
 refine h_opOff ?_
 refine h_opOff ?_
 refine h_opOff ?_
 refine h_opOff ?_
 refine h_opOff ?_
 refine h_opOff ?_
 refine h_opOff ?_
 refine h_op (r_pick rfl rfl) ?_
 refine yN ?_
 refine h_condT rfl ?_
 refine yR ?_
 refine yS rfl ?_
 refine yN ?_
 refine h_ret ?_
 refine q_thenR ?_
 exact h_ret1 rfl rfl fun w s => ⟨(), rfl, s.res (List.nil_sublist _) (by simp)⟩
section
variable (l : List Item) (A : Option Addr) (c : Nat) (at_ : Nat) (x : Item) (hx : l[at_]? = some x) (hl : l.length ≤ 1000000)
include hx hl
theorem Skip_one (hk : x.kind ≠ 2) (i : Int) : Spec Tryz.prog 93 [.slice A l.length c, .int .i64 (at_ : Int), .int .i64 i].toArray [.rd A (its l)] [] (fun _ : Unit => .int .i64 ((at_ + 1 : Nat) : Int)) (fun _ => []) := by
 have hat : at_ < l.length := (List.getElem?_eq_some_iff.1 hx).1
 have hki := its_kind hx
 refine spec_of Tryz.func93 rfl (n := 45) rfl rfl ?_
 intro W
 refine h_pure (φ := ∃ b o, A = some ⟨b, o, none⟩) (fun w s => Rd.some (s.ok (.rd A (its l)) (by simp)) (by rw [its_len]; omega)) ?_
 rintro ⟨b, o, rfl⟩
 refine yR ?_
 refine yS rfl ?_
 refine yN ?_
 refine h_seq ?_
 refine yR ?_
 refine yM rfl ?_
 refine h_op (r_bool (r_lss rfl rfl) (decide_eq_false (by omega))) ?_
 refine yM rfl ?_
 refine yM rfl ?_
 refine yM rfl ?_
 refine h_op (r_len rfl) ?_
 refine h_op (r_bool (r_geq rfl rfl) (decide_eq_false (by omega))) ?_
 refine h_op (r_pick rfl rfl) ?_
 refine yM rfl ?_
 refine yM rfl ?_
 refine yM rfl ?_
 refine h_op (r_idx rfl rfl) ?_
 refine h_op (r_field rfl) ?_
 refine h_op (r_nth rfl hki) ?_
 refine h_op (r_bool (r_eql rfl rfl) (decide_eq_false hk)) ?_
 refine yM rfl ?_
 refine h_opOff ?_
 refine h_opOff ?_
 refine h_op (r_pick rfl rfl) ?_
 refine h_op (r_pick rfl rfl) ?_
 refine yN ?_
 refine h_condF rfl ?_
 refine h_skip ?_
 refine q_then ?_
 refine h_seq ?_
 refine yR ?_
 refine yM rfl ?_
 refine yM rfl ?_
 refine h_op (r_idx rfl rfl) ?_
 refine h_op (r_field rfl) ?_
 refine h_op (r_nth rfl hki) ?_
 refine h_op (r_bool (r_neq rfl rfl) (decide_eq_true hk)) ?_
 refine yN ?_
 refine h_condT rfl ?_
 refine yR ?_
 refine yM rfl ?_
 refine h_op (r_add rfl rfl) ?_
 refine yS rfl ?_
 refine yN ?_
 refine h_ret ?_
 refine q_thenR ?_
 exact h_ret1 rfl rfl fun w s => ⟨(), rfl, s.res (List.nil_sublist _) (by simp)⟩
theorem Skip_deep (hk : x.kind = 2) (i : Int) (hi : 255 < i) : Spec Tryz.prog 93 [.slice A l.length c, .int .i64 (at_ : Int), .int .i64 i].toArray [.rd A (its l)] [] (fun _ : Unit => .int .i64 (-1)) (fun _ => []) := by
 have hat : at_ < l.length := (List.getElem?_eq_some_iff.1 hx).1
 have hki := its_kind hx
 refine spec_of Tryz.func93 rfl (n := 45) rfl rfl ?_
 intro W
 refine h_pure (φ := ∃ b o, A = some ⟨b, o, none⟩) (fun w s => Rd.some (s.ok (.rd A (its l)) (by simp)) (by rw [its_len]; omega)) ?_
 rintro ⟨b, o, rfl⟩
 refine yR ?_
 refine yS rfl ?_
 refine yN ?_
 refine h_seq ?_
 refine yR ?_
 refine yM rfl ?_
 refine h_op (r_bool (r_lss rfl rfl) (decide_eq_false (by omega))) ?_
 refine yM rfl ?_
 refine yM rfl ?_
 refine yM rfl ?_
 refine h_op (r_len rfl) ?_
 refine h_op (r_bool (r_geq rfl rfl) (decide_eq_false (by omega))) ?_
 refine h_op (r_pick rfl rfl) ?_
 refine yM rfl ?_
 refine yM rfl ?_
 refine yM rfl ?_
 refine h_op (r_idx rfl rfl) ?_
 refine h_op (r_field rfl) ?_
 refine h_op (r_nth rfl hki) ?_
 refine h_op (r_bool (r_eql rfl rfl) (decide_eq_true hk)) ?_
 refine yM rfl ?_
 refine yM rfl ?_
 refine h_op (r_bool (r_gtr rfl rfl) (decide_eq_true (by omega))) ?_
 refine h_op (r_pick rfl rfl) ?_
 refine h_op (r_pick rfl rfl) ?_
 refine yN ?_
 refine h_condT rfl ?_
 refine yR ?_
 refine yS rfl ?_
 refine yN ?_
 refine h_ret ?_
 refine q_thenR ?_
 exact h_ret1 rfl rfl fun w s => ⟨(), rfl, s.res (List.nil_sublist _) (by simp)⟩
theorem Skip_two (hk : x.kind = 2) (d : Nat) (hd : d < 256) (r1 r2 : Int) (h1 : Spec Tryz.prog 93 [.slice A l.length c, .int .i64 ((at_ + 1 : Nat) : Int), .int .i64 (256 - (d : Int))].toArray [.rd A (its l)] [] (fun _ : Unit => .int .i64 r1) (fun _ => []))
  (h2 : Spec Tryz.prog 93 [.slice A l.length c, .int .i64 r1, .int .i64 (256 - (d : Int))].toArray [.rd A (its l)] [] (fun _ : Unit => .int .i64 r2) (fun _ => [])) : Spec Tryz.prog 93 [.slice A l.length c, .int .i64 (at_ : Int), .int .i64 (256 - ((d + 1 : Nat) : Int))].toArray [.rd A (its l)] [] (fun _ : Unit => .int .i64 r2) (fun _ => []) := by
 have hat : at_ < l.length := (List.getElem?_eq_some_iff.1 hx).1
 have hki := its_kind hx
 refine spec_of Tryz.func93 rfl (n := 45) rfl rfl ?_
 intro W
 refine h_pure (φ := ∃ b o, A = some ⟨b, o, none⟩) (fun w s => Rd.some (s.ok (.rd A (its l)) (by simp)) (by rw [its_len]; omega)) ?_
 rintro ⟨b, o, rfl⟩
 refine yR ?_
 refine yS rfl ?_
 refine yN ?_
 refine h_seq ?_
 refine yR ?_
 refine yM rfl ?_
 refine h_op (r_bool (r_lss rfl rfl) (decide_eq_false (by omega))) ?_
 refine yM rfl ?_
 refine yM rfl ?_
 refine yM rfl ?_
 refine h_op (r_len rfl) ?_
 refine h_op (r_bool (r_geq rfl rfl) (decide_eq_false (by omega))) ?_
 refine h_op (r_pick rfl rfl) ?_
 refine yM rfl ?_
 refine yM rfl ?_
 refine yM rfl ?_
 refine h_op (r_idx rfl rfl) ?_
 refine h_op (r_field rfl) ?_
 refine h_op (r_nth rfl hki) ?_
 refine h_op (r_bool (r_eql rfl rfl) (decide_eq_true hk)) ?_
 refine yM rfl ?_
 refine yM rfl ?_
 refine h_op (r_bool (r_gtr rfl rfl) (decide_eq_false (by omega))) ?_
 refine h_op (r_pick rfl rfl) ?_
 refine h_op (r_pick rfl rfl) ?_
 refine yN ?_
 refine h_condF rfl ?_
 refine h_skip ?_
 refine q_then ?_
 refine h_seq ?_
 refine yR ?_
 refine yM rfl ?_
 refine yM rfl ?_
 refine h_op (r_idx rfl rfl) ?_
 refine h_op (r_field rfl) ?_
 refine h_op (r_nth rfl hki) ?_
 refine h_op (r_bool (r_neq rfl rfl) (decide_eq_false (fun h => h hk))) ?_
 refine yN ?_
 refine h_condF rfl ?_
 refine h_skip ?_
 refine q_then ?_
 refine yR ?_
 refine yM rfl ?_
 refine yM rfl ?_
 refine yM rfl ?_
 refine h_op (r_int (r_add rfl rfl) (show _ = ((at_ + 1 : Nat) : Int) by omega)) ?_
 refine yM rfl ?_
 refine h_op (r_int (r_add rfl rfl) (show _ = 256 - (d : Int) by omega)) ?_
 refine h_call (h1.comes) rfl rfl rfl fun _ => ?_
 refine yM rfl ?_
 refine h_op (r_int (r_add rfl rfl) (show _ = 256 - (d : Int) by omega)) ?_
 refine h_call (h2.comes) rfl rfl rfl fun _ => ?_
 refine yS rfl ?_
 refine yN ?_
 refine h_ret ?_
 exact h_ret1 rfl rfl fun w s => ⟨(), rfl, s.res (List.nil_sublist _) (by simp)⟩
end
theorem drop_get {l : List Item} {k : Nat} {x : Item} (h : l[k]? = some x) : l.drop k = x :: l.drop (k + 1) := by
 obtain ⟨h1, h2⟩ := List.getElem?_eq_some_iff.1 h
 rw [List.drop_eq_getElem_cons h1, h2]
theorem Skip_s (l : List Item) (A : Option Addr) (c : Nat) (hl : l.length ≤ 1000000) : ∀ (d : Nat), d ≤ 256 → ∀ at_ : Nat, Spec Tryz.prog 93 [.slice A l.length c, .int .i64 (at_ : Int), .int .i64 (256 - (d : Int))].toArray [.rd A (its l)] [] (fun _ : Unit => .int .i64 (skipI l (readM d (l.drop at_)))) (fun _ => [])
 | d, hd, at_ => by
  cases hx : l[at_]? with
  | none =>
   have h1 := List.getElem?_eq_none_iff.1 hx
   rw [List.drop_of_length_le h1, show readM d [] = none by cases d <;> rfl]
   exact Skip_end l A c at_ h1 _
  | some x =>
   have hat : at_ < l.length := (List.getElem?_eq_some_iff.1 hx).1
   rw [drop_get hx]
   by_cases hk : x.kind = 2
   ·match d, hd with
    | 0, _ =>
     rw [show readM 0 (x :: l.drop (at_ + 1)) = none by unfold readM; rw [if_pos hk]]
     exact Skip_deep l A c at_ x hx hl hk _ (by simp)
    | d + 1, hd =>
     have h1 := Skip_s l A c hl d (by omega) (at_ + 1)
     have e : readM (d + 1) (x :: l.drop (at_ + 1)) = (readM d (l.drop (at_ + 1))).bind fun p => (readM d p.2).bind fun q => some (.two p.1 q.1, q.2) := by
      conv => lhs; unfold readM
      rw [if_pos hk]
     rw [e]
     cases hm : readM d (l.drop (at_ + 1)) with
     | none =>
      rw [hm] at h1
      exact Skip_two l A c at_ x hx hl hk d (by omega) _ _ h1 (Skip_neg l A c _)
     | some p =>
      obtain ⟨t, rest⟩ := p
      obtain ⟨m, hm0, hml, rfl⟩ := readM_suffix d _ t rest hm
      rw [hm] at h1
      rw [List.length_drop] at hml
      have e2 : skipI l (some (t, (l.drop (at_ + 1)).drop m)) = ((at_ + 1 + m : Nat) : Int) := by
       simp only [skipI, List.length_drop]; omega
      rw [e2] at h1
      have h2 := Skip_s l A c hl d (by omega) (at_ + 1 + m)
      rw [← List.drop_drop] at h2
      have h3 := Skip_two l A c at_ x hx hl hk d (by omega) _ _ h1 h2
      have e3 : skipI l (readM d ((l.drop (at_ + 1)).drop m)) = skipI l ((some (t, (l.drop (at_ + 1)).drop m)).bind fun p => (readM d p.2).bind fun q => some (Sub.two p.1 q.1, q.2)) := by
       show _ = skipI l ((readM d ((l.drop (at_ + 1)).drop m)).bind fun q => some (Sub.two t q.1, q.2))
       cases readM d ((l.drop (at_ + 1)).drop m) <;> rfl
      rw [← e3]
      exact h3
   ·rw [show readM d (x :: l.drop (at_ + 1)) = some (.one x, l.drop (at_ + 1)) by cases d <;> (unfold readM; rw [if_neg hk])]
    rw [show skipI l (some (Sub.one x, l.drop (at_ + 1))) = ((at_ + 1 : Nat) : Int) by simp only [skipI, List.length_drop]; omega]
    exact Skip_one l A c at_ x hx hl hk _
termination_by d => d
end Go.Proofs.YtjhocljhhpkiiaaGreatDoor
