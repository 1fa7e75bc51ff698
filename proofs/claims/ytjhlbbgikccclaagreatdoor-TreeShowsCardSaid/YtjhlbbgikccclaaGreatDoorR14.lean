/- law13.Differs: a tree of a map does not differ from it; The text of an error: put 0: error 2; law13.alive: it is true; law13: operations one after the other; TreeRuns; What is asked of the whole program, once for all frames of a great seat; a row's facts put together; law13: TreeForgets, TreeClones, TreeApplies; law13: TreeForgets; law13: TreeClones; Arguments that are lists of items or of keys, opened; Arguments of mverify's laws, opened: claims; a root with bytes; a root with items; keys with an index; law18: VerifyAccepts is true; An argument that is a root with a proof, opened; Arguments of law22 that are structs: a claim with a proof, a claim with a proof and items; Arguments of law22, opened: a byte slice; a claim with a proof; claims with items; a claim with a proof and items; law13: TreeNil (joined texts: U179 U180 U181 U182 TF U183 U185 U184 TI TM U102 TR U152 TX U186) -/
import Derived.Test.YtjhlbbgikccclaaGreatDoorR13
import Derived.Handed
import Derived.JoinedOf
import Derived.SevenTiedAt
set_option linter.all false
/- U179 -/
namespace Go.Proofs.YtjhlbbgikccclaaGreatDoor
open Go.RowKit
section
variable (n : Nat) (hn : n ≤ 256) (gh gc t0 k : Nat) (hk : k ≤ 1000000000) (h : Zh) [hT : RdZ h (some ⟨1, 0, none⟩) hashT] {m : List En} (hord : OrdM m) (hml : m.length ≤ 1000) (hvm : ValsZ h m) (p : Option Addr) [ht : TrZ n h (mkT m 0) p] (B : Option Addr) (cB : Nat) [hB : RdZ h B (ents m)]
include hn hk hord hml hvm
theorem Differs_s : Spec Tryz.prog 42 [.pointer (some ⟨t0, 0, none⟩), .int .i64 (n : Int), .slice B m.length cB].toArray [HR gh gc n, .rd (some ⟨t0, 0, none⟩) [.pointer (some ⟨gh, 0, none⟩), .pointer p]] [.zone true h, CN gc k] (fun u : {u : Zh × Nat // LeZ h u.1 ∧ u.2 ≤ k + 1} => .int .i64 0) (fun u => [.zone true u.1.1, CN gc u.1.2]) := by
 have hal : Alike m 0 := hord.alike
 have hR := TRoot_s t0 gh p n h (mkT m 0) hn gc k (by omega)
 have hk1 : k + (if (mkT m 0).kind = 0 then 1 else 0) ≤ k + 1 := by split <;> omega
 generalize k + (if (mkT m 0).kind = 0 then 1 else 0) = k1 at *
 have hR2 := Root_any n hn h (d := 0) (by omega) hal (by omega) hvm B cB
 have hL := TLen_s t0 gh p n h (mkT m 0)
 rw [mkT_cnt (by omega) hal] at hL
 have hE := TEntries_s t0 gh p n h hord (fun e he => (hvm e he).2) (by omega)
 have hlv := lvP_map p h hord
 have hlm := lvP_mem p h hord (fun e he => (hvm e he).2)
 have hll := lvP_len p h hord
 generalize lvP h p 0 (mkT m 0) = xs at *
 refine spec_of Tryz.func42 rfl (n := 26) rfl rfl ?_
 intro W
 refine yR ?_
 refine yS rfl ?_
 refine yN ?_
 refine h_seq ?_
 refine yR ?_
 refine yM rfl ?_
 refine h_call (hR.comes) rfl rfl rfl fun _ => ?_
 refine yM rfl ?_
 refine yM rfl ?_
 refine h_call (hR2.comes) rfl rfl rfl fun _ => ?_
 refine h_op (r_bool (r_eqr (p := rootM n m 0 = rootM n m 0) rfl rfl) (decide_eq_true rfl)) ?_
 refine yM rfl ?_
 refine yM rfl ?_
 refine h_call (hL.comes) rfl rfl rfl fun _ => ?_
 refine yM rfl ?_
 refine h_op (r_len rfl) ?_
 refine h_op (r_bool (r_eql rfl rfl) (decide_eq_true rfl)) ?_
 refine h_op (r_pick rfl rfl) ?_
 refine yM rfl ?_
 refine yM rfl ?_
 refine h_call (hE.comes) rfl rfl rfl fun ⟨⟨us, A, c⟩, hok⟩ => ?_
 dsimp only at hok ⊢
 have hkv := entL_kv hok
 rw [hlv] at hkv
 have hel := entL_len hok
 have hvz := fun (z : Zh) hh => entL_vals (z := z) hok hh hlm
 generalize entL xs us = es at *
 refine h_freezeAll us fun z1 hz1 hs1 => ?_
 refine h_freezeO (.slice A es.length c) fun z2 A2 c2 e2 hc2 _ _ hz2 hr2 => ?_
 obtain rfl : A = A2 := by injection e2
 obtain rfl : c = c2 := by injection e2
 have hz12 := hz1.trans hz2
 have hv2 : ValsZ z2 es := fun e he => ⟨(hvz z1 hs1 e he).1.mono hz2, (hvz z1 hs1 e he).2⟩
 have hB2 : RdZ z2 B (ents m) := hB.mono (hz1.trans hz2)
 have hS := rSame7_s z2 es m A B c cB hv2 (hvm.mono hz12) hkv (by omega)
 refine yM rfl ?_
 refine h_call (hS.comes) rfl rfl rfl fun _ => ?_
 refine h_op (r_pick rfl rfl) ?_
 refine yN ?_
 refine h_condT rfl ?_
 refine yR ?_
 refine yS rfl ?_
 refine yN ?_
 refine h_ret ?_
 refine q_thenR ?_
 exact h_ret1 rfl rfl fun w s => ⟨⟨(z2, k1), hz12, hk1⟩, rfl, (same (L' := [.zone true z2, CN gc k1]) w s).res (List.Sublist.refl _) (by simp [Fa.wr])⟩
end
end Go.Proofs.YtjhlbbgikccclaaGreatDoor
/- U180 -/
namespace Go.Proofs.YtjhlbbgikccclaaGreatDoor
open Go.RowKit
instance iU180_3 : Ent Tryz.prog 297 := ⟨enters_of Tryz.func297 (by kernel_rfl) rfl⟩
instance iU180_4 : Ent Tryz.prog 296 := ⟨enters_of Tryz.func296 (by kernel_rfl) rfl⟩
instance iU180_5 : Ent Tryz.prog 295 := ⟨enters_of Tryz.func295 (by kernel_rfl) rfl⟩
def digB (i : Nat) : ByteArray := ⟨#[UInt8.ofNat (48 + i)]⟩
def digsB : ByteArray := ⟨#[48, 49, 50, 51, 52, 53, 54, 55, 56, 57, 97, 98, 99, 100, 101, 102, 103, 104, 105, 106, 107, 108, 109, 110, 111, 112, 113, 114, 115, 116, 117, 118, 119, 120, 121, 122]⟩
theorem digs_at {i : Nat} (hi : i = 0 ∨ i = 2) : digsB.extract i (i + 1) = digB i := by
 rcases hi with rfl | rfl <;> rfl
section
variable (i : Nat) (hi : i = 0 ∨ i = 2)
include hi
theorem small13_s : Spec Tryz.prog 297 [.int .i64 (i : Int)].toArray [] [] (fun _ : Unit => .string (digB i)) (fun _ => []) := by
 refine spec_of Tryz.func297 rfl (n := 15) rfl rfl ?_
 intro W
 refine yR ?_
 refine yS rfl ?_
 refine yN ?_
 refine h_seq ?_
 refine yR ?_
 refine yM rfl ?_
 refine h_op (r_bool (r_lss rfl rfl) (decide_eq_true (by omega))) ?_
 refine yN ?_
 refine h_condT rfl ?_
 refine yR ?_
 refine yM rfl ?_
 refine yM rfl ?_
 refine h_op (r_add rfl rfl) ?_
 refine h_op (r_slS (a := digsB) (i := i) (j := i + 1) Tryz.underlying9 rfl rfl rfl (by show i + 1 ≤ 36; omega) (by omega) (digs_at hi)) ?_
 refine yS rfl ?_
 refine yN ?_
 refine h_ret ?_
 refine q_thenR ?_
 exact h_ret1 rfl rfl fun w s => ⟨(), rfl, s.res (List.nil_sublist _) (by simp)⟩
theorem FormatInt13_s : Spec Tryz.prog 296 [.int .i64 (i : Int), .int .i64 10].toArray [] [] (fun _ : Unit => .string (digB i)) (fun _ => []) := by
 refine spec_of Tryz.func296 rfl (n := 54) rfl rfl ?_
 intro W
 refine yR ?_
 refine yS rfl ?_
 refine yN ?_
 refine h_seq ?_
 refine yR ?_
 refine yM rfl ?_
 refine h_op (r_bool (r_eql rfl rfl) rfl) ?_
 refine yN ?_
 refine h_condT rfl ?_
 refine h_seq ?_
 refine yR ?_
 refine yM rfl ?_
 refine h_op (r_bool (r_leq rfl rfl) (decide_eq_true (by omega))) ?_
 refine yM rfl ?_
 refine yM rfl ?_
 refine h_op (r_bool (r_lss rfl rfl) (decide_eq_true (by omega))) ?_
 refine h_op (r_pick rfl rfl) ?_
 refine yN ?_
 refine h_condT rfl ?_
 refine yR ?_
 refine yM rfl ?_
 refine h_call ((small13_s i hi).comes) rfl rfl rfl fun _ => ?_
 refine yS rfl ?_
 refine yN ?_
 refine h_ret ?_
 refine q_thenR ?_
 refine q_thenR ?_
 exact h_ret1 rfl rfl fun w s => ⟨(), rfl, s.res (List.nil_sublist _) (by simp)⟩
theorem Itoa13i_s : Spec Tryz.prog 295 [.int .i64 (i : Int)].toArray [] [] (fun _ : Unit => .string (digB i)) (fun _ => []) := by
 refine spec_of Tryz.func295 rfl (n := 5) rfl rfl ?_
 intro W
 refine yR ?_
 refine yS rfl ?_
 refine yN ?_
 refine yR ?_
 refine yM rfl ?_
 refine h_call ((FormatInt13_s i hi).comes) rfl rfl rfl fun _ => ?_
 refine yS rfl ?_
 refine yN ?_
 refine h_ret ?_
 exact h_ret1 rfl rfl fun w s => ⟨(), rfl, s.res (List.nil_sublist _) (by simp)⟩
theorem Itoa13_s : Spec Tryz.prog 294 [.int .i64 (i : Int)].toArray [] [] (fun _ : Unit => .string (digB i)) (fun _ => []) := by
 refine spec_of Tryz.func294 rfl (n := 5) rfl rfl ?_
 intro W
 refine yR ?_
 refine yS rfl ?_
 refine yN ?_
 refine yR ?_
 refine yM rfl ?_
 refine h_call ((Itoa13i_s i hi).comes) rfl rfl rfl fun _ => ?_
 refine yS rfl ?_
 refine yN ?_
 refine h_ret ?_
 exact h_ret1 rfl rfl fun w s => ⟨(), rfl, s.res (List.nil_sublist _) (by simp)⟩
end
def errB2 : ByteArray := ⟨#[101, 114, 114, 111, 114, 32, 50]⟩
def putB02 : ByteArray := ⟨#[112, 117, 116, 32, 48, 58, 32, 101, 114, 114, 111, 114, 32, 50]⟩
theorem errno2_s : Spec Tryz.prog 293 [.int .i64 2].toArray [] [] (fun _ : Unit => .string errB2) (fun _ => []) := by
 refine spec_of Tryz.func293 rfl (n := 6) rfl rfl ?_
 intro W
 refine yR ?_
 refine yS rfl ?_
 refine yN ?_
 refine yR ?_
 refine yM rfl ?_
 refine h_call ((Itoa13_s 2 (.inr rfl)).comes) rfl rfl rfl fun _ => ?_
 refine h_op (r_addS (c := errB2) rfl rfl rfl) ?_
 refine yS rfl ?_
 refine yN ?_
 refine h_ret ?_
 exact h_ret1 rfl rfl fun w s => ⟨(), rfl, s.res (List.nil_sublist _) (by simp)⟩
instance iU180_1 : MethT Tryz.prog 54 "Error" 293 := ⟨fun v args w => by kernel_rfl⟩
instance iU180_2 : MethT Tryz.prog 145 "Error" 307 := ⟨fun v args w => by kernel_rfl⟩
theorem fault02_s (e : Nat) : Spec Tryz.prog 307 [.pointer (some ⟨e, 0, none⟩)].toArray [.rd (some ⟨e, 0, none⟩) (fltC putB 0 2)] [] (fun _ : Unit => .string putB02) (fun _ => []) := by
 refine spec_of Tryz.func307 rfl (n := 23) rfl rfl ?_
 intro W
 refine yR ?_
 refine yS rfl ?_
 refine yN ?_
 refine h_seq ?_
 refine yR ?_
 refine yM rfl ?_
 refine h_op (r_nilR rfl rfl) ?_
 refine yN ?_
 refine h_condF rfl ?_
 refine h_skip ?_
 refine q_then ?_
 refine h_seq ?_
 refine ha_start [.rd (some ⟨e, 0, none⟩) (fltC putB 0 2)] [] mixed (same) ?_
 refine ha_takeP 0 rfl (r_move rfl) ?_
 refine ha_takeP 1 rfl (r_nilc rfl) ?_
 refine ha_takeP 2 rfl (r_field rfl) ?_
 refine ha_take 3 rfl (r_loadc rfl) ?_
 refine ha_takeP 4 rfl (r_addS (c := ⟨#[112, 117, 116, 32]⟩) rfl rfl rfl) ?_
 refine ha_takeP 5 rfl (r_move rfl) ?_
 refine ha_takeP 6 rfl (r_nilc rfl) ?_
 refine ha_takeP 7 rfl (r_field rfl) ?_
 refine ha_take 8 rfl (r_loadc rfl) ?_
 refine ha_takeP 12 rfl (r_move rfl) ?_
 refine ha_takeP 13 rfl (r_nilc rfl) ?_
 refine ha_takeP 14 rfl (r_field rfl) ?_
 refine ha_take 15 rfl (r_loadc rfl) ?_
 refine ha_one 9 ?_
 refine ho_C 9 rfl ((Itoa13_s 0 (.inl rfl)).comes) rfl rfl rfl (fun xx => same) fun _ => ?_
 refine ha_takeP 10 rfl (r_addS (c := ⟨#[112, 117, 116, 32, 48]⟩) rfl rfl rfl) ?_
 refine ha_takeP 11 rfl (r_addS (c := ⟨#[112, 117, 116, 32, 48, 58, 32]⟩) rfl rfl rfl) ?_
 refine ha_one 16 ?_
 refine ho_CM 16 rfl (errno2_s.comes) rfl rfl rfl (fun xx => same) fun _ => ?_
 refine ha_takeP 17 rfl (r_addS (c := putB02) rfl rfl rfl) ?_
 refine ha_takeP 18 rfl (r_assign rfl) ?_
 refine ha_done (by kernel_rfl) ?_
 refine q_then ?_
 refine h_ret ?_
 exact h_ret1 rfl rfl fun w s => ⟨(), rfl, s.res (List.nil_sublist _) (by simp)⟩
end Go.Proofs.YtjhlbbgikccclaaGreatDoor
/- U181 -/
namespace Go.Proofs.YtjhlbbgikccclaaGreatDoor
open Go.RowKit
abbrev zk (n : Nat) : List UInt8 := List.replicate n 0
theorem slz_own {z : Zh} {g n c : Nat} {l : List UInt8} (hr : RdZ z (some ⟨g, 0, none⟩) (bc l)) (hl : n = l.length) (hc : n ≤ c) : SlZ z ⟨some ⟨g, 0, none⟩, n, c⟩ l := ⟨hl, hc, (fun h => by cases h), hr⟩
theorem alive13_s (h : Zh) [hT : RdZ h (some ⟨1, 0, none⟩) hashT] [hE : ERZ h] : Spec Tryz.prog 34 ([] : List Value).toArray [] [.zone true h] (fun _ : {x : Zh // LeZ h x} => .bool true) (fun x => [.zone true x.1]) := by
 refine spec_of Tryz.func34 rfl (n := 85) rfl rfl ?_
 intro W
 refine yR ?_
 refine yS rfl ?_
 refine yN ?_
 refine yR ?_
 refine h_call ((TNew_s 256 (by decide)).comes) rfl rfl rfl fun ⟨t0, gh, gc⟩ => ?_
 dsimp only
 refine yM rfl ?_
 refine h_op (r_extract rfl rfl) ?_
 refine h_op (r_extract rfl rfl) ?_
 refine yS rfl ?_
 refine yS rfl ?_
 refine yN ?_
 refine h_seq ?_
 refine yR ?_
 refine yM rfl ?_
 refine h_op (r_nilR rfl rfl) ?_
 refine yM rfl ?_
 refine yM rfl ?_
 refine h_op (r_neq rfl rfl) ?_
 refine h_op (r_pick rfl rfl) ?_
 refine yN ?_
 refine h_condF rfl ?_
 refine h_skip ?_
 refine q_then ?_
 refine yR ?_
 refine yM rfl ?_
 refine h_opX (x_makeB rfl rfl) fun g19 => ?_
 refine h_freezeO (.slice (some ⟨g19, 0, none⟩) 31 31) fun z1 B1 c1 e1 _ _ _ hz1 hr1 => ?_
 injection e1 with e1 _ e1'
 subst e1 e1'
 have sk1 : SlZ z1 ⟨some ⟨g19, 0, none⟩, 31, 31⟩ (zk 31) := slz_own hr1 rfl (Nat.le_refl _)
 have hP1 := TPut_bad t0 z1 ⟨some ⟨g19, 0, none⟩, 31, 31⟩ (zk 31) ⟨none, 0, 0⟩ (by decide)
 rw [show entE (zk 31).length (⟨none, 0, 0⟩ : Sl).n = 2 from rfl] at hP1
 refine h_call (hP1.comes) rfl rfl rfl fun g20 => ?_
 refine yS rfl ?_
 refine yN ?_
 refine h_seq ?_
 refine yR ?_
 refine yM rfl ?_
 refine h_op (r_ifnil rfl) ?_
 refine yM rfl ?_
 refine yM rfl ?_
 refine h_callM ((fault02_s g20).comes) rfl rfl rfl fun _ => ?_
 refine h_op (r_bool (r_neS rfl rfl) (show (!(putB02.toList == putB02.toList)) = false by simp)) ?_
 refine h_op (r_pick rfl rfl) ?_
 refine yM rfl ?_
 refine yM rfl ?_
 refine h_opX (x_makeB rfl rfl) fun g30 => ?_
 refine h_opX (x_bslV (ys := [.int .u8 7]) (bc [7]) rfl rfl (bc_one _)) fun g31 => ?_
 refine h_freezeO (.slice (some ⟨g31, 0, none⟩) 1 1) fun z2 B2 c2 e2 _ _ _ hz2 hr2 => ?_
 injection e2 with e2 _ e2'
 subst e2 e2'
 refine h_freezeO (.slice (some ⟨g30, 0, none⟩) 32 32) fun z3 B3 c3 e3 _ _ _ hz3 hr3 => ?_
 injection e3 with e3 _ e3'
 subst e3 e3'
 have hz13 := (hz1.trans hz2).trans hz3
 have hT3 : RdZ z3 (some ⟨1, 0, none⟩) hashT := hT.mono hz13
 have sv3 : SlZ z3 ⟨some ⟨g31, 0, none⟩, 1, 1⟩ [7] := slz_own (hr2.mono hz3) rfl (Nat.le_refl _)
 have sk3 : SlZ z3 ⟨some ⟨g30, 0, none⟩, 32, 32⟩ (zk 32) := slz_own hr3 rfl (Nat.le_refl _)
 have tr3 : TrZ 256 z3 (mkT [] 0) none := by rw [mkT_nil]; exact ⟨rfl⟩
 have hP2 := TPut_ok 256 (by decide) gh gc t0 0 (by decide) z3 (m := []) OrdM.nil.alike (by decide) none ⟨some ⟨g30, 0, none⟩, 32, 32⟩ (zk 32) ⟨some ⟨g31, 0, none⟩, 1, 1⟩ [7] (by decide)
 refine h_call (hP2.comes) rfl rfl rfl fun ⟨⟨z4, q, k4⟩, hz4, ht4, hk4⟩ => ?_
 dsimp only at hz4 ht4 hk4 ⊢
 rw [show putM [] (⟨⟨keyOf (zk 32), ⟨some ⟨g31, 0, none⟩, 1, 1⟩⟩, [7]⟩ : En) = [⟨⟨keyOf (zk 32), ⟨some ⟨g31, 0, none⟩, 1, 1⟩⟩, [7]⟩] from rfl] at ht4
 generalize hx0 : (⟨⟨keyOf (zk 32), ⟨some ⟨g31, 0, none⟩, 1, 1⟩⟩, [7]⟩ : En) = x0 at ht4
 have hxv : x0.val = [7] := by subst hx0; rfl
 have hxk : x0.key = keyOf (zk 32) := by subst hx0; rfl
 have ho4 : OrdM [x0] := List.pairwise_singleton ..
 refine h_op (r_nilnn rfl) ?_
 refine h_op (r_pick rfl rfl) ?_
 refine yN ?_
 refine h_condF rfl ?_
 refine h_skip ?_
 refine q_then ?_
 refine yR ?_
 refine yM rfl ?_
 refine h_opX (x_makeB rfl rfl) fun g37 => ?_
 refine h_freezeO (.slice (some ⟨g37, 0, none⟩) 32 32) fun z5 B5 c5 e5 _ _ _ hz5 hr5 => ?_
 injection e5 with e5 _ e5'
 subst e5 e5'
 have sk5 : SlZ z5 ⟨some ⟨g37, 0, none⟩, 32, 32⟩ (zk 32) := slz_own hr5 rfl (Nat.le_refl _)
 have ht5 : TrZ 256 z5 (mkT [x0] 0) q := ⟨ht4.ok.mono hz5⟩
 have hget : getE' [x0] (keyOf (zk 32)) = some x0 := List.find?_cons_of_pos (decide_eq_true hxk)
 have hG := TGet_ok 256 gh t0 z5 (m := [x0]) ho4.alike q ⟨some ⟨g37, 0, none⟩, 32, 32⟩ (zk 32) rfl (fun e he => by rw [List.mem_singleton.1 he, hxv]; decide)
 rw [hget, show getV (some x0) = [7] from hxv] at hG
 refine h_call (hG.comes) rfl rfl rfl fun ⟨A38, c38⟩ => ?_
 dsimp only
 refine yM rfl ?_
 refine h_op (r_extract rfl rfl) ?_
 refine h_op (r_extract rfl rfl) ?_
 refine h_op (r_extract rfl rfl) ?_
 refine yS rfl ?_
 refine yS rfl ?_
 refine yS rfl ?_
 refine yN ?_
 refine yR ?_
 refine yM rfl ?_
 refine h_opX (x_bslV (ys := [.int .u8 1]) (bc [1]) rfl rfl (bc_one _)) fun g44 => ?_
 refine h_freezeO (.slice (some ⟨g44, 0, none⟩) 1 1) fun z6 B6 c6 e6 _ _ _ hz6 hr6 => ?_
 injection e6 with e6 _ e6'
 subst e6 e6'
 have sk6 : SlZ z6 ⟨some ⟨g44, 0, none⟩, 1, 1⟩ [1] := slz_own hr6 rfl (Nat.le_refl _)
 have ht6 : TrZ 256 z6 (mkT [x0] 0) q := ⟨ht5.ok.mono hz6⟩
 have hD := TDel_bad t0 z6 ⟨some ⟨g44, 0, none⟩, 1, 1⟩ [1] (by decide)
 refine h_call (hD.comes) rfl rfl rfl fun g45 => ?_
 have hL := TLen_s t0 gh q 256 z6 (mkT [x0] 0)
 rw [mkT_cnt (by omega) ho4.alike, show ([x0] : List En).length = 1 from rfl] at hL
 refine yM rfl ?_
 refine h_op (r_extract rfl rfl) ?_
 refine h_op (r_extract rfl rfl) ?_
 refine yS rfl ?_
 refine yS rfl ?_
 refine yN ?_
 refine yR ?_
 refine yM rfl ?_
 refine h_op (r_len rfl) ?_
 refine h_op (r_bool (r_eql rfl rfl) (show _ = true from rfl)) ?_
 refine yM rfl ?_
 refine yM rfl ?_
 refine h_op (r_pick rfl rfl) ?_
 refine yM rfl ?_
 refine yM rfl ?_
 refine h_op (r_nilnil rfl) ?_
 refine h_op (r_pick rfl rfl) ?_
 refine yM rfl ?_
 refine yM rfl ?_
 refine h_op (r_not rfl) ?_
 refine h_op (r_pick rfl rfl) ?_
 refine yM rfl ?_
 refine yM rfl ?_
 have hE6 : ERZ z6 := hE.mono (hz13.trans ((hz4.trans hz5).trans hz6))
 refine h_call ((Code_s g45 delB 0 2).comes) rfl rfl rfl fun _ => ?_
 refine h_op (r_bool (r_eql rfl rfl) (show _ = true from rfl)) ?_
 refine h_op (r_pick rfl rfl) ?_
 refine yM rfl ?_
 refine yM rfl ?_
 refine h_call (hL.comes) rfl rfl rfl fun _ => ?_
 refine h_op (r_bool (r_eql rfl rfl) (show _ = true from rfl)) ?_
 refine h_op (r_pick rfl rfl) ?_
 refine yM rfl ?_
 refine yM rfl ?_
 refine h_opX (x_makeB rfl rfl) fun g74 => ?_
 refine h_op (r_build (out := Claim.cells ⟨⟨some ⟨g74, 0, none⟩, 32, 32⟩, ⟨none, 0, 0⟩, true⟩) rfl) ?_
 refine h_opX (x_bsl rfl rfl) fun g76 => ?_
 generalize hx1 : (⟨⟨⟨some ⟨g74, 0, none⟩, 32, 32⟩, ⟨none, 0, 0⟩, true⟩, zk 32, []⟩ : CB) = x1
 have hcb : Claim.cells ⟨⟨some ⟨g74, 0, none⟩, 32, 32⟩, ⟨none, 0, 0⟩, true⟩ = cbs [x1] := by rw [← hx1]; rfl
 rw [hcb]
 refine h_freezeO (.slice (some ⟨g76, 0, none⟩) 1 1) fun z7 B7 c7 e7 _ _ _ hz7 hr7 => ?_
 injection e7 with e7 _ e7'
 subst e7 e7'
 refine h_freezeO (.slice (some ⟨g74, 0, none⟩) 32 32) fun z8 B8 c8 e8 _ _ _ hz8 hr8 => ?_
 injection e8 with e8 _ e8'
 subst e8 e8'
 have hr78 := hr7.mono hz8
 have hz68 := hz7.trans hz8
 have hz38 := ((hz4.trans hz5).trans hz6).trans hz68
 have hT8 : RdZ z8 (some ⟨1, 0, none⟩) hashT := hT3.mono hz38
 have ht8 : TrZ 256 z8 (mkT [x0] 0) q := ⟨ht6.ok.mono hz68⟩
 have sk8 : SlZ z8 ⟨some ⟨g74, 0, none⟩, 32, 32⟩ (zk 32) := slz_own hr8 rfl (Nat.le_refl _)
 have hcl : ClsZ z8 [x1] := fun y hy => by
  rw [List.mem_singleton.1 hy, ← hx1]
  exact ⟨sk8, slz_nil z8⟩
 have hck : checkU [x1] = none := by rw [← hx1]; rfl
 have hap : applyU [x0] [x1] = [] := by
  have h1 : x1.c.present = true := by rw [← hx1]
  have h2 : x1.kb = zk 32 := by rw [← hx1]
  show stepU [x0] x1 = []
  unfold stepU
  rw [if_pos h1, h2]
  unfold remK
  rw [List.filter_cons_of_neg (by simp [hxk])]
  rfl
 have hA := TApply_ok 256 (by decide) gh gc k4 z8 (m := [x0]) ho4.alike q t0 [x1] (some ⟨g76, 0, none⟩) 1 hcl hck (show 1 + 1 ≤ 100000 by decide) (fun y hy => by rw [List.mem_singleton.1 hy, ← hx1]; exact Nat.zero_le _) (fun e he => by rw [List.mem_singleton.1 he, hxv]; decide) (by have h2 : costB (([x0] : List En).length + ([x1] : List CB).length) 0 ≤ 1028 * 2 := costB_max 2 0; omega)
 rw [hap, show ([x1] : List CB).length = 1 from rfl] at hA
 refine h_call (hA.comes) rfl rfl rfl fun ⟨⟨z9, q9, k9⟩, hz9, ht9, hk9⟩ => ?_
 dsimp only at hz9 ht9 hk9 ⊢
 have hL2 := TLen_s t0 gh q9 256 z9 (mkT [] 0)
 rw [show (mkT [] 0).cnt = 0 by rw [mkT_nil]; rfl] at hL2
 refine h_op (r_nilnil rfl) ?_
 refine h_op (r_pick rfl rfl) ?_
 refine yM rfl ?_
 refine yM rfl ?_
 refine h_call (hL2.comes) rfl rfl rfl fun _ => ?_
 refine h_op (r_bool (r_eql rfl rfl) (show _ = true from rfl)) ?_
 refine h_op (r_pick rfl rfl) ?_
 refine yS rfl ?_
 refine yN ?_
 refine h_ret ?_
 exact h_ret1 rfl rfl fun w s => ⟨⟨z9, hz13.trans (hz38.trans hz9)⟩, rfl, (same (L' := [.zone true z9]) w s).res (List.Sublist.refl _) (by simp [Fa.wr])⟩
end Go.Proofs.YtjhlbbgikccclaaGreatDoor
/- U182 -/
namespace Go.Proofs.YtjhlbbgikccclaaGreatDoor
open Go.RowKit
theorem TNew_no (i : Int) (h : ¬ (0 ≤ i ∧ i ≤ 256)) : Spec Tryz.prog 31 [.int .i64 i].toArray [] [] (fun _ : Unit => .tuple #[.pointer none, .int .i64 4]) (fun _ => []) := by
 refine spec_of Tryz.func31 rfl (n := 17) rfl rfl ?_
 intro W
 refine yR ?_
 refine yS rfl ?_
 refine yS rfl ?_
 refine yN ?_
 refine yR ?_
 refine yM rfl ?_
 refine h_call ((New_no i h).comes) rfl rfl rfl fun _ => ?_
 refine yM rfl ?_
 refine h_op (r_extract rfl rfl) ?_
 refine h_op (r_extract rfl rfl) ?_
 refine yS rfl ?_
 refine yS rfl ?_
 refine yN ?_
 refine h_seq ?_
 refine yR ?_
 refine yM rfl ?_
 refine h_op (r_bool (r_neq rfl rfl) (show _ = true from rfl)) ?_
 refine yN ?_
 refine h_condT rfl ?_
 refine yR ?_
 refine yM rfl ?_
 refine yS rfl ?_
 refine yS rfl ?_
 refine yN ?_
 refine h_ret ?_
 refine q_thenR ?_
 exact h_ret2 rfl rfl rfl fun w s => ⟨(), rfl, s.res (List.nil_sublist _) (by simp)⟩
def runM (l : List OpV) (m : List En) (i : Nat) : List En := doL (l.take i) m
theorem runM_succ {l : List OpV} {m : List En} {i : Nat} (h : i < l.length) : runM l m (i + 1) = doM (runM l m i) (l.getD i zOp) := by
 unfold runM doL
 rw [take_snocE (getD_get zOp h), List.foldl_append]
 rfl
theorem runM_ord {l : List OpV} {m : List En} (hm : OrdM m) : ∀ i, i ≤ l.length → OrdM (runM l m i)
 | 0, _ => hm
 | i + 1, h => by rw [runM_succ h]; exact doM_ord (runM_ord hm i (by omega)) _
theorem fewL_of {l : List OpV} (h : fewL l = true) : l.length ≤ 12 ∧ ∀ x ∈ l, fewO x = true := by
 unfold fewL at h
 rw [Bool.and_eq_true] at h
 exact ⟨of_decide_eq_true h.1, List.all_eq_true.1 h.2⟩
theorem fewL_at {l : List OpV} (h : fewL l = true) {i : Nat} (hi : i < l.length) : fewO (l.getD i zOp) = true := (fewL_of h).2 _ (List.mem_of_getElem? (getD_get zOp hi))
theorem runM_len {l : List OpV} {m : List En} (hf : fewL l = true) : ∀ i, i ≤ l.length → (runM l m i).length ≤ m.length + 20 * i
 | 0, _ => Nat.le_refl _
 | i + 1, h => by
  rw [runM_succ h]
  have h1 := doM_len (m := runM l m i) (fewL_at hf h)
  have h2 := runM_len (m := m) hf i (by omega)
  omega
theorem runM_vals {h : Zh} {l : List OpV} {m : List En} (hm : ValsZ h m) (hz : OpsZ h l) (hf : fewL l = true) : ∀ i, i ≤ l.length → ValsZ h (runM l m i)
 | 0, _ => hm
 | i + 1, hi => by
  rw [runM_succ hi]
  exact doM_vals (runM_vals hm hz hf i (by omega)) (hz _ (List.mem_of_getElem? (getD_get zOp hi))) (fewL_at hf hi)
structure RunZ (n : Nat) (h : Zh) (m : List En) (K : Nat) (x : Zh × Option Addr × Nat × Option Addr × Nat) : Prop where
 le : LeZ h x.1
 tr : TrZ n x.1 (mkT m 0) x.2.1
 cnt : x.2.2.1 ≤ K
 rd : RdZ x.1 x.2.2.2.1 (ents m)
 cap : m.length ≤ x.2.2.2.2
theorem RunZ.start {n : Nat} {h : Zh} : RunZ n h [] 0 (h, none, 0, none, 0) := ⟨LeZ.refl h, by dsimp only; rw [mkT_nil]; exact ⟨rfl⟩, Nat.le_refl _, RdZ.nil _ _, Nat.le_refl _⟩
theorem RunZ.start0 {n : Nat} {h : Zh} {l : List OpV} : RunZ n h (runM l [] 0) (0 * 600001) (h, none, 0, none, 0) := by rw [Nat.zero_mul]; exact RunZ.start
theorem RunZ.step {n : Nat} {h : Zh} {m m' : List En} {K : Nat} {x : Zh × Option Addr × Nat × Option Addr × Nat} (r : RunZ n h m K x) (u : DoX n x.1 m' x.2.2.1) : RunZ n h m' (K + 600000) u.1 := by
 obtain ⟨⟨z, q, k, B, c⟩, h1, h2, h3, h4, h5⟩ := u
 have := r.cnt
 exact ⟨r.le.trans h1, h2, by dsimp only at h3 ⊢; omega, h4, h5⟩
theorem RunZ.on {n : Nat} {h : Zh} {m : List En} {K : Nat} {x : Zh × Option Addr × Nat × Option Addr × Nat} (r : RunZ n h m K x) {z : Zh} (hz : LeZ x.1 z) {k : Nat} (hk : k ≤ x.2.2.1 + 1) : RunZ n h m (K + 1) (z, x.2.1, k, x.2.2.2.1, x.2.2.2.2) := by
 have := r.cnt
 exact ⟨r.le.trans hz, ⟨r.tr.ok.mono hz⟩, by dsimp only; omega, r.rd.mono hz, r.cap⟩
theorem RunZ.more {n : Nat} {h : Zh} {m : List En} {K K' : Nat} {x : Zh × Option Addr × Nat × Option Addr × Nat} (r : RunZ n h m K x) (hk : K ≤ K') : RunZ n h m K' x := ⟨r.le, r.tr, Nat.le_trans r.cnt hk, r.rd, r.cap⟩
abbrev HB (gh gc n : Nat) : Fa := .blk gh [.pointer (some ⟨gc, 0, none⟩), .int .i64 (n : Int)] 170
section
variable (h : Zh) [hT : RdZ h (some ⟨1, 0, none⟩) hashT] [hE : ERZ h] (i : Int) (l : List OpV) (A : Option Addr) (c : Nat) [hA : RdZ h A (opsC l)] (hz : OpsZ h l)
include hT hE hz
set_option maxRecDepth 100000 in
theorem TreeRuns_s : Spec Tryz.prog 8 [.int .i64 i, .slice A l.length c].toArray [] [.zone true h] (fun _ : {x : Zh // LeZ h x} => .bool true) (fun x => [.zone true x.1]) := by
 have hF := fewOps_s h l A c hz
 by_cases hi : 0 ≤ i ∧ i ≤ 256
 ·obtain ⟨n, rfl⟩ : ∃ n : Nat, i = (n : Int) := ⟨i.toNat, by omega⟩
  have hn : n ≤ 256 := by omega
  refine spec_of Tryz.func8 rfl (n := 63) rfl rfl ?_
  intro W
  refine yR ?_
  refine yS rfl ?_
  refine yN ?_
  refine yR ?_
  refine yM rfl ?_
  refine h_call ((TNew_s n hn).comes) rfl rfl rfl fun ⟨t0, gh, gc⟩ => ?_
  dsimp only
  refine yM rfl ?_
  refine h_op (r_extract rfl rfl) ?_
  refine h_op (r_extract rfl rfl) ?_
  refine yS rfl ?_
  refine yS rfl ?_
  refine yN ?_
  refine h_seq ?_
  refine yR ?_
  refine yM rfl ?_
  refine h_call ((Right_yes n hn).comes) rfl rfl rfl fun _ => ?_
  refine h_op (r_not rfl) ?_
  refine yN ?_
  refine h_condF rfl ?_
  refine h_skip ?_
  refine q_then ?_
  refine h_seq ?_
  refine yR ?_
  refine yM rfl ?_
  refine h_call (hF.comes) rfl rfl rfl fun _ => ?_
  cases hf : fewL l
  ·rw [if_neg (by decide)]
   refine h_op (r_bool (r_eql rfl rfl) (show _ = true from rfl)) ?_
   refine yN ?_
   refine h_condT rfl ?_
   refine yR ?_
   refine h_call ((alive13_s h).comes) rfl rfl rfl fun ⟨z1, hz1⟩ => ?_
   dsimp only
   refine yS rfl ?_
   refine yN ?_
   refine h_ret ?_
   refine q_thenR ?_
   exact h_ret1 rfl rfl fun w s => ⟨⟨z1, hz1⟩, rfl, (same (L' := [.zone true z1]) w s).res (List.Sublist.refl _) (by simp [Fa.wr])⟩
  ·rw [if_pos rfl]
   have hll := (fewL_of hf).1
   refine h_op (r_bool (r_eql rfl rfl) (show _ = false from rfl)) ?_
   refine yN ?_
   refine h_condF rfl ?_
   refine h_skip ?_
   refine q_then ?_
   refine h_seq ?_
   refine yR ?_
   refine yM rfl ?_
   refine h_op (r_nilR rfl rfl) ?_
   refine yM rfl ?_
   refine yM rfl ?_
   refine h_op (r_neq rfl rfl) ?_
   refine h_op (r_pick rfl rfl) ?_
   refine yN ?_
   refine h_condF rfl ?_
   refine h_skip ?_
   refine q_then ?_
   refine yR ?_
   refine yS rfl ?_
   refine yN ?_
   refine h_seq ?_
   refine yR ?_
   refine yM rfl ?_
   refine h_op (r_len rfl) ?_
   refine yM rfl ?_
   refine yN ?_
   refine h_block ?_
   refine h_loop (fun (s : Nat × Zh × Option Addr × Nat × Option Addr × Nat) => s.1 ≤ l.length ∧ RunZ n h (runM l [] s.1) (s.1 * 600001) s.2) (fun (s : Nat × Zh × Option Addr × Nat × Option Addr × Nat) => [(41, .int .i64 (s.1 : Int)), (40, .int .i64 (l.length : Int)), (39, .slice A l.length c), (0, .int .i64 (n : Int)), (5, .pointer (some ⟨t0, 0, none⟩)), (7, .slice s.2.2.2.2.1 (runM l [] s.1).length s.2.2.2.2.2)]) (fun (s : Nat × Zh × Option Addr × Nat × Option Addr × Nat) => [.zone true s.2.1, CN gc s.2.2.2.1, TreeF t0 gh s.2.2.1, HB gh gc n]) (fun (s : Nat × Zh × Option Addr × Nat × Option Addr × Nat) => l.length - s.1) (0, h, none, 0, none, 0) (⟨Nat.zero_le _, RunZ.start0⟩) ⟨rfl, rfl, rfl, rfl, rfl, rfl, trivial⟩ (same (L' := [.zone true h, CN gc 0, TreeF t0 gh none, HB gh gc n])) ?_
   rintro ⟨j, z, q, k, B, cB⟩ ⟨hj, hR⟩
   dsimp only at hj hR ⊢
   refine yR ?_
   refine h_op (r_lss rfl rfl) ?_
   refine yN ?_
   refine h_seq ?_
   refine h_cond rfl (fun hlt => ?_) (fun hlt => ?_)
   ·have hj2 : j < l.length := by omega
    have hx := getD_get zOp hj2
    have hrz : RdZ z A (opsC l) := hA.mono hR.le
    have hTz : RdZ z (some ⟨1, 0, none⟩) hashT := hT.mono hR.le
    have hEz : ERZ z := hE.mono hR.le
    have htr : TrZ n z (mkT (runM l [] j) 0) q := hR.tr
    have hrd : RdZ z B (ents (runM l [] j)) := hR.rd
    have hcap : (runM l [] j).length ≤ cB := hR.cap
    have hcnt : k ≤ j * 600001 := hR.cnt
    have hor := runM_ord (l := l) OrdM.nil j (by omega)
    have hln := runM_len (m := []) hf j (by omega)
    have hvl := runM_vals (h := h) (m := []) (fun e he => by cases he) hz hf j (by omega)
    have hor2 := runM_ord (l := l) OrdM.nil (j + 1) (by omega)
    have hln2 := runM_len (m := []) hf (j + 1) (by omega)
    have hvl2 := runM_vals (h := h) (m := []) (fun e he => by cases he) hz hf (j + 1) (by omega)
    have hst := runM_succ (m := []) hj2
    have hfo := fewL_at hf hj2
    have hzo := (hz _ (List.mem_of_getElem? hx)).mono hR.le
    obtain ⟨b, o, rfl, -⟩ := hrz.at_ (j * 4) _ (ops_at hx 0 _ rfl)
    generalize l.getD j zOp = x at *
    have hD := Do_s n hn gh gc t0 k (by omega) z hor (by simp at hln; omega) (hvl.mono hR.le) q B cB hcap x hzo hfo
    unfold DoSp at hD
    rw [← hst] at hD
    have hDf := fun (z' : Zh) (hzz : LeZ z z') (k' : Nat) (hk' : k' ≤ k + 600000) q' ht' B' cB' hB' => @Differs_s n hn gh gc t0 k' (by omega) z' (hTz.mono hzz) (runM l [] (j + 1)) hor2 (by simp at hln2; omega) (hvl2.mono (hR.le.trans hzz)) q' ht' B' cB' hB'
    generalize hm' : runM l [] (j + 1) = m' at *
    generalize runM l [] j = m at *
    refine h_skip ?_
    refine q_then ?_
    refine h_seq ?_
    refine h_block ?_
    refine yR ?_
    refine h_op (r_idx rfl rfl) ?_
    refine h_op (r_nthr rfl (out := x.cells) (OpV.cells_length _) (ops_at hx)) ?_
    refine h_opX (x_alloc) fun g9 => ?_
    refine h_opS (s_storer rfl rfl) ?_
    refine yN ?_
    refine yR ?_
    refine yM rfl ?_
    refine yM rfl ?_
    refine h_op (r_loadr rfl) ?_
    refine h_call (hD.comes) rfl rfl rfl fun u => ?_
    have hR1 := hR.step u
    obtain ⟨⟨z1, q1, k1, B1, c1⟩, u1, u2, u3, u4, u5⟩ := u
    dsimp only at u1 u2 u3 u4 u5 hR1 ⊢
    refine yM rfl ?_
    refine h_op (r_extract rfl rfl) ?_
    refine h_op (r_extract rfl rfl) ?_
    refine yS rfl ?_
    refine yS rfl ?_
    refine yN ?_
    refine yR ?_
    refine yM rfl ?_
    refine yS rfl ?_
    refine yN ?_
    refine yR ?_
    refine yM rfl ?_
    refine yM rfl ?_
    refine yM rfl ?_
    refine yM rfl ?_
    refine yM rfl ?_
    refine h_call ((hDf z1 u1 k1 u3 q1 u2 B1 c1 u4).comes) rfl rfl rfl fun ⟨⟨z2, k2⟩, v1, v2⟩ => ?_
    dsimp only at v1 v2 ⊢
    refine h_op (r_bool (r_gtr rfl rfl) (show _ = false from rfl)) ?_
    refine h_op (r_pick rfl rfl) ?_
    refine yN ?_
    refine h_condF rfl ?_
    refine h_skip ?_
    refine q_block ?_
    refine q_then ?_
    refine h_reg ?_
    refine h_op (r_add rfl rfl) ?_
    refine yM rfl ?_
    refine h_nil ?_
    subst hm'
    exact h_back (j + 1, z2, q1, k2, B1, c1) (⟨hj2, (hR1.on v1 v2).more (by omega)⟩) ((show l.length - (j + 1) < l.length - j by omega)) ⟨rfl, rfl, rfl, rfl, rfl, rfl, trivial⟩ (same)
   ·refine h_exit ?_
    refine q_thenE ?_
    refine q_thenE ?_
    refine q_blockE ?_
    refine q_then ?_
    refine yR ?_
    have hTz : RdZ z (some ⟨1, 0, none⟩) hashT := hT.mono hR.le
    have hEz : ERZ z := hE.mono hR.le
    refine h_call ((alive13_s z).comes) rfl rfl rfl fun ⟨z1, hz1⟩ => ?_
    dsimp only
    refine yS rfl ?_
    refine yN ?_
    refine h_ret ?_
    exact h_ret1 rfl rfl fun w s => ⟨⟨z1, hR.le.trans hz1⟩, rfl, (same (L' := [.zone true z1]) w s).res (List.Sublist.refl _) (by simp [Fa.wr])⟩
 ·refine spec_of Tryz.func8 rfl (n := 63) rfl rfl ?_
  intro W
  refine yR ?_
  refine yS rfl ?_
  refine yN ?_
  refine yR ?_
  refine yM rfl ?_
  refine h_call ((TNew_no i hi).comes) rfl rfl rfl fun _ => ?_
  refine yM rfl ?_
  refine h_op (r_extract rfl rfl) ?_
  refine h_op (r_extract rfl rfl) ?_
  refine yS rfl ?_
  refine yS rfl ?_
  refine yN ?_
  refine h_seq ?_
  refine yR ?_
  refine yM rfl ?_
  refine h_call ((Right_no i hi).comes) rfl rfl rfl fun _ => ?_
  refine h_op (r_not rfl) ?_
  refine yN ?_
  refine h_condT rfl ?_
  refine yR ?_
  refine h_call ((alive13_s h).comes) rfl rfl rfl fun ⟨z1, hz1⟩ => ?_
  dsimp only
  refine yM rfl ?_
  refine yM rfl ?_
  refine h_op (r_nilR rfl rfl) ?_
  refine h_op (r_pick rfl rfl) ?_
  refine yM rfl ?_
  refine yM rfl ?_
  refine h_op (r_bool (r_eql rfl rfl) (show _ = true from rfl)) ?_
  refine h_op (r_pick rfl rfl) ?_
  refine yS rfl ?_
  refine yN ?_
  refine h_ret ?_
  refine q_thenR ?_
  exact h_ret1 rfl rfl fun w s => ⟨⟨z1, hz1⟩, rfl, (same (L' := [.zone true z1]) w s).res (List.Sublist.refl _) (by simp [Fa.wr])⟩
end
end Go.Proofs.YtjhlbbgikccclaaGreatDoor
/- TF -/
namespace Go.Proofs.YtjhlbbgikccclaaGreatDoor
open Go.RowKit Go.ChangeShapes Go.WideShapes
theorem sf_maps : mapsRowed Tryz.prog = true := by kernel_rfl
theorem sf_enter : Tryz.prog.mayEnter = true := by kernel_rfl
theorem sf_keys : Tryz.prog.plainKeys = false := by kernel_rfl
theorem sf_heard : Tryz.prog.stopsHeard = true := by kernel_rfl
theorem sf_lifts : Tryz.prog.liftsFinal = false := by kernel_rfl
theorem sf_looks : Tryz.prog.looks [] = true := by kernel_rfl
theorem beqT {a b c : Bool} (ha : a = c) (hb : b = c) : (a == b) = true := by rw [ha, hb]; exact beq_self_eq_true c
theorem andT {a b : Bool} (ha : a = true) (hb : b = true) : (a && b) = true := by rw [ha, hb]; rfl
end Go.Proofs.YtjhlbbgikccclaaGreatDoor
/- U183 -/
namespace Go.Proofs.YtjhlbbgikccclaaGreatDoor
open Go.RowKit
section
variable (n : Nat) (hn : n ≤ 256) (gh gc t0 : Nat) (h : Zh) [hT : RdZ h (some ⟨1, 0, none⟩) hashT] [hE : ERZ h]
include hn hT
theorem Run_do {l : List OpV} (hz : OpsZ h l) (hf : fewL l = true) {m0 : List En} (ho : OrdM m0) (hml : m0.length ≤ 250) (hv0 : ValsZ h m0) {j : Nat} (hj : j < l.length) {z : Zh} {q : Option Addr} {k : Nat} {B : Option Addr} {cB K : Nat} (hR : RunZ n h (runM l m0 j) K (z, q, k, B, cB)) (hK : K ≤ 80000000) :
  Spec Tryz.prog 35 [.pointer (some ⟨t0, 0, none⟩), .slice B (runM l m0 j).length cB, .agg (l.getD j zOp).cells.toArray].toArray [HR gh gc n] [.zone true z, CN gc k, TreeF t0 gh q] (fun u : DoX n z (runM l m0 (j + 1)) k => .tuple #[.slice u.1.2.2.2.1 (runM l m0 (j + 1)).length u.1.2.2.2.2, .bool false]) (fun u => [.zone true u.1.1, CN gc u.1.2.2.1, TreeF t0 gh u.1.2.1]) := by
 have hx := getD_get zOp hj
 have hln := runM_len (m := m0) hf j (by omega)
 have hll := (fewL_of hf).1
 have hcnt : k ≤ K := hR.cnt
 have hcap : (runM l m0 j).length ≤ cB := hR.cap
 have hD := @Do_s n hn gh gc t0 k (by omega) z (hT.mono hR.le) (hE.mono hR.le) (runM l m0 j) (runM_ord ho j (by omega)) (by omega) ((runM_vals hv0 hz hf j (by omega)).mono hR.le) q hR.tr B cB hR.rd hcap _ ((hz _ (List.mem_of_getElem? hx)).mono hR.le) (fewL_at hf hj)
 unfold DoSp at hD
 rw [← runM_succ hj] at hD
 exact hD
omit hE in
theorem Run_diff {m : List En} (ho : OrdM m) (hml : m.length ≤ 1000) (hv : ValsZ h m) {z : Zh} {q : Option Addr} {k : Nat} {B : Option Addr} {cB K : Nat} (hR : RunZ n h m K (z, q, k, B, cB)) (hK : K ≤ 800000000) :
  Spec Tryz.prog 42 [.pointer (some ⟨t0, 0, none⟩), .int .i64 (n : Int), .slice B m.length cB].toArray [HR gh gc n, .rd (some ⟨t0, 0, none⟩) [.pointer (some ⟨gh, 0, none⟩), .pointer q]] [.zone true z, CN gc k] (fun u : {u : Zh × Nat // LeZ z u.1 ∧ u.2 ≤ k + 1} => .int .i64 0) (fun u => [.zone true u.1.1, CN gc u.1.2]) := by
 have hcnt : k ≤ K := hR.cnt
 exact @Differs_s n hn gh gc t0 k (by omega) z (hT.mono hR.le) m ho hml (hv.mono hR.le) q hR.tr B cB hR.rd
end
theorem RunZ.keep {n : Nat} {h : Zh} {m : List En} {K : Nat} {x : Zh × Option Addr × Nat × Option Addr × Nat} (r : RunZ n h m K x) {z : Zh} (hz : LeZ x.1 z) {k K' : Nat} (hk : k ≤ K') : RunZ n h m K' (z, x.2.1, k, x.2.2.2.1, x.2.2.2.2) :=
 ⟨r.le.trans hz, ⟨r.tr.ok.mono hz⟩, hk, r.rd.mono hz, r.cap⟩
theorem RunZ.zero {n : Nat} {h : Zh} {m : List En} {K : Nat} {x : Zh × Option Addr × Nat × Option Addr × Nat} (l : List OpV) (r : RunZ n h m K x) : RunZ n h (runM l m 0) (K + 0 * 600001) x := by rw [Nat.zero_mul]; exact r
section
variable (h : Zh) [hT : RdZ h (some ⟨1, 0, none⟩) hashT] [hE : ERZ h] (i : Int) (l : List OpV) (A : Option Addr) (c : Nat) [hA : RdZ h A (opsC l)] (hz : OpsZ h l)
include hT hE hz
set_option maxRecDepth 100000 in
theorem TreeApplies_s (us : List CB) (U : Option Addr) (cU : Nat) [hU : RdZ h U (cbs us)] (hcU : us.length ≤ cU) (hzU : ClsZ h us) : Spec Tryz.prog 9 [.int .i64 i, .slice A l.length c, .slice U us.length cU].toArray [] [.zone true h] (fun _ : {x : Zh // LeZ h x} => .bool true) (fun x => [.zone true x.1]) := by
 have hF := fewOps_s h l A c hz
 have hFU := fewU_s us U cU (fun x hx => ⟨(hzU x hx).1.len, (hzU x hx).2.len⟩)
 by_cases hi : 0 ≤ i ∧ i ≤ 256
 ·obtain ⟨n, rfl⟩ : ∃ n : Nat, i = (n : Int) := ⟨i.toNat, by omega⟩
  have hn : n ≤ 256 := by omega
  refine spec_of Tryz.func9 rfl (n := 73) rfl rfl ?_
  intro W
  refine yR ?_
  refine yS rfl ?_
  refine yN ?_
  refine yR ?_
  refine yM rfl ?_
  refine h_call ((TNew_s n hn).comes) rfl rfl rfl fun ⟨t0, gh, gc⟩ => ?_
  dsimp only
  refine yM rfl ?_
  refine h_op (r_extract rfl rfl) ?_
  refine h_op (r_extract rfl rfl) ?_
  refine yS rfl ?_
  refine yS rfl ?_
  refine yN ?_
  refine h_seq ?_
  refine yR ?_
  refine yM rfl ?_
  refine h_call ((Right_yes n hn).comes) rfl rfl rfl fun _ => ?_
  refine h_op (r_not rfl) ?_
  refine yM rfl ?_
  refine yM rfl ?_
  refine h_call (hF.comes) rfl rfl rfl fun _ => ?_
  cases hf : fewL l
  ·rw [if_neg (by decide)]
   refine h_op (r_bool (r_eql rfl rfl) (show _ = true from rfl)) ?_
   refine h_op (r_pick rfl rfl) ?_
   refine yM rfl ?_
   refine h_opOff ?_
   refine h_opOff ?_
   refine h_opOff ?_
   refine h_op (r_pick rfl rfl) ?_
   refine yN ?_
   refine h_condT rfl ?_
   refine yR ?_
   refine h_call ((alive13_s h).comes) rfl rfl rfl fun ⟨z1, hz1⟩ => ?_
   dsimp only
   refine yS rfl ?_
   refine yN ?_
   refine h_ret ?_
   refine q_thenR ?_
   exact h_ret1 rfl rfl fun w s => ⟨⟨z1, hz1⟩, rfl, (same (L' := [.zone true z1]) w s).res (List.Sublist.refl _) (by simp [Fa.wr])⟩
  ·rw [if_pos rfl]
   have hll := (fewL_of hf).1
   refine h_op (r_bool (r_eql rfl rfl) (show _ = false from rfl)) ?_
   refine h_op (r_pick rfl rfl) ?_
   refine yM rfl ?_
   refine yM rfl ?_
   refine h_call (hFU.comes) rfl rfl rfl fun _ => ?_
   cases hfu : fewU us
   ·refine h_op (r_not rfl) ?_
    refine h_op (r_pick rfl rfl) ?_
    refine yN ?_
    refine h_condT rfl ?_
    refine yR ?_
    refine h_call ((alive13_s h).comes) rfl rfl rfl fun ⟨z1, hz1⟩ => ?_
    dsimp only
    refine yS rfl ?_
    refine yN ?_
    refine h_ret ?_
    refine q_thenR ?_
    exact h_ret1 rfl rfl fun w s => ⟨⟨z1, hz1⟩, rfl, (same (L' := [.zone true z1]) w s).res (List.Sublist.refl _) (by simp [Fa.wr])⟩
   ·refine h_op (r_not rfl) ?_
    refine h_op (r_pick rfl rfl) ?_
    refine yN ?_
    refine h_condF rfl ?_
    refine h_skip ?_
    refine q_then ?_
    refine h_seq ?_
    refine yR ?_
    refine yM rfl ?_
    refine h_op (r_nilR rfl rfl) ?_
    refine yM rfl ?_
    refine yM rfl ?_
    refine h_op (r_neq rfl rfl) ?_
    refine h_op (r_pick rfl rfl) ?_
    refine yN ?_
    refine h_condF rfl ?_
    refine h_skip ?_
    refine q_then ?_
    refine yR ?_
    refine yS rfl ?_
    refine yN ?_
    refine h_seq ?_
    refine yR ?_
    refine yM rfl ?_
    refine h_op (r_len rfl) ?_
    refine yM rfl ?_
    refine yN ?_
    refine h_block ?_
    refine h_loop (fun (s : Nat × Zh × Option Addr × Nat × Option Addr × Nat) => s.1 ≤ l.length ∧ RunZ n h (runM l [] s.1) (s.1 * 600001) s.2) (fun (s : Nat × Zh × Option Addr × Nat × Option Addr × Nat) => [(41, .int .i64 (s.1 : Int)), (40, .int .i64 (l.length : Int)), (39, .slice A l.length c), (0, .int .i64 (n : Int)), (2, .slice U us.length cU), (7, .pointer (some ⟨t0, 0, none⟩)), (9, .slice s.2.2.2.2.1 (runM l [] s.1).length s.2.2.2.2.2)]) (fun (s : Nat × Zh × Option Addr × Nat × Option Addr × Nat) => [.zone true s.2.1, CN gc s.2.2.2.1, TreeF t0 gh s.2.2.1, HB gh gc n]) (fun (s : Nat × Zh × Option Addr × Nat × Option Addr × Nat) => l.length - s.1) (0, h, none, 0, none, 0) (⟨Nat.zero_le _, RunZ.start0⟩) ⟨rfl, rfl, rfl, rfl, rfl, rfl, rfl, trivial⟩ (same (L' := [.zone true h, CN gc 0, TreeF t0 gh none, HB gh gc n])) ?_
    rintro ⟨j, z, q, k, B, cB⟩ ⟨hj, hR⟩
    dsimp only at hj hR ⊢
    refine yR ?_
    refine h_op (r_lss rfl rfl) ?_
    refine yN ?_
    refine h_seq ?_
    refine h_cond rfl (fun hlt => ?_) (fun hlt => ?_)
    ·have hj2 : j < l.length := by omega
     have hx := getD_get zOp hj2
     have hrz : RdZ z A (opsC l) := hA.mono hR.le
     have hTz : RdZ z (some ⟨1, 0, none⟩) hashT := hT.mono hR.le
     obtain ⟨b, o, rfl, -⟩ := hrz.at_ (j * 4) _ (ops_at hx 0 _ rfl)
     have hD := Run_do n hn gh gc t0 h hz hf OrdM.nil (by decide) (fun e he => by cases he) hj2 hR (by omega)
     generalize l.getD j zOp = x at *
     generalize hm' : runM l [] (j + 1) = m' at *
     generalize runM l [] j = m at *
     refine h_skip ?_
     refine q_then ?_
     refine h_seq ?_
     refine h_block ?_
     refine yR ?_
     refine h_op (r_idx rfl rfl) ?_
     refine h_op (r_nthr rfl (out := x.cells) (OpV.cells_length _) (ops_at hx)) ?_
     refine h_opX (x_alloc) fun g11 => ?_
     refine h_opS (s_storer rfl rfl) ?_
     refine yN ?_
     refine h_reg ?_
     refine yM rfl ?_
     refine yM rfl ?_
     refine h_op (r_loadr rfl) ?_
     refine h_call (hD.comes) rfl rfl rfl fun u => ?_
     have hR1 := hR.step u
     obtain ⟨⟨z1, q1, k1, B1, c1⟩, u1, u2, u3, u4, u5⟩ := u
     dsimp only at u1 u2 u3 u4 u5 hR1 ⊢
     refine yM rfl ?_
     refine h_op (r_extract rfl rfl) ?_
     refine h_op (r_extract rfl rfl) ?_
     refine yS rfl ?_
     refine h_nil ?_
     refine q_block ?_
     refine q_then ?_
     refine h_reg ?_
     refine h_op (r_add rfl rfl) ?_
     refine yM rfl ?_
     refine h_nil ?_
     subst hm'
     exact h_back (j + 1, z1, q1, k1, B1, c1) (⟨hj2, hR1.more (by omega)⟩) ((show l.length - (j + 1) < l.length - j by omega)) ⟨rfl, rfl, rfl, rfl, rfl, rfl, rfl, trivial⟩ (same)
    ·obtain rfl : j = l.length := by omega
     have hTz : RdZ z (some ⟨1, 0, none⟩) hashT := hT.mono hR.le
     have hEz : ERZ z := hE.mono hR.le
     have hor := runM_ord (l := l) OrdM.nil l.length (Nat.le_refl _)
     have hln := runM_len (m := []) hf l.length (Nat.le_refl _)
     have hvl := runM_vals (h := h) (m := []) (fun e he => by cases he) hz hf l.length (Nat.le_refl _)
     have hbnd : ([] : List En).length = 0 := rfl
     generalize runM l [] l.length = m at *
     have hcnt : k ≤ l.length * 600001 := hR.cnt
     have hcap : m.length ≤ cB := hR.cap
     have htr : TrZ n z (mkT m 0) q := hR.tr
     have hrd : RdZ z B (ents m) := hR.rd
     have hoz : OpZ z ⟨3, ⟨none, 0, 0⟩, ⟨none, 0, 0⟩, ⟨U, us.length, cU⟩, [], [], us⟩ := ⟨slz_nil z, slz_nil z, rfl, hcU, hU.mono hR.le, hzU.mono hR.le⟩
     have hof : fewO ⟨3, ⟨none, 0, 0⟩, ⟨none, 0, 0⟩, ⟨U, us.length, cU⟩, [], [], us⟩ = true := by unfold fewO; rw [hfu]; rfl
     have hD := Do_s n hn gh gc t0 k (by omega) z hor (by omega) (hvl.mono hR.le) q B cB hcap _ hoz hof
     have hor2 := doM_ord hor ⟨3, ⟨none, 0, 0⟩, ⟨none, 0, 0⟩, ⟨U, us.length, cU⟩, [], [], us⟩
     have hln2 := doM_len (m := m) hof
     have hvl2 := doM_vals (hvl.mono hR.le) hoz hof
     unfold DoSp at hD
     generalize hm' : doM m ⟨3, ⟨none, 0, 0⟩, ⟨none, 0, 0⟩, ⟨U, us.length, cU⟩, [], [], us⟩ = m' at *
     refine h_exit ?_
     refine q_thenE ?_
     refine q_thenE ?_
     refine q_blockE ?_
     refine q_then ?_
     refine yR ?_
     refine yM rfl ?_
     refine yM rfl ?_
     refine yM rfl ?_
     refine h_op (r_build (out := OpV.cells ⟨3, ⟨none, 0, 0⟩, ⟨none, 0, 0⟩, ⟨U, us.length, cU⟩, [], [], us⟩) rfl) ?_
     refine h_call (hD.comes) rfl rfl rfl fun ⟨⟨z1, q1, k1, B1, c1⟩, u1, u2, u3, u4, u5⟩ => ?_
     dsimp only at u1 u2 u3 u4 u5 ⊢
     have hTz1 : RdZ z1 (some ⟨1, 0, none⟩) hashT := hTz.mono u1
     have hEz1 : ERZ z1 := hEz.mono u1
     refine yM rfl ?_
     refine h_op (r_extract rfl rfl) ?_
     refine h_op (r_extract rfl rfl) ?_
     refine yS rfl ?_
     refine yS rfl ?_
     refine yN ?_
     refine yR ?_
     refine h_call ((alive13_s z1).comes) rfl rfl rfl fun ⟨z2, v2⟩ => ?_
     dsimp only
     have hTz2 : RdZ z2 (some ⟨1, 0, none⟩) hashT := hTz1.mono v2
     have u22 : TrZ n z2 (mkT m' 0) q1 := ⟨u2.ok.mono v2⟩
     have u42 : RdZ z2 B1 (ents m') := u4.mono v2
     have hDf := Differs_s n hn gh gc t0 k1 (by omega) z2 hor2 (by omega) (hvl2.mono (u1.trans v2)) q1 B1 c1
     refine yM rfl ?_
     refine yM rfl ?_
     refine h_op (r_not rfl) ?_
     refine h_op (r_pick rfl rfl) ?_
     refine yM rfl ?_
     refine yM rfl ?_
     refine yM rfl ?_
     refine yM rfl ?_
     refine h_call (hDf.comes) rfl rfl rfl fun ⟨⟨z3, k3⟩, v3, v4⟩ => ?_
     dsimp only at v3 ⊢
     refine h_op (r_bool (r_eql rfl rfl) (show _ = true from rfl)) ?_
     refine h_op (r_pick rfl rfl) ?_
     refine yS rfl ?_
     refine yN ?_
     refine h_ret ?_
     exact h_ret1 rfl rfl fun w s => ⟨⟨z3, hR.le.trans (u1.trans (v2.trans v3))⟩, rfl, (same (L' := [.zone true z3]) w s).res (List.Sublist.refl _) (by simp [Fa.wr])⟩
 ·refine spec_of Tryz.func9 rfl (n := 73) rfl rfl ?_
  intro W
  refine yR ?_
  refine yS rfl ?_
  refine yN ?_
  refine yR ?_
  refine yM rfl ?_
  refine h_call ((TNew_no i hi).comes) rfl rfl rfl fun _ => ?_
  refine yM rfl ?_
  refine h_op (r_extract rfl rfl) ?_
  refine h_op (r_extract rfl rfl) ?_
  refine yS rfl ?_
  refine yS rfl ?_
  refine yN ?_
  refine h_seq ?_
  refine yR ?_
  refine yM rfl ?_
  refine h_call ((Right_no i hi).comes) rfl rfl rfl fun _ => ?_
  refine h_op (r_not rfl) ?_
  refine yM rfl ?_
  refine h_opOff ?_
  refine h_opOff ?_
  refine h_opOff ?_
  refine h_op (r_pick rfl rfl) ?_
  refine yM rfl ?_
  refine h_opOff ?_
  refine h_opOff ?_
  refine h_opOff ?_
  refine h_op (r_pick rfl rfl) ?_
  refine yN ?_
  refine h_condT rfl ?_
  refine yR ?_
  refine h_call ((alive13_s h).comes) rfl rfl rfl fun ⟨z1, hz1⟩ => ?_
  dsimp only
  refine yS rfl ?_
  refine yN ?_
  refine h_ret ?_
  refine q_thenR ?_
  exact h_ret1 rfl rfl fun w s => ⟨⟨z1, hz1⟩, rfl, (same (L' := [.zone true z1]) w s).res (List.Sublist.refl _) (by simp [Fa.wr])⟩
end
end Go.Proofs.YtjhlbbgikccclaaGreatDoor
/- U185 -/
namespace Go.Proofs.YtjhlbbgikccclaaGreatDoor
open Go.RowKit
def Val16 (m : List En) : Prop := ∀ e ∈ m, e.val.length ≤ 65535
theorem Val16.put {m : List En} (h : Val16 m) {e : En} (he : e.val.length ≤ 65535) : Val16 (putM m e) := fun f hf => by
 rcases putM_mem hf with rfl | hf
 ·exact he
 ·exact h f hf
theorem Val16.rem {m : List En} (h : Val16 m) (k : B32) : Val16 (remK m k) := fun f hf => h f (List.mem_filter.1 hf).1
theorem applyU_16 : ∀ (l : List CB) {m : List En}, Val16 m → (∀ x ∈ l, entU x = 0) → Val16 (applyU m l)
 | [], _, h, _ => h
 | x :: l, m, h, hx => by
  refine applyU_16 l (m := stepU m x) ?_ fun y hy => hx y (List.mem_cons_of_mem _ hy)
  have h0 := hx x (List.mem_cons_self ..)
  unfold stepU
  split
  ·exact h.rem _
  ·rename_i hp
   refine h.put ?_
   have := entE_val h0
   unfold vlU at this
   rw [if_neg hp] at this
   exact this
theorem checkU_ent {l : List CB} (h : checkU l = none) : ∀ x ∈ l, entU x = 0 := fun x hx => by
 obtain ⟨j, hj, rfl⟩ := List.getElem_of_mem hx
 have h1 := checkU_none h j hj
 have h2 : l.getD j zCB = l[j] := by rw [List.getD_eq_getElem?_getD, List.getElem?_eq_getElem hj]; rfl
 by_cases h0 : entU (l.getD j zCB) = 0
 ·rw [← h2]; exact h0
 ·rw [errU_ent h0] at h1
  exact (h0 h1).elim
theorem doM_16 {m : List En} (h : Val16 m) (o : OpV) : Val16 (doM m o) := by
 unfold doM
 split
 ·split
  ·rename_i he
   exact h.put (entE_val he)
  ·exact h
 ·split
  ·exact h
  ·split
   ·split
    ·exact h.rem _
    ·exact h
   ·split
    ·rename_i hc
     exact applyU_16 _ h (checkU_ent hc)
    ·exact h
theorem runM_16 {l : List OpV} {m : List En} (hm : Val16 m) : ∀ i, i ≤ l.length → Val16 (runM l m i)
 | 0, _ => hm
 | i + 1, h => by rw [runM_succ h]; exact doM_16 (runM_16 hm i (by omega)) _
theorem put_drop {m : List En} (ho : OrdM m) {i : Nat} {e : En} (he : m[i]? = some e) : mkT (putM (m.drop (i + 1)) e) 0 = mkT (m.drop i) 0 := by
 have hlt := (List.getElem?_eq_some_iff.1 he).1
 have h1 : m.drop i = e :: m.drop (i + 1) := by
  rw [List.drop_eq_getElem_cons hlt]
  congr 1
  rw [List.getElem?_eq_getElem hlt] at he
  injection he
 have hn : remK (m.drop (i + 1)) e.key = m.drop (i + 1) := remK_none fun f hf hk => by
  have h2 : OrdM (m.drop i) := List.Pairwise.sublist ((List.drop_sublist i m).map _) ho
  rw [h1] at h2
  unfold OrdM at h2
  rw [List.map_cons] at h2
  have h3 := (List.pairwise_cons.1 h2).1 f.key (List.mem_map_of_mem hf)
  rw [hk] at h3
  exact ltK_irrefl _ h3
 have hp := putM_perm (m.drop (i + 1)) e
 rw [hn, ← h1] at hp
 exact mkT_perm hp 0
theorem RdZ.left {h : Zh} {A : Option Addr} {xs ys : List Value} (hr : RdZ h A (xs ++ ys)) : RdZ h A xs := ⟨fun j v hv => hr.at_ j v (by rw [List.getElem?_append_left (List.getElem?_eq_some_iff.1 hv).1]; exact hv)⟩
section
variable (h : Zh) [hT : RdZ h (some ⟨1, 0, none⟩) hashT] [hE : ERZ h] (i : Int) (l : List OpV) (A : Option Addr) (c : Nat) [hA : RdZ h A (opsC l)] (hz : OpsZ h l)
include hT hE hz
set_option maxRecDepth 100000 in
theorem TreeForgets_s : Spec Tryz.prog 6 [.int .i64 i, .slice A l.length c].toArray [] [.zone true h] (fun _ : {x : Zh // LeZ h x} => .bool true) (fun x => [.zone true x.1]) := by
 have hF := fewOps_s h l A c hz
 by_cases hi : 0 ≤ i ∧ i ≤ 256
 ·obtain ⟨n, rfl⟩ : ∃ n : Nat, i = (n : Int) := ⟨i.toNat, by omega⟩
  have hn : n ≤ 256 := by omega
  refine spec_of Tryz.func6 rfl (n := 97) rfl rfl ?_
  intro W
  refine yR ?_
  refine yS rfl ?_
  refine yN ?_
  refine yR ?_
  refine yM rfl ?_
  refine h_call ((TNew_s n hn).comes) rfl rfl rfl fun ⟨t0, gh, gc⟩ => ?_
  dsimp only
  refine yM rfl ?_
  refine h_op (r_extract rfl rfl) ?_
  refine h_op (r_extract rfl rfl) ?_
  refine yS rfl ?_
  refine yS rfl ?_
  refine yN ?_
  refine yR ?_
  refine yM rfl ?_
  refine h_call ((TNew_s n hn).comes) rfl rfl rfl fun ⟨t1, gh1, gc1⟩ => ?_
  dsimp only
  refine yM rfl ?_
  refine h_op (r_extract rfl rfl) ?_
  refine h_op (r_extract rfl rfl) ?_
  refine yS rfl ?_
  refine yS rfl ?_
  refine yN ?_
  refine h_seq ?_
  refine yR ?_
  refine yM rfl ?_
  refine h_call ((Right_yes n hn).comes) rfl rfl rfl fun _ => ?_
  refine h_op (r_not rfl) ?_
  refine yM rfl ?_
  refine yM rfl ?_
  refine h_call (hF.comes) rfl rfl rfl fun _ => ?_
  cases hf : fewL l
  ·rw [if_neg (by decide)]
   refine h_op (r_bool (r_eql rfl rfl) (show _ = true from rfl)) ?_
   refine h_op (r_pick rfl rfl) ?_
   refine yN ?_
   refine h_condT rfl ?_
   refine yR ?_
   refine h_call ((alive13_s h).comes) rfl rfl rfl fun ⟨z1, hz1⟩ => ?_
   dsimp only
   refine yS rfl ?_
   refine yN ?_
   refine h_ret ?_
   refine q_thenR ?_
   exact h_ret1 rfl rfl fun w s => ⟨⟨z1, hz1⟩, rfl, (same (L' := [.zone true z1]) w s).res (List.Sublist.refl _) (by simp [Fa.wr])⟩
  ·rw [if_pos rfl]
   have hll := (fewL_of hf).1
   refine h_op (r_bool (r_eql rfl rfl) (show _ = false from rfl)) ?_
   refine h_op (r_pick rfl rfl) ?_
   refine yN ?_
   refine h_condF rfl ?_
   refine h_skip ?_
   refine q_then ?_
   refine h_seq ?_
   refine yR ?_
   refine yM rfl ?_
   refine h_op (r_nilR rfl rfl) ?_
   refine yM rfl ?_
   refine yM rfl ?_
   refine h_op (r_neq rfl rfl) ?_
   refine h_op (r_pick rfl rfl) ?_
   refine yM rfl ?_
   refine yM rfl ?_
   refine h_op (r_nilR rfl rfl) ?_
   refine h_op (r_pick rfl rfl) ?_
   refine yM rfl ?_
   refine yM rfl ?_
   refine h_op (r_neq rfl rfl) ?_
   refine h_op (r_pick rfl rfl) ?_
   refine yN ?_
   refine h_condF rfl ?_
   refine h_skip ?_
   refine q_then ?_
   refine yR ?_
   refine yS rfl ?_
   refine yN ?_
   refine h_seq ?_
   refine yR ?_
   refine yM rfl ?_
   refine h_op (r_len rfl) ?_
   refine yM rfl ?_
   refine yN ?_
   refine h_block ?_
   refine h_loop (fun (s : Nat × Zh × Option Addr × Nat × Option Addr × Nat) => s.1 ≤ l.length ∧ RunZ n h (runM l [] s.1) (s.1 * 600001) s.2) (fun (s : Nat × Zh × Option Addr × Nat × Option Addr × Nat) => [(49, .int .i64 (s.1 : Int)), (48, .int .i64 (l.length : Int)), (47, .slice A l.length c), (5, .pointer (some ⟨t0, 0, none⟩)), (7, .pointer (some ⟨t1, 0, none⟩)), (9, .slice s.2.2.2.2.1 (runM l [] s.1).length s.2.2.2.2.2)]) (fun (s : Nat × Zh × Option Addr × Nat × Option Addr × Nat) => [.zone true s.2.1, CN gc s.2.2.2.1, TreeF t0 gh s.2.2.1, HB gh gc n, CN gc1 0, TreeF t1 gh1 none, HB gh1 gc1 n]) (fun (s : Nat × Zh × Option Addr × Nat × Option Addr × Nat) => l.length - s.1) (0, h, none, 0, none, 0) (⟨Nat.zero_le _, RunZ.start0⟩) ⟨rfl, rfl, rfl, rfl, rfl, rfl, trivial⟩ (same (L' := [.zone true h, CN gc 0, TreeF t0 gh none, HB gh gc n, CN gc1 0, TreeF t1 gh1 none, HB gh1 gc1 n])) ?_
   rintro ⟨j, z, q, k, B, cB⟩ ⟨hj, hR⟩
   dsimp only at hj hR ⊢
   refine yR ?_
   refine h_op (r_lss rfl rfl) ?_
   refine yN ?_
   refine h_seq ?_
   refine h_cond rfl (fun hlt => ?_) (fun hlt => ?_)
   ·have hj2 : j < l.length := by omega
    have hx := getD_get zOp hj2
    have hrz : RdZ z A (opsC l) := hA.mono hR.le
    obtain ⟨b, o, rfl, -⟩ := hrz.at_ (j * 4) _ (ops_at hx 0 _ rfl)
    have hD := Run_do n hn gh gc t0 h hz hf OrdM.nil (by decide) (fun e he => by cases he) hj2 hR (by omega)
    generalize l.getD j zOp = x at *
    generalize hm' : runM l [] (j + 1) = m' at *
    generalize runM l [] j = m at *
    refine h_skip ?_
    refine q_then ?_
    refine h_seq ?_
    refine h_block ?_
    refine yR ?_
    refine h_op (r_idx rfl rfl) ?_
    refine h_op (r_nthr rfl (out := x.cells) (OpV.cells_length _) (ops_at hx)) ?_
    refine h_opX (x_alloc) fun g11 => ?_
    refine h_opS (s_storer rfl rfl) ?_
    refine yN ?_
    refine h_reg ?_
    refine yM rfl ?_
    refine yM rfl ?_
    refine h_op (r_loadr rfl) ?_
    refine h_call (hD.comes) rfl rfl rfl fun u => ?_
    have hR1 := hR.step u
    obtain ⟨⟨z1, q1, k1, B1, c1⟩, u1, u2, u3, u4, u5⟩ := u
    dsimp only at u1 u2 u3 u4 u5 hR1 ⊢
    refine yM rfl ?_
    refine h_op (r_extract rfl rfl) ?_
    refine h_op (r_extract rfl rfl) ?_
    refine yS rfl ?_
    refine h_nil ?_
    refine q_block ?_
    refine q_then ?_
    refine h_reg ?_
    refine h_op (r_add rfl rfl) ?_
    refine yM rfl ?_
    refine h_nil ?_
    subst hm'
    exact h_back (j + 1, z1, q1, k1, B1, c1) (⟨hj2, hR1.more (by omega)⟩) ((show l.length - (j + 1) < l.length - j by omega)) ⟨rfl, rfl, rfl, rfl, rfl, rfl, trivial⟩ (same)
   ·obtain rfl : j = l.length := by omega
    have hor := runM_ord (l := l) OrdM.nil l.length (Nat.le_refl _)
    have hln := runM_len (m := []) hf l.length (Nat.le_refl _)
    have hvl := runM_vals (h := h) (m := []) (fun e he => by cases he) hz hf l.length (Nat.le_refl _)
    have h16 := runM_16 (l := l) (m := []) (fun e he => by cases he) l.length (Nat.le_refl _)
    have hbnd : ([] : List En).length = 0 := rfl
    generalize runM l [] l.length = m at *
    have hcnt : k ≤ l.length * 600001 := hR.cnt
    have hcap : m.length ≤ cB := hR.cap
    refine h_exit ?_
    refine q_thenE ?_
    refine q_thenE ?_
    refine q_blockE ?_
    refine q_then ?_
    refine h_seq ?_
    refine yR ?_
    refine yM rfl ?_
    refine h_op (r_len rfl) ?_
    refine yM rfl ?_
    refine yN ?_
    refine h_block ?_
    refine h_loop (fun (s : Nat × Zh × Option Addr × Nat) => s.1 ≤ m.length ∧ LeZ z s.2.1 ∧ TrZ n s.2.1 (mkT (m.drop (m.length - s.1)) 0) s.2.2.1 ∧ s.2.2.2 ≤ s.1 * 1600) (fun (s : Nat × Zh × Option Addr × Nat) => [(63, .int .i64 (s.1 : Int)), (62, .int .i64 (m.length : Int)), (61, .slice B m.length cB), (5, .pointer (some ⟨t0, 0, none⟩)), (7, .pointer (some ⟨t1, 0, none⟩)), (9, .slice B m.length cB)]) (fun (s : Nat × Zh × Option Addr × Nat) => [.zone true s.2.1, CN gc1 s.2.2.2, TreeF t1 gh1 s.2.2.1, HB gh1 gc1 n, CN gc k, TreeF t0 gh q, HB gh gc n]) (fun (s : Nat × Zh × Option Addr × Nat) => m.length - s.1) (0, z, none, 0) (⟨Nat.zero_le _, LeZ.refl z, by dsimp only; rw [Nat.sub_zero, List.drop_length, mkT_nil]; exact ⟨rfl⟩, Nat.zero_le _⟩) ⟨rfl, rfl, rfl, rfl, rfl, rfl, trivial⟩ (same (L' := [.zone true z, CN gc1 0, TreeF t1 gh1 none, HB gh1 gc1 n, CN gc k, TreeF t0 gh q, HB gh gc n])) ?_
    rintro ⟨j, z1, q1, k1⟩ ⟨hj1, hle, ht1, hk1⟩
    dsimp only at hj1 hle ht1 hk1 ⊢
    refine yR ?_
    refine h_op (r_lss rfl rfl) ?_
    refine yN ?_
    refine h_seq ?_
    refine h_cond rfl (fun hlt2 => ?_) (fun hlt2 => ?_)
    ·have hj2 : j < m.length := by omega
     obtain ⟨e, hx⟩ := getE (l := m) (k := m.length - 1 - j) (by omega)
     have hrz : RdZ z1 B (ents m) := hR.rd.mono hle
     have hem : e ∈ m := List.mem_of_getElem? hx
     have hev := (hvl e hem).1.mono (hR.le.trans hle)
     have he16 := h16 e hem
     have hpd := put_drop hor hx
     rw [show m.length - 1 - j + 1 = m.length - j by omega, show m.length - 1 - j = m.length - (j + 1) by omega] at hpd
     have hod : OrdM (m.drop (m.length - j)) := List.Pairwise.sublist ((List.drop_sublist _ m).map _) hor
     have hdl : (m.drop (m.length - j)).length ≤ m.length := by rw [List.length_drop]; omega
     obtain ⟨b, o, rfl, -⟩ := hrz.at_ ((m.length - 1 - j) * 33 + 32) _ (ents_val hx)
     generalize hdm : m.drop (m.length - j) = md at *
     refine h_skip ?_
     refine q_then ?_
     refine h_seq ?_
     refine h_block ?_
     refine yR ?_
     refine yM rfl ?_
     refine yS rfl ?_
     refine yN ?_
     refine yR ?_
     refine yM rfl ?_
     refine yM rfl ?_
     refine h_op (r_len rfl) ?_
     refine h_op (r_int (r_sub rfl rfl) (show _ = ((m.length - 1 : Nat) : Int) by omega)) ?_
     refine yM rfl ?_
     refine h_op (r_int (r_sub rfl rfl) (show _ = ((m.length - 1 - j : Nat) : Int) by omega)) ?_
     refine h_op (r_idx rfl rfl) ?_
     refine h_op (r_nthr rfl (out := e.e.cells) (Entry.cells_length _) (ents_at hx)) ?_
     refine h_opX (x_alloc) fun g13 => ?_
     refine h_opS (s_storer rfl rfl) ?_
     refine yN ?_
     refine h_seq ?_
     refine h_freeze g13 fun z2 hz2 hr2 => ?_
     have hz12 := hle.trans hz2
     have hT2 : RdZ z2 (some ⟨1, 0, none⟩) hashT := hT.mono (hR.le.trans hz12)
     have sk : SlZ z2 ⟨some ⟨g13, 0, none⟩, 32, 32⟩ e.key.1 := ⟨e.key.2.symm, Nat.le_refl _, (fun h => by cases h), RdZ.left (ys := [.slice e.e.value.A e.e.value.n e.e.value.c] ++ []) hr2⟩
     have sv : SlZ z2 e.e.value e.val := hev.mono hz2
     have ht2 : TrZ n z2 (mkT md 0) q1 := ⟨ht1.ok.mono hz2⟩
     have hP := TPut_ok n hn gh1 gc1 t1 k1 (by omega) z2 (m := md) hod.alike (by omega) q1 ⟨some ⟨g13, 0, none⟩, 32, 32⟩ e.key.1 e.e.value e.val (by unfold entE; rw [if_pos e.key.2, if_neg (by omega)])
     rw [keyOf_val, show (⟨⟨e.key, e.e.value⟩, e.val⟩ : En) = e from rfl, hpd] at hP
     refine ha_start [.zone false z2] [] mixed (zbK (LeZ.refl z2)) ?_
     refine ha_takeP 0 rfl (r_move rfl) ?_
     refine ha_takeP 1 rfl (r_field rfl (O' := 0) (by omega)) ?_
     refine ha_takeP 2 rfl (r_slA rfl) ?_
     refine ha_takeP 3 rfl (r_field rfl (O' := 32) (by omega)) ?_
     refine ha_take 4 rfl (r_loadc rfl) ?_
     refine ha_one 5 ?_
     refine ho_C 5 rfl (hP.comes) rfl rfl rfl (fun xx => zbK xx.2.1) fun ⟨⟨z3, q3, k3⟩, w1, w2, w3⟩ => ?_
     refine ha_takeP 6 rfl (r_nilnn rfl) ?_
     refine ha_done (by kernel_rfl) ?_
     refine q_then ?_
     dsimp only at w1 w2 w3 ⊢
     refine h_condF rfl ?_
     refine h_skip ?_
     refine q_block ?_
     refine q_then ?_
     refine h_reg ?_
     refine h_op (r_add rfl rfl) ?_
     refine yM rfl ?_
     refine h_nil ?_
     exact h_back (j + 1, z3, q3, k3) (⟨hj2, hz12.trans w1, w2, by dsimp only; omega⟩) ((show m.length - (j + 1) < m.length - j by omega)) ⟨rfl, rfl, rfl, rfl, rfl, rfl, trivial⟩ (same)
    ·obtain rfl : j = m.length := by omega
     rw [Nat.sub_self, List.drop_zero] at ht1
     have hT1 : RdZ z1 (some ⟨1, 0, none⟩) hashT := hT.mono (hR.le.trans hle)
     have hE1 : ERZ z1 := hE.mono (hR.le.trans hle)
     refine h_exit ?_
     refine q_thenE ?_
     refine q_thenE ?_
     refine q_blockE ?_
     refine q_then ?_
     refine yR ?_
     refine h_call ((alive13_s z1).comes) rfl rfl rfl fun ⟨z2, v2⟩ => ?_
     dsimp only
     have hT2 : RdZ z2 (some ⟨1, 0, none⟩) hashT := hT1.mono v2
     have htA : TrZ n z2 (mkT m 0) q := ⟨hR.tr.ok.mono (hle.trans v2)⟩
     have htB : TrZ n z2 (mkT m 0) q1 := ⟨ht1.ok.mono v2⟩
     have hRA := TRoot_s t0 gh q n z2 (mkT m 0) hn gc k (by omega)
     have hRB := TRoot_s t1 gh1 q1 n z2 (mkT m 0) hn gc1 k1 (by omega)
     have hLA := TLen_s t0 gh q n z2 (mkT m 0)
     have hLB := TLen_s t1 gh1 q1 n z2 (mkT m 0)
     generalize k + (if (mkT m 0).kind = 0 then 1 else 0) = kA at *
     generalize k1 + (if (mkT m 0).kind = 0 then 1 else 0) = kB at *
     generalize (mkT m 0).cnt = cn at *
     refine yM rfl ?_
     refine yM rfl ?_
     refine h_call (hRA.comes) rfl rfl rfl fun _ => ?_
     refine yM rfl ?_
     refine h_call (hRB.comes) rfl rfl rfl fun _ => ?_
     refine h_op (r_bool (r_eqr (p := dgT n (mkT m 0) = dgT n (mkT m 0)) rfl rfl) (decide_eq_true rfl)) ?_
     refine h_op (r_pick rfl rfl) ?_
     refine yM rfl ?_
     refine yM rfl ?_
     refine h_call (hLA.comes) rfl rfl rfl fun _ => ?_
     refine yM rfl ?_
     refine h_call (hLB.comes) rfl rfl rfl fun _ => ?_
     refine h_op (r_bool (r_eql rfl rfl) (decide_eq_true rfl)) ?_
     refine h_op (r_pick rfl rfl) ?_
     refine yS rfl ?_
     refine yN ?_
     refine h_ret ?_
     exact h_ret1 rfl rfl fun w s => ⟨⟨z2, (hR.le.trans hle).trans v2⟩, rfl, (same (L' := [.zone true z2]) w s).res (List.Sublist.refl _) (by simp [Fa.wr])⟩
 ·refine spec_of Tryz.func6 rfl (n := 97) rfl rfl ?_
  intro W
  refine yR ?_
  refine yS rfl ?_
  refine yN ?_
  refine yR ?_
  refine yM rfl ?_
  refine h_call ((TNew_no i hi).comes) rfl rfl rfl fun _ => ?_
  refine yM rfl ?_
  refine h_op (r_extract rfl rfl) ?_
  refine h_op (r_extract rfl rfl) ?_
  refine yS rfl ?_
  refine yS rfl ?_
  refine yN ?_
  refine yR ?_
  refine yM rfl ?_
  refine h_call ((TNew_no i hi).comes) rfl rfl rfl fun _ => ?_
  refine yM rfl ?_
  refine h_op (r_extract rfl rfl) ?_
  refine h_op (r_extract rfl rfl) ?_
  refine yS rfl ?_
  refine yS rfl ?_
  refine yN ?_
  refine h_seq ?_
  refine yR ?_
  refine yM rfl ?_
  refine h_call ((Right_no i hi).comes) rfl rfl rfl fun _ => ?_
  refine h_op (r_not rfl) ?_
  refine yM rfl ?_
  refine h_opOff ?_
  refine h_opOff ?_
  refine h_opOff ?_
  refine h_op (r_pick rfl rfl) ?_
  refine yN ?_
  refine h_condT rfl ?_
  refine yR ?_
  refine h_call ((alive13_s h).comes) rfl rfl rfl fun ⟨z1, hz1⟩ => ?_
  dsimp only
  refine yS rfl ?_
  refine yN ?_
  refine h_ret ?_
  refine q_thenR ?_
  exact h_ret1 rfl rfl fun w s => ⟨⟨z1, hz1⟩, rfl, (same (L' := [.zone true z1]) w s).res (List.Sublist.refl _) (by simp [Fa.wr])⟩
end
end Go.Proofs.YtjhlbbgikccclaaGreatDoor
/- U184 -/
namespace Go.Proofs.YtjhlbbgikccclaaGreatDoor
open Go.RowKit
section
variable (h : Zh) [hT : RdZ h (some ⟨1, 0, none⟩) hashT] [hE : ERZ h] (i : Int) (l : List OpV) (A : Option Addr) (c : Nat) [hA : RdZ h A (opsC l)] (hz : OpsZ h l) (l2 : List OpV) (A2 : Option Addr) (cc : Nat) [hA2 : RdZ h A2 (opsC l2)] (hz2 : OpsZ h l2)
include hT hE hz hz2
set_option maxRecDepth 100000 in
theorem TreeClones_s : Spec Tryz.prog 10 [.int .i64 i, .slice A l.length c, .slice A2 l2.length cc].toArray [] [.zone true h] (fun _ : {x : Zh // LeZ h x} => .bool true) (fun x => [.zone true x.1]) := by
 have hF := fewOps_s h l A c hz
 have hFU := fewOps_s h l2 A2 cc hz2
 by_cases hi : 0 ≤ i ∧ i ≤ 256
 ·obtain ⟨n, rfl⟩ : ∃ n : Nat, i = (n : Int) := ⟨i.toNat, by omega⟩
  have hn : n ≤ 256 := by omega
  refine spec_of Tryz.func10 rfl (n := 100) rfl rfl ?_
  intro W
  refine yR ?_
  refine yS rfl ?_
  refine yN ?_
  refine yR ?_
  refine yM rfl ?_
  refine h_call ((TNew_s n hn).comes) rfl rfl rfl fun ⟨t0, gh, gc⟩ => ?_
  dsimp only
  refine yM rfl ?_
  refine h_op (r_extract rfl rfl) ?_
  refine h_op (r_extract rfl rfl) ?_
  refine yS rfl ?_
  refine yS rfl ?_
  refine yN ?_
  refine h_seq ?_
  refine yR ?_
  refine yM rfl ?_
  refine h_call ((Right_yes n hn).comes) rfl rfl rfl fun _ => ?_
  refine h_op (r_not rfl) ?_
  refine yM rfl ?_
  refine yM rfl ?_
  refine h_call (hF.comes) rfl rfl rfl fun _ => ?_
  cases hf : fewL l
  ·rw [if_neg (by decide)]
   refine h_op (r_bool (r_eql rfl rfl) (show _ = true from rfl)) ?_
   refine h_op (r_pick rfl rfl) ?_
   refine yM rfl ?_
   refine h_opOff ?_
   refine h_opOff ?_
   refine h_opOff ?_
   refine h_op (r_pick rfl rfl) ?_
   refine yN ?_
   refine h_condT rfl ?_
   refine yR ?_
   refine h_call ((alive13_s h).comes) rfl rfl rfl fun ⟨z1, hz1⟩ => ?_
   dsimp only
   refine yS rfl ?_
   refine yN ?_
   refine h_ret ?_
   refine q_thenR ?_
   exact h_ret1 rfl rfl fun w s => ⟨⟨z1, hz1⟩, rfl, (same (L' := [.zone true z1]) w s).res (List.Sublist.refl _) (by simp [Fa.wr])⟩
  ·rw [if_pos rfl]
   have hll := (fewL_of hf).1
   refine h_op (r_bool (r_eql rfl rfl) (show _ = false from rfl)) ?_
   refine h_op (r_pick rfl rfl) ?_
   refine yM rfl ?_
   refine yM rfl ?_
   refine h_call (hFU.comes) rfl rfl rfl fun _ => ?_
   cases hfu : fewL l2
   ·rw [if_neg (by decide)]
    refine h_op (r_bool (r_eql rfl rfl) (show _ = true from rfl)) ?_
    refine h_op (r_pick rfl rfl) ?_
    refine yN ?_
    refine h_condT rfl ?_
    refine yR ?_
    refine h_call ((alive13_s h).comes) rfl rfl rfl fun ⟨z1, hz1⟩ => ?_
    dsimp only
    refine yS rfl ?_
    refine yN ?_
    refine h_ret ?_
    refine q_thenR ?_
    exact h_ret1 rfl rfl fun w s => ⟨⟨z1, hz1⟩, rfl, (same (L' := [.zone true z1]) w s).res (List.Sublist.refl _) (by simp [Fa.wr])⟩
   ·rw [if_pos rfl]
    have hll2 := (fewL_of hfu).1
    refine h_op (r_bool (r_eql rfl rfl) (show _ = false from rfl)) ?_
    refine h_op (r_pick rfl rfl) ?_
    refine yN ?_
    refine h_condF rfl ?_
    refine h_skip ?_
    refine q_then ?_
    refine h_seq ?_
    refine yR ?_
    refine yM rfl ?_
    refine h_op (r_nilR rfl rfl) ?_
    refine yM rfl ?_
    refine yM rfl ?_
    refine h_op (r_neq rfl rfl) ?_
    refine h_op (r_pick rfl rfl) ?_
    refine yN ?_
    refine h_condF rfl ?_
    refine h_skip ?_
    refine q_then ?_
    refine yR ?_
    refine yS rfl ?_
    refine yN ?_
    refine h_seq ?_
    refine yR ?_
    refine yM rfl ?_
    refine h_op (r_len rfl) ?_
    refine yM rfl ?_
    refine yN ?_
    refine h_block ?_
    refine h_loop (fun (s : Nat × Zh × Option Addr × Nat × Option Addr × Nat) => s.1 ≤ l.length ∧ RunZ n h (runM l [] s.1) (s.1 * 600001) s.2) (fun (s : Nat × Zh × Option Addr × Nat × Option Addr × Nat) => [(45, .int .i64 (s.1 : Int)), (44, .int .i64 (l.length : Int)), (43, .slice A l.length c), (0, .int .i64 (n : Int)), (2, .slice A2 l2.length cc), (7, .pointer (some ⟨t0, 0, none⟩)), (9, .slice s.2.2.2.2.1 (runM l [] s.1).length s.2.2.2.2.2)]) (fun (s : Nat × Zh × Option Addr × Nat × Option Addr × Nat) => [.zone true s.2.1, CN gc s.2.2.2.1, TreeF t0 gh s.2.2.1, HB gh gc n]) (fun (s : Nat × Zh × Option Addr × Nat × Option Addr × Nat) => l.length - s.1) (0, h, none, 0, none, 0) (⟨Nat.zero_le _, RunZ.start0⟩) ⟨rfl, rfl, rfl, rfl, rfl, rfl, rfl, trivial⟩ (same (L' := [.zone true h, CN gc 0, TreeF t0 gh none, HB gh gc n])) ?_
    rintro ⟨j, z, q, k, B, cB⟩ ⟨hj, hR⟩
    dsimp only at hj hR ⊢
    refine yR ?_
    refine h_op (r_lss rfl rfl) ?_
    refine yN ?_
    refine h_seq ?_
    refine h_cond rfl (fun hlt => ?_) (fun hlt => ?_)
    ·have hj2 : j < l.length := by omega
     have hx := getD_get zOp hj2
     have hrz : RdZ z A (opsC l) := hA.mono hR.le
     obtain ⟨b, o, rfl, -⟩ := hrz.at_ (j * 4) _ (ops_at hx 0 _ rfl)
     have hD := Run_do n hn gh gc t0 h hz hf OrdM.nil (by decide) (fun e he => by cases he) hj2 hR (by omega)
     generalize l.getD j zOp = x at *
     generalize hm' : runM l [] (j + 1) = m' at *
     generalize runM l [] j = m at *
     refine h_skip ?_
     refine q_then ?_
     refine h_seq ?_
     refine h_block ?_
     refine yR ?_
     refine h_op (r_idx rfl rfl) ?_
     refine h_op (r_nthr rfl (out := x.cells) (OpV.cells_length _) (ops_at hx)) ?_
     refine h_opX (x_alloc) fun g11 => ?_
     refine h_opS (s_storer rfl rfl) ?_
     refine yN ?_
     refine h_reg ?_
     refine yM rfl ?_
     refine yM rfl ?_
     refine h_op (r_loadr rfl) ?_
     refine h_call (hD.comes) rfl rfl rfl fun u => ?_
     have hR1 := hR.step u
     obtain ⟨⟨z1, q1, k1, B1, c1⟩, u1, u2, u3, u4, u5⟩ := u
     dsimp only at u1 u2 u3 u4 u5 hR1 ⊢
     refine yM rfl ?_
     refine h_op (r_extract rfl rfl) ?_
     refine h_op (r_extract rfl rfl) ?_
     refine yS rfl ?_
     refine h_nil ?_
     refine q_block ?_
     refine q_then ?_
     refine h_reg ?_
     refine h_op (r_add rfl rfl) ?_
     refine yM rfl ?_
     refine h_nil ?_
     subst hm'
     exact h_back (j + 1, z1, q1, k1, B1, c1) (⟨hj2, hR1.more (by omega)⟩) ((show l.length - (j + 1) < l.length - j by omega)) ⟨rfl, rfl, rfl, rfl, rfl, rfl, rfl, trivial⟩ (same)
    ·obtain rfl : j = l.length := by omega
     have hor := runM_ord (l := l) OrdM.nil l.length (Nat.le_refl _)
     have hln := runM_len (m := []) hf l.length (Nat.le_refl _)
     have hvl := runM_vals (h := h) (m := []) (fun e he => by cases he) hz hf l.length (Nat.le_refl _)
     have hbnd : ([] : List En).length = 0 := rfl
     generalize runM l [] l.length = m at *
     have hR0 := hR.more (K' := 8000000) (by omega)
     have hDf := fun t => Run_diff n hn gh gc t h hor (by omega) hvl hR0 (by omega)
     refine h_exit ?_
     refine q_thenE ?_
     refine q_thenE ?_
     refine q_blockE ?_
     refine q_then ?_
     refine yR ?_
     refine yM rfl ?_
     refine h_call ((TClone_s t0 gh q).comes) rfl rfl rfl fun t1 => ?_
     refine yS rfl ?_
     refine yN ?_
     refine h_seq ?_
     refine yR ?_
     refine yM rfl ?_
     refine h_op (r_nilR rfl rfl) ?_
     refine yM rfl ?_
     refine yM rfl ?_
     refine yM rfl ?_
     refine yM rfl ?_
     refine h_call ((hDf t1).comes) rfl rfl rfl fun ⟨⟨z1, k1⟩, v1, v2⟩ => ?_
     dsimp only at v1 v2 ⊢
     have hR1 := hR0.on v1 v2
     dsimp only at hR1
     refine h_op (r_bool (r_gtr rfl rfl) (show _ = false from rfl)) ?_
     refine h_op (r_pick rfl rfl) ?_
     refine yN ?_
     refine h_condF rfl ?_
     refine h_skip ?_
     refine q_then ?_
     refine yR ?_
     refine yM rfl ?_
     refine yS rfl ?_
     refine yN ?_
     refine h_seq ?_
     refine yR ?_
     refine yM rfl ?_
     refine h_op (r_len rfl) ?_
     refine yM rfl ?_
     refine yN ?_
     refine h_block ?_
     have hS1 : LeZ h z1 := hR1.le
     have hS2 : TrZ n z1 (mkT m 0) q := hR1.tr
     have hS3 : RdZ z1 B (ents m) := hR1.rd
     have hS4 : m.length ≤ cB := hR1.cap
     have hRs := RunZ.zero l2 hR1
     refine h_loop (fun (s : Nat × Zh × Option Addr × Nat × Option Addr × Nat) => s.1 ≤ l2.length ∧ LeZ z1 s.2.1 ∧ RunZ n h (runM l2 m s.1) (8000001 + s.1 * 600001) s.2) (fun (s : Nat × Zh × Option Addr × Nat × Option Addr × Nat) => [(71, .int .i64 (s.1 : Int)), (70, .int .i64 (l2.length : Int)), (69, .slice A2 l2.length cc), (0, .int .i64 (n : Int)), (7, .pointer (some ⟨t0, 0, none⟩)), (12, .pointer (some ⟨t1, 0, none⟩)), (9, .slice B m.length cB), (13, .slice s.2.2.2.2.1 (runM l2 m s.1).length s.2.2.2.2.2)]) (fun (s : Nat × Zh × Option Addr × Nat × Option Addr × Nat) => [.zone true s.2.1, CN gc s.2.2.2.1, TreeF t1 gh s.2.2.1, TreeF t0 gh q, HB gh gc n]) (fun (s : Nat × Zh × Option Addr × Nat × Option Addr × Nat) => l2.length - s.1) (0, z1, q, k1, B, cB) (⟨Nat.zero_le _, LeZ.refl z1, hRs⟩) ⟨rfl, rfl, rfl, rfl, rfl, rfl, rfl, rfl, trivial⟩ (same (L' := [.zone true z1, CN gc k1, TreeF t1 gh q, TreeF t0 gh q, HB gh gc n])) ?_
     rintro ⟨j, z3, q3, k3, B3, c3⟩ ⟨hj3, hle3, hR3⟩
     dsimp only at hj3 hle3 hR3 ⊢
     refine yR ?_
     refine h_op (r_lss rfl rfl) ?_
     refine yN ?_
     refine h_seq ?_
     refine h_cond rfl (fun hlt3 => ?_) (fun hlt3 => ?_)
     ·have hj2 : j < l2.length := by omega
      have hx := getD_get zOp hj2
      have hrz : RdZ z3 A2 (opsC l2) := hA2.mono hR3.le
      obtain ⟨b, o, rfl, -⟩ := hrz.at_ (j * 4) _ (ops_at hx 0 _ rfl)
      have hD := Run_do n hn gh gc t1 h hz2 hfu hor (by omega) hvl hj2 hR3 (by omega)
      generalize l2.getD j zOp = x at *
      generalize hm' : runM l2 m (j + 1) = m' at *
      generalize runM l2 m j = mj at *
      refine h_skip ?_
      refine q_then ?_
      refine h_seq ?_
      refine h_block ?_
      refine yR ?_
      refine h_op (r_idx rfl rfl) ?_
      refine h_op (r_nthr rfl (out := x.cells) (OpV.cells_length _) (ops_at hx)) ?_
      refine h_opX (x_alloc) fun g15 => ?_
      refine h_opS (s_storer rfl rfl) ?_
      refine yN ?_
      refine yR ?_
      refine yM rfl ?_
      refine yM rfl ?_
      refine h_op (r_loadr rfl) ?_
      refine h_call (hD.comes) rfl rfl rfl fun u => ?_
      have hR4 := hR3.step u
      obtain ⟨⟨z4, q4, k4, B4, c4⟩, u1, u2, u3, u4, u5⟩ := u
      dsimp only at u1 u2 u3 u4 u5 hR4 ⊢
      refine yM rfl ?_
      refine h_op (r_extract rfl rfl) ?_
      refine h_op (r_extract rfl rfl) ?_
      refine yS rfl ?_
      refine yS rfl ?_
      refine yN ?_
      refine yR ?_
      refine yM rfl ?_
      refine yS rfl ?_
      refine yN ?_
      refine yR ?_
      refine yM rfl ?_
      refine yN ?_
      refine h_condF rfl ?_
      refine h_skip ?_
      refine q_block ?_
      refine q_then ?_
      refine h_reg ?_
      refine h_op (r_add rfl rfl) ?_
      refine yM rfl ?_
      refine h_nil ?_
      subst hm'
      exact h_back (j + 1, z4, q4, k4, B4, c4) (⟨hj2, hle3.trans u1, hR4.more (by omega)⟩) ((show l2.length - (j + 1) < l2.length - j by omega)) ⟨rfl, rfl, rfl, rfl, rfl, rfl, rfl, rfl, trivial⟩ (same)
     ·obtain rfl : j = l2.length := by omega
      have hTz : RdZ z3 (some ⟨1, 0, none⟩) hashT := hT.mono hR3.le
      have hEz : ERZ z3 := hE.mono hR3.le
      have hor2 := runM_ord (l := l2) hor l2.length (Nat.le_refl _)
      have hln2 := runM_len (m := m) hfu l2.length (Nat.le_refl _)
      have hvl2 := runM_vals (h := h) (m := m) hvl hz2 hfu l2.length (Nat.le_refl _)
      generalize runM l2 m l2.length = m' at *
      have hcnt : k3 ≤ 8000001 + l2.length * 600001 := hR3.cnt
      refine h_exit ?_
      refine q_thenE ?_
      refine q_thenE ?_
      refine q_blockE ?_
      refine q_then ?_
      refine yR ?_
      refine h_call ((alive13_s z3).comes) rfl rfl rfl fun ⟨z4, v4⟩ => ?_
      dsimp only
      have hRa := (hR1.keep (hle3.trans v4) (k := k3) (K' := 20000000) (by omega))
      dsimp only at hRa
      have hDa := Run_diff n hn gh gc t0 h hor (by omega) hvl hRa (by omega)
      refine yM rfl ?_
      refine yM rfl ?_
      refine yM rfl ?_
      refine yM rfl ?_
      refine h_call (hDa.comes) rfl rfl rfl fun ⟨⟨z5, k5⟩, v5, v6⟩ => ?_
      dsimp only at v5 v6 ⊢
      have hRb := (hR3.keep (v4.trans v5) (k := k5) (K' := 20000001) (by omega))
      dsimp only at hRb
      have hDb := Run_diff n hn gh gc t1 h hor2 (by omega) hvl2 hRb (by omega)
      refine h_op (r_bool (r_eql rfl rfl) (show _ = true from rfl)) ?_
      refine h_op (r_pick rfl rfl) ?_
      refine yM rfl ?_
      refine yM rfl ?_
      refine yM rfl ?_
      refine yM rfl ?_
      refine h_call (hDb.comes) rfl rfl rfl fun ⟨⟨z6, k6⟩, v7, v8⟩ => ?_
      dsimp only at v7 v8 ⊢
      refine h_op (r_bool (r_eql rfl rfl) (show _ = true from rfl)) ?_
      refine h_op (r_pick rfl rfl) ?_
      refine yS rfl ?_
      refine yN ?_
      refine h_ret ?_
      exact h_ret1 rfl rfl fun w s => ⟨⟨z6, hR3.le.trans (v4.trans (v5.trans v7))⟩, rfl, (same (L' := [.zone true z6]) w s).res (List.Sublist.refl _) (by simp [Fa.wr])⟩
 ·refine spec_of Tryz.func10 rfl (n := 100) rfl rfl ?_
  intro W
  refine yR ?_
  refine yS rfl ?_
  refine yN ?_
  refine yR ?_
  refine yM rfl ?_
  refine h_call ((TNew_no i hi).comes) rfl rfl rfl fun _ => ?_
  refine yM rfl ?_
  refine h_op (r_extract rfl rfl) ?_
  refine h_op (r_extract rfl rfl) ?_
  refine yS rfl ?_
  refine yS rfl ?_
  refine yN ?_
  refine h_seq ?_
  refine yR ?_
  refine yM rfl ?_
  refine h_call ((Right_no i hi).comes) rfl rfl rfl fun _ => ?_
  refine h_op (r_not rfl) ?_
  refine yM rfl ?_
  refine h_opOff ?_
  refine h_opOff ?_
  refine h_opOff ?_
  refine h_op (r_pick rfl rfl) ?_
  refine yM rfl ?_
  refine h_opOff ?_
  refine h_opOff ?_
  refine h_opOff ?_
  refine h_op (r_pick rfl rfl) ?_
  refine yN ?_
  refine h_condT rfl ?_
  refine yR ?_
  refine h_call ((alive13_s h).comes) rfl rfl rfl fun ⟨z1, hz1⟩ => ?_
  dsimp only
  refine yS rfl ?_
  refine yN ?_
  refine h_ret ?_
  refine q_thenR ?_
  exact h_ret1 rfl rfl fun w s => ⟨⟨z1, hz1⟩, rfl, (same (L' := [.zone true z1]) w s).res (List.Sublist.refl _) (by simp [Fa.wr])⟩
end
end Go.Proofs.YtjhlbbgikccclaaGreatDoor
/- TI -/
namespace Go.Proofs.YtjhlbbgikccclaaGreatDoor
open Go.RowKit Go.ChangeShapes Go.WideShapes
end Go.Proofs.YtjhlbbgikccclaaGreatDoor
/- TM -/
namespace Go.Proofs.YtjhlbbgikccclaaGreatDoor
open Go.RowKit Go.ChangeShapes Go.WideShapes
end Go.Proofs.YtjhlbbgikccclaaGreatDoor
/- U102 -/
namespace Go.Proofs.YtjhlbbgikccclaaGreatDoor
open Go.RowKit
structure RtP where
 root : B32
 p : Proof
def RtP.cells (x : RtP) : List Value := x.root.cells ++ (x.p.cells ++ [])
theorem RtP.cells_length (x : RtP) : x.cells.length = 131 := by simp [RtP.cells, B32.cells_length, Proof.cells_length]
end Go.Proofs.YtjhlbbgikccclaaGreatDoor
/- TR -/
namespace Go.Proofs.YtjhlbbgikccclaaGreatDoor
open Go.RowKit Go.ChangeShapes Go.WideShapes
end Go.Proofs.YtjhlbbgikccclaaGreatDoor
/- U152 -/
namespace Go.Proofs.YtjhlbbgikccclaaGreatDoor
open Go.RowKit
structure CPf where
 c : Claim
 p : Proof
def CPf.cells (x : CPf) : List Value := x.c.cells ++ (x.p.cells ++ [])
theorem CPf.cells_length (x : CPf) : x.cells.length = 102 := by simp [CPf.cells, Claim.cells_length, Proof.cells_length]
structure Snd where
 c : Claim
 p : Proof
 s : Sl
def Snd.cells (x : Snd) : List Value := x.c.cells ++ (x.p.cells ++ ([.slice x.s.A x.s.n x.s.c] ++ []))
theorem Snd.cells_length (x : Snd) : x.cells.length = 103 := by simp [Snd.cells, Claim.cells_length, Proof.cells_length]
end Go.Proofs.YtjhlbbgikccclaaGreatDoor
/- TX -/
namespace Go.Proofs.YtjhlbbgikccclaaGreatDoor
open Go.RowKit Go.ChangeShapes Go.WideShapes
section
variable {H : Type} {enc : TypeId × Value → H} {w : World} {base : Nat} {spare : Nat → Bool} {held : Bool} {v : Value} {d : DataW H} {ps : List MemPlace} {r : Reach} {b0 : Nat}
set_option maxRecDepth 100000 in
theorem openBytesZ (hval : Value.okWide Tryz.prog w r b0 35 v) (hd : DataW.Trod enc Tryz.prog w base spare held 35 v d ps) :
  ∃ (s : Sl) (l : List UInt8), v = .slice s.A s.n s.c ∧ SlZ (World.zh w) s l := by
 obtain ⟨l, A, c, e2, hlc, -, hA, hr, -⟩ := open_rows (f := fun b : UInt8 => [Value.int .u8 b.toNat]) (fun _ => rfl) Nat.one_pos Tryz.underlying35 c_u8 (fun _ => True) (fun fuel cs x h => by
  obtain ⟨n, rfl, _, hw⟩ := DataW.trod_int Tryz.underlying5 h
  have := bounds_u8 hw
  exact ⟨toByte (.int .u8 n), by rw [toByte_int this.1 this.2], trivial⟩) hval hd
 rw [byteOf_bc] at hr
 refine ⟨⟨A, l.length, c⟩, l, e2, ⟨rfl, hlc, fun h0 => ?_, RdZ.of hr⟩⟩
 have := hA h0
 exact ⟨(show l.length = 0 by omega), this⟩
end
end Go.Proofs.YtjhlbbgikccclaaGreatDoor
/- U186 -/
namespace Go.Proofs.YtjhlbbgikccclaaGreatDoor
open Go.RowKit
theorem TPut_nil (k v : Value) : Spec Tryz.prog 36 [.pointer none, k, v].toArray [] [] (fun g : Nat => .iface 145 (.pointer (some ⟨g, 0, none⟩))) (fun g => [.blk g (fltC putB 0 1) 284]) := by
 refine spec_of Tryz.func36 rfl (n := 32) rfl rfl ?_
 intro W
 refine yR ?_
 refine yS rfl ?_
 refine yN ?_
 refine yR ?_
 refine yM rfl ?_
 refine yM rfl ?_
 refine yM rfl ?_
 refine h_call ((tStart_nil putB k v).comes) rfl rfl rfl fun g13 => ?_
 refine yM rfl ?_
 refine h_op (r_extract rfl rfl) ?_
 refine h_op (r_extract rfl rfl) ?_
 refine h_opX (x_alloc) fun g7 => ?_
 refine h_opS (s_storer rfl rfl) ?_
 refine yS rfl ?_
 refine yN ?_
 refine h_seq ?_
 refine yR ?_
 refine yM rfl ?_
 refine h_op (r_ifnil rfl) ?_
 refine yN ?_
 refine h_condF rfl ?_
 refine h_skip ?_
 refine q_then ?_
 refine yR ?_
 refine yM rfl ?_
 refine yS rfl ?_
 refine yN ?_
 refine h_ret ?_
 exact h_ret1 rfl rfl fun w s => ⟨g13, rfl, (same (L' := [.blk g13 (fltC putB 0 1) 284]) w s).res (List.Sublist.refl _) (by simp [Fa.wr])⟩
theorem TGet_nil (k : Value) : Spec Tryz.prog 39 [.pointer none, k].toArray [] [] (fun g : Nat => .tuple #[.slice none 0 0, .bool false, .iface 145 (.pointer (some ⟨g, 0, none⟩))]) (fun g => [.blk g (fltC getB 0 1) 284]) := by
 refine spec_of Tryz.func39 rfl (n := 32) rfl rfl ?_
 intro W
 refine yR ?_
 refine yS rfl ?_
 refine yS rfl ?_
 refine yS rfl ?_
 refine yN ?_
 refine yR ?_
 refine yM rfl ?_
 refine yM rfl ?_
 refine h_call ((tStart_nil getB k (.slice none 0 0)).comes) rfl rfl rfl fun g14 => ?_
 refine yM rfl ?_
 refine h_op (r_extract rfl rfl) ?_
 refine h_op (r_extract rfl rfl) ?_
 refine h_opX (x_alloc) fun g7 => ?_
 refine h_opS (s_storer rfl rfl) ?_
 refine yS rfl ?_
 refine yN ?_
 refine h_seq ?_
 refine yR ?_
 refine yM rfl ?_
 refine h_op (r_ifnn rfl) ?_
 refine yN ?_
 refine h_condT rfl ?_
 refine yR ?_
 refine yM rfl ?_
 refine yS rfl ?_
 refine yS rfl ?_
 refine yS rfl ?_
 refine yN ?_
 refine h_ret ?_
 refine q_thenR ?_
 exact h_ret3 rfl rfl rfl rfl fun w s => ⟨g14, rfl, (same (L' := [.blk g14 (fltC getB 0 1) 284]) w s).res (List.Sublist.refl _) (by simp [Fa.wr])⟩
theorem TDel_nil (k : Value) : Spec Tryz.prog 47 [.pointer none, k].toArray [] [] (fun g : Nat => .tuple #[.bool false, .iface 145 (.pointer (some ⟨g, 0, none⟩))]) (fun g => [.blk g (fltC delB 0 1) 284]) := by
 refine spec_of Tryz.func47 rfl (n := 38) rfl rfl ?_
 intro W
 refine yR ?_
 refine yS rfl ?_
 refine yS rfl ?_
 refine yN ?_
 refine yR ?_
 refine yM rfl ?_
 refine yM rfl ?_
 refine h_call ((tStart_nil delB k (.slice none 0 0)).comes) rfl rfl rfl fun g13 => ?_
 refine yM rfl ?_
 refine h_op (r_extract rfl rfl) ?_
 refine h_op (r_extract rfl rfl) ?_
 refine h_opX (x_alloc) fun g6 => ?_
 refine h_opS (s_storer rfl rfl) ?_
 refine yS rfl ?_
 refine yN ?_
 refine h_seq ?_
 refine yR ?_
 refine yM rfl ?_
 refine h_op (r_ifnn rfl) ?_
 refine yN ?_
 refine h_condT rfl ?_
 refine yR ?_
 refine yM rfl ?_
 refine yS rfl ?_
 refine yS rfl ?_
 refine yN ?_
 refine h_ret ?_
 refine q_thenR ?_
 exact h_ret2 rfl rfl rfl fun w s => ⟨g13, rfl, (same (L' := [.blk g13 (fltC delB 0 1) 284]) w s).res (List.Sublist.refl _) (by simp [Fa.wr])⟩
theorem trZ_nil13 (n : Nat) (h : Zh) : TrZ n h .nil none := ⟨rfl⟩
theorem TLen_nil (h : Zh) : Spec Tryz.prog 19 [.pointer none].toArray [.zone false h] [] (fun _ : Unit => .int .i64 0) (fun _ => []) := by
 have hL := @NLen_s 0 h .nil none (trZ_nil13 0 h)
 refine spec_of Tryz.func19 rfl (n := 6) rfl rfl ?_
 intro W
 refine yR ?_
 refine yS rfl ?_
 refine yN ?_
 refine yR ?_
 refine yM rfl ?_
 refine h_call (TNode_nil.comes) rfl rfl rfl fun _ => ?_
 refine h_call (hL.comes) rfl rfl rfl fun _ => ?_
 refine yS rfl ?_
 refine yN ?_
 refine h_ret ?_
 exact h_ret1 rfl rfl fun w s => ⟨(), rfl, s.res (List.nil_sublist _) (by simp)⟩
theorem TEntries_nil (h : Zh) : Spec Tryz.prog 40 [.pointer none].toArray [.zone false h] [] (fun u : Option Addr × Nat => .slice u.1 0 u.2) (fun u => []) := by
 have hE := Entries_s 0 h .nil none (trZ_nil13 0 h) (by decide) (show 0 ≤ 1000000 by decide) (fun x hx => by cases hx)
 refine spec_of Tryz.func40 rfl (n := 6) rfl rfl ?_
 intro W
 refine yR ?_
 refine yS rfl ?_
 refine yN ?_
 refine yR ?_
 refine yM rfl ?_
 refine h_call (TNode_nil.comes) rfl rfl rfl fun _ => ?_
 refine h_call (hE.comes) rfl rfl rfl fun ⟨⟨us, A, c⟩, hus⟩ => ?_
 dsimp only at hus ⊢
 have hel : (entL (lvP h none 0 .nil) us).length = 0 := entL_len hus
 rw [hel]
 refine yS rfl ?_
 refine yN ?_
 refine h_ret ?_
 exact h_ret1 rfl rfl fun w s => ⟨(A, c), rfl, s.res (List.nil_sublist _) (by simp)⟩
set_option maxRecDepth 100000 in
theorem TreeNil_s (h : Zh) [hT : RdZ h (some ⟨1, 0, none⟩) hashT] [hE : ERZ h] (k v : Value) : Spec Tryz.prog 11 [k, v].toArray [] [.zone true h] (fun _ : {x : Zh // LeZ h x} => .bool true) (fun x => [.zone true x.1]) := by
 refine spec_of Tryz.func11 rfl (n := 94) rfl rfl ?_
 intro W
 refine yR ?_
 refine yS rfl ?_
 refine yN ?_
 refine yR ?_
 refine yS rfl ?_
 refine yN ?_
 refine yR ?_
 refine yM rfl ?_
 refine yM rfl ?_
 refine h_call ((TGet_nil k).comes) rfl rfl rfl fun gA => ?_
 refine yM rfl ?_
 refine h_op (r_extract rfl rfl) ?_
 refine h_op (r_extract rfl rfl) ?_
 refine h_op (r_extract rfl rfl) ?_
 refine yS rfl ?_
 refine yS rfl ?_
 refine yS rfl ?_
 refine yN ?_
 refine yR ?_
 refine yM rfl ?_
 refine yM rfl ?_
 refine h_call ((TDel_nil k).comes) rfl rfl rfl fun gB => ?_
 refine yM rfl ?_
 refine h_op (r_extract rfl rfl) ?_
 refine h_op (r_extract rfl rfl) ?_
 refine yS rfl ?_
 refine yS rfl ?_
 refine yN ?_
 refine yR ?_
 refine h_call ((alive13_s h).comes) rfl rfl rfl fun ⟨z1, hz1⟩ => ?_
 dsimp only
 have hE1 : ERZ z1 := hE.mono hz1
 refine yM rfl ?_
 refine yM rfl ?_
 refine yM rfl ?_
 refine yM rfl ?_
 refine h_call ((TPut_nil k v).comes) rfl rfl rfl fun gC => ?_
 refine h_call ((wrong_s gC putB 0 1 (by decide)).comes) rfl rfl rfl fun _ => ?_
 refine h_op (r_not rfl) ?_
 refine h_op (r_pick rfl rfl) ?_
 refine yM rfl ?_
 refine yM rfl ?_
 refine h_call ((wrong_s gA getB 0 1 (by decide)).comes) rfl rfl rfl fun _ => ?_
 refine h_op (r_not rfl) ?_
 refine h_op (r_pick rfl rfl) ?_
 refine yM rfl ?_
 refine yM rfl ?_
 refine h_op (r_len rfl) ?_
 refine h_op (r_bool (r_eql rfl rfl) (show _ = true from rfl)) ?_
 refine h_op (r_pick rfl rfl) ?_
 refine yM rfl ?_
 refine yM rfl ?_
 refine h_op (r_not rfl) ?_
 refine h_op (r_pick rfl rfl) ?_
 refine yM rfl ?_
 refine yM rfl ?_
 refine h_call ((wrong_s gB delB 0 1 (by decide)).comes) rfl rfl rfl fun _ => ?_
 refine h_op (r_not rfl) ?_
 refine h_op (r_pick rfl rfl) ?_
 refine yM rfl ?_
 refine yM rfl ?_
 refine h_op (r_not rfl) ?_
 refine h_op (r_pick rfl rfl) ?_
 refine yM rfl ?_
 refine yM rfl ?_
 refine h_call ((TApply_nil (.slice none 0 0)).comes) rfl rfl rfl fun gD => ?_
 refine h_call ((wrong_s gD appB 0 1 (by decide)).comes) rfl rfl rfl fun _ => ?_
 refine h_op (r_not rfl) ?_
 refine h_op (r_pick rfl rfl) ?_
 refine yM rfl ?_
 refine yM rfl ?_
 refine h_call (TRoot_nil.comes) rfl rfl rfl fun _ => ?_
 refine h_op (r_build (out := zB32.cells) rfl) ?_
 refine h_op (r_bool (r_eqr (p := zB32 = zB32) rfl rfl) (decide_eq_true rfl)) ?_
 refine h_op (r_pick rfl rfl) ?_
 refine yM rfl ?_
 refine yM rfl ?_
 refine h_call ((TLen_nil z1).comes) rfl rfl rfl fun _ => ?_
 refine h_op (r_bool (r_eql rfl rfl) (show _ = true from rfl)) ?_
 refine h_op (r_pick rfl rfl) ?_
 refine yM rfl ?_
 refine yM rfl ?_
 refine h_call ((TEntries_nil z1).comes) rfl rfl rfl fun ⟨A75, c75⟩ => ?_
 dsimp only
 refine h_op (r_len rfl) ?_
 refine h_op (r_bool (r_eql rfl rfl) (show _ = true from rfl)) ?_
 refine h_op (r_pick rfl rfl) ?_
 refine yM rfl ?_
 refine yM rfl ?_
 refine h_call (TClone_nil.comes) rfl rfl rfl fun _ => ?_
 refine h_op (r_nilR rfl rfl) ?_
 refine h_op (r_pick rfl rfl) ?_
 refine yM rfl ?_
 refine yM rfl ?_
 refine h_call (TNode_nil.comes) rfl rfl rfl fun _ => ?_
 refine h_op (r_nilR rfl rfl) ?_
 refine h_op (r_pick rfl rfl) ?_
 refine yM rfl ?_
 refine yM rfl ?_
 refine h_call (THasher_nil.comes) rfl rfl rfl fun _ => ?_
 refine h_op (r_nilR rfl rfl) ?_
 refine h_op (r_pick rfl rfl) ?_
 refine yS rfl ?_
 refine yN ?_
 refine h_ret ?_
 exact h_ret1 rfl rfl fun w s => ⟨⟨z1, hz1⟩, rfl, (same (L' := [.zone true z1]) w s).res (List.Sublist.refl _) (by simp [Fa.wr])⟩
end Go.Proofs.YtjhlbbgikccclaaGreatDoor
