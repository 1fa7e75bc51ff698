/- The subtrees on the way of a key, where they stand: plain; multiproofs: the reference's Way; multi: the ends of keys; multi.Preimages; find.Way; extract: the preimage of a subtree, the preimages on a way, Collide; A range over a function whose body may leave by a return, at a round that is known; Rows of bytes frozen; the reference's comparison of bytes; extract: pairs, compare; The first different rows of two lists: plain (joined texts: E21 U76 U75 U80 U141 N21 U142 E33) -/
import Derived.Test.YtjhocljhhpkiiaaGreatDoorR12
set_option linter.all false
/- E21 -/
namespace Go.Proofs.YtjhocljhhpkiiaaGreatDoor
open Go.RowKit
def Sub.ways (k : B32) : Sub → Nat → List Sub
 | .one x, _ => [.one x]
 | .two l r, d => .two l r :: if bitAt k d then r.ways k (d + 1) else l.ways k (d + 1)
theorem ways_len (k : B32) : ∀ (t : Sub) (d i : Nat), (t.ways k d).length = (t.way k d i).length
 | .one _, _, _ => rfl
 | .two l r, d, i => by
  show (if bitAt k d then r.ways k (d + 1) else l.ways k (d + 1)).length + 1 = (if bitAt k d then r.way k (d + 1) (i + 1 + l.sz) else l.way k (d + 1) (i + 1)).length + 1
  cases bitAt k d
  ·exact congrArg (· + 1) (ways_len k l (d + 1) (i + 1))
  ·exact congrArg (· + 1) (ways_len k r (d + 1) (i + 1 + l.sz))
theorem way_depth (k : B32) : ∀ (t : Sub) (d i : Nat), (t.way k d i).length = (t.endI k d).2 - d + 1 ∧ d ≤ (t.endI k d).2 ∧ (t.endI k d).2 ≤ d + t.ht
 | .one _, d, i => ⟨by show 1 = d - d + 1; omega, Nat.le_refl _, Nat.le_refl _⟩
 | .two l r, d, i => by
  have h1 := way_depth k l (d + 1) (i + 1)
  have h2 := way_depth k r (d + 1) (i + 1 + l.sz)
  show (if bitAt k d then r.way k (d + 1) (i + 1 + l.sz) else l.way k (d + 1) (i + 1)).length + 1 = (if bitAt k d then r.endI k (d + 1) else l.endI k (d + 1)).2 - d + 1 ∧ d ≤ (if bitAt k d then r.endI k (d + 1) else l.endI k (d + 1)).2 ∧ (if bitAt k d then r.endI k (d + 1) else l.endI k (d + 1)).2 ≤ d + (max l.ht r.ht + 1)
  cases bitAt k d
  ·obtain ⟨a, b, c⟩ := h1
   refine ⟨?_, ?_, ?_⟩ <;> simp only [Bool.false_eq_true, if_false] <;> omega
  ·obtain ⟨a, b, c⟩ := h2
   refine ⟨?_, ?_, ?_⟩ <;> simp only [if_true] <;> omega
structure At (l : List Item) (s : Sub) (d i : Nat) : Prop where
 ok : s.ok
 ht : d + s.ht ≤ 256
 le : i ≤ l.length
 eq : ∃ rest, l.drop i = s.flat ++ rest
theorem At.read {l : List Item} {s : Sub} {d i : Nat} (h : At l s d i) : ∃ rest, readM (256 - d) (l.drop i) = some (s, rest) ∧ l.length = i + s.sz + rest.length := by
 obtain ⟨rest, e⟩ := h.eq
 refine ⟨rest, ?_, ?_⟩
 ·rw [e]; exact read_flat s _ _ h.ok (by have := h.ht; omega)
 ·have := congrArg List.length e
  rw [List.length_drop, List.length_append, Sub.flat_len] at this
  have := h.le
  have := s.sz_pos
  omega
theorem At.lt {l : List Item} {s : Sub} {d i : Nat} (h : At l s d i) : i < l.length := by
 obtain ⟨rest, _, e⟩ := h.read
 have := s.sz_pos
 omega
theorem At.skip {l : List Item} {s : Sub} {d i : Nat} (h : At l s d i) : skipI l (readM (256 - d) (l.drop i)) = ((i + s.sz : Nat) : Int) := by
 obtain ⟨rest, e, e2⟩ := h.read
 rw [e]
 show (l.length : Int) - (rest.length : Int) = _
 omega
theorem At.one {l : List Item} {x : Item} {d i : Nat} (h : At l (.one x) d i) : l[i]? = some x := by
 obtain ⟨rest, e⟩ := h.eq
 have := congrArg (·[0]?) e
 simpa [List.getElem?_drop, Sub.flat] using this
theorem At.two {l : List Item} {a b : Sub} {d i : Nat} (h : At l (.two a b) d i) : l[i]? = some innerI ∧ At l a (d + 1) (i + 1) ∧ At l b (d + 1) (i + 1 + a.sz) := by
 obtain ⟨rest, e⟩ := h.eq
 have e' : l.drop i = innerI :: (a.flat ++ (b.flat ++ rest)) := by rw [e]; show innerI :: (a.flat ++ b.flat ++ rest) = _; rw [List.append_assoc]
 have hht : d + (max a.ht b.ht + 1) ≤ 256 := h.ht
 have hlt := h.lt
 have e1 : l.drop (i + 1) = a.flat ++ (b.flat ++ rest) := by
  rw [← List.drop_drop, e']; rfl
 have hl1 : l.length - (i + 1) = a.sz + (b.sz + rest.length) := by
  have := congrArg List.length e1
  rwa [List.length_drop, List.length_append, List.length_append, Sub.flat_len, Sub.flat_len] at this
 refine ⟨?_, ⟨h.ok.1, by omega, by omega, _, e1⟩, ⟨h.ok.2, by omega, by have := b.sz_pos; omega, rest, ?_⟩⟩
 ·have := congrArg (·[0]?) e'
  simpa [List.getElem?_drop] using this
 ·rw [← List.drop_drop, e1, ← a.flat_len, List.drop_left]
end Go.Proofs.YtjhocljhhpkiiaaGreatDoor
/- U76 -/
namespace Go.Proofs.YtjhocljhhpkiiaaGreatDoor
open Go.RowKit
end Go.Proofs.YtjhocljhhpkiiaaGreatDoor
/- U75 -/
namespace Go.Proofs.YtjhocljhhpkiiaaGreatDoor
open Go.RowKit
instance iU75_1 : TZero Tryz.prog 232 (.agg [.nilIface, .nilIface].toArray) := ⟨fun w => by kernel_rfl⟩
def endC (l : List (Item × Nat)) : List Value := l.flatMap fun x => End.cells ⟨x.1, (x.2 : Int)⟩
theorem endC_len (l : List (Item × Nat)) : (endC l).length = l.length * 98 := by
 unfold endC
 induction l with
 | nil => rfl
 | cons x l ih => rw [List.flatMap_cons, List.length_append, ih, List.length_cons, End.cells_length]; omega
theorem endC_snoc (l : List (Item × Nat)) (x : Item × Nat) : endC l ++ End.cells ⟨x.1, (x.2 : Int)⟩ = endC (l ++ [x]) := by unfold endC; rw [List.flatMap_append]; simp
section
variable (h : Zh)
theorem ends_one (x : Item) (ks : List B32) (B : Option Addr) (cc d : Nat) (hks : ks.length ≤ 100000) (out : List (Item × Nat)) (A : Option Addr) (c : Nat) (ho : out.length + ks.length ≤ 1000000) (b : Bool) (hb : (x.kind != 3 || ks.isEmpty) = b) : Spec Tryz.prog 205 [.slice A out.length c, .iface (Sub.one x).tag (Sub.one x).val, .slice B ks.length cc, .int .i64 (d : Int)].toArray [.zone false h] [.own (.slice A out.length c) out.length 250 98 (endC out)] (fun u : Option Addr × Nat => .tuple #[.slice u.1 (out ++ ks.map fun _ => (x, d)).length u.2, .bool b]) (fun u => [.own (.slice u.1 (out ++ ks.map fun _ => (x, d)).length u.2) (out ++ ks.map fun _ => (x, d)).length 250 98 (endC (out ++ ks.map fun _ => (x, d)))]) := by
 have ht : ∀ k, k < ks.length → (ks.take (k + 1)).map (fun _ => (x, d)) = (ks.take k).map (fun _ => (x, d)) ++ [(x, d)] := fun k hk => by rw [List.take_add_one, List.getElem?_eq_getElem hk, Option.toList_some, List.map_append]; rfl
 refine spec_of Tryz.func205 rfl (n := 79) rfl rfl ?_
 intro W
 change H _ _ _ _ (argsEnv 0 [.slice A out.length c, .iface 235 (.agg x.cells.toArray), .slice B ks.length cc, .int .i64 (d : Int)]) _ _
 refine yR ?_
 refine yS rfl ?_
 refine yS rfl ?_
 refine yN ?_
 refine h_seq ?_
 refine yR ?_
 refine yM rfl ?_
 refine yN ?_
 refine h_block ?_
 refine yR ?_
 refine h_op (r_as2n rfl) ?_
 refine h_op (r_extract rfl rfl) ?_
 refine h_op (r_extract rfl rfl) ?_
 refine yN ?_
 refine h_condF rfl ?_
 refine yR ?_
 refine h_op (r_as2 rfl) ?_
 refine h_op (r_extract rfl rfl) ?_
 refine h_op (r_extract rfl rfl) ?_
 refine yN ?_
 refine h_condT rfl ?_
 refine yR ?_
 refine h_opX (x_alloc) fun g14 => ?_
 refine h_opS (s_storer rfl rfl) ?_
 refine yN ?_
 refine h_seq ?_
 refine yR ?_
 refine yM rfl ?_
 refine h_op (r_len rfl) ?_
 refine yM rfl ?_
 refine yN ?_
 refine h_block ?_
 refine h_loop (fun (s : Nat × List (Item × Nat) × Option Addr × Nat) => s.1 ≤ ks.length ∧ s.2.1 = out ++ (ks.take s.1).map (fun _ => (x, d))) (fun (s : Nat × List (Item × Nat) × Option Addr × Nat) => [(58, .int .i64 (s.1 : Int)), (57, .int .i64 (ks.length : Int)), (0, .slice s.2.2.1 s.2.1.length s.2.2.2), (14, .pointer (some ⟨g14, 0, none⟩)), (3, .int .i64 (d : Int)), (2, .slice B ks.length cc)]) (fun (s : Nat × List (Item × Nat) × Option Addr × Nat) => [.own (.slice s.2.2.1 s.2.1.length s.2.2.2) s.2.1.length 250 98 (endC s.2.1), .blk g14 x.cells 235]) (fun (s : Nat × List (Item × Nat) × Option Addr × Nat) => ks.length - s.1) (0, out, A, c) (⟨Nat.zero_le _, by simp⟩) ⟨rfl, rfl, rfl, rfl, rfl, rfl, trivial⟩ (same) ?_
 rintro ⟨k, o, A', c'⟩ ⟨hk, he⟩
 dsimp only at hk he ⊢
 have hol : o.length = out.length + k := by rw [he, List.length_append, List.length_map, List.length_take]; omega
 refine yR ?_
 refine h_op (r_lss rfl rfl) ?_
 refine yN ?_
 refine h_seq ?_
 refine h_cond rfl (fun hlt => ?_) (fun hlt => ?_)
 ·have hk2 : k < ks.length := by omega
  have hl : o.length + 1 = (o ++ [(x, d)]).length := by rw [List.length_append]; rfl
  refine h_skip ?_
  refine q_then ?_
  refine h_seq ?_
  refine h_block ?_
  refine h_reg ?_
  refine yM rfl ?_
  refine h_op (r_field rfl) ?_
  refine h_op (r_loadr rfl) ?_
  refine yM rfl ?_
  refine h_op (r_build rfl) ?_
  refine h_opX (x_bsl rfl rfl) fun g65 => ?_
  refine h_opX (x_app rfl rfl (k := 98)) fun ⟨g66, c66⟩ => ?_
  refine yS rfl ?_
  refine h_nil ?_
  refine q_block ?_
  refine q_then ?_
  refine h_reg ?_
  refine h_op (r_add rfl rfl) ?_
  refine yM rfl ?_
  refine h_nil ?_
  change H _ _ _ _ _ (.own _ _ _ _ (endC o ++ End.cells ⟨x, (d : Int)⟩) :: _) _
  rw [endC_snoc o (x, d), hl]
  exact h_back (k + 1, o ++ [(x, d)], some ⟨g66, 0, none⟩, c66) (⟨by dsimp only; omega, by dsimp only; rw [ht k hk2, he, List.append_assoc]⟩) ((show ks.length - (k + 1) < ks.length - k by omega)) ⟨rfl, rfl, rfl, rfl, rfl, rfl, trivial⟩ (same)
 ·obtain rfl : k = ks.length := by omega
  rw [List.take_length] at he
  subst he
  by_cases h3 : x.kind = 3
  ·have hb2 : decide ((ks.length : Int) = 0) = b := by
    rw [← hb, h3]
    cases ks <;> simp
    omega
   refine h_exit ?_
   refine q_thenE ?_
   refine q_thenE ?_
   refine q_blockE ?_
   refine q_then ?_
   refine yR ?_
   refine yM rfl ?_
   refine h_op (r_field rfl) ?_
   refine h_op (r_field rfl) ?_
   refine h_op (r_loadc rfl) ?_
   refine h_op (r_bool (r_neq rfl rfl) (show _ = false by simp [h3])) ?_
   refine yM rfl ?_
   refine yM rfl ?_
   refine h_op (r_len rfl) ?_
   refine h_op (r_bool (r_eql rfl rfl) hb2) ?_
   refine h_op (r_pick rfl rfl) ?_
   refine yS rfl ?_
   refine yS rfl ?_
   refine yN ?_
   refine h_ret ?_
   refine q_blockR ?_
   refine q_thenR ?_
   exact h_ret2 rfl rfl rfl fun w s => ⟨(A', c'), rfl, (same w s).res (List.Sublist.refl _) (by simp [Fa.wr])⟩
  ·obtain rfl : b = true := by rw [← hb]; simp [h3]
   refine h_exit ?_
   refine q_thenE ?_
   refine q_thenE ?_
   refine q_blockE ?_
   refine q_then ?_
   refine yR ?_
   refine yM rfl ?_
   refine h_op (r_field rfl) ?_
   refine h_op (r_field rfl) ?_
   refine h_op (r_loadc rfl) ?_
   refine h_op (r_bool (r_neq rfl rfl) (show _ = true by simp [h3])) ?_
   refine yM rfl ?_
   refine h_opOff ?_
   refine h_opOff ?_
   refine h_opOff ?_
   refine h_op (r_pick rfl rfl) ?_
   refine yS rfl ?_
   refine yS rfl ?_
   refine yN ?_
   refine h_ret ?_
   refine q_blockR ?_
   refine q_thenR ?_
   exact h_ret2 rfl rfl rfl fun w s => ⟨(A', c'), rfl, (same w s).res (List.Sublist.refl _) (by simp [Fa.wr])⟩
theorem ends_none (l r : Sub) (B : Option Addr) (cc d : Nat) (out : List (Item × Nat)) (A : Option Addr) (c : Nat) : Spec Tryz.prog 205 [.slice A out.length c, .iface (Sub.two l r).tag (Sub.two l r).val, .slice B 0 cc, .int .i64 (d : Int)].toArray [.zone false h] [.own (.slice A out.length c) out.length 250 98 (endC out)] (fun u : Option Addr × Nat => .tuple #[.slice u.1 out.length u.2, .bool false]) (fun u => [.own (.slice u.1 out.length u.2) out.length 250 98 (endC out)]) := by
 refine spec_of Tryz.func205 rfl (n := 79) rfl rfl ?_
 intro W
 change H _ _ _ _ (argsEnv 0 [.slice A out.length c, .iface 232 (.agg [.iface l.tag l.val, .iface r.tag r.val].toArray), .slice B 0 cc, .int .i64 (d : Int)]) _ _
 refine yR ?_
 refine yS rfl ?_
 refine yS rfl ?_
 refine yN ?_
 refine h_seq ?_
 refine yR ?_
 refine yM rfl ?_
 refine yN ?_
 refine h_block ?_
 refine yR ?_
 refine h_op (r_as2 rfl) ?_
 refine h_op (r_extract rfl rfl) ?_
 refine h_op (r_extract rfl rfl) ?_
 refine yN ?_
 refine h_condT rfl ?_
 refine yR ?_
 refine h_opX (x_alloc) fun g10 => ?_
 refine h_opS (s_storer rfl rfl) ?_
 refine yN ?_
 refine h_seq ?_
 refine yR ?_
 refine yM rfl ?_
 refine h_op (r_len rfl) ?_
 refine h_op (r_bool (r_eql rfl rfl) (show _ = true from rfl)) ?_
 refine yN ?_
 refine h_condT rfl ?_
 refine yR ?_
 refine yM rfl ?_
 refine yS rfl ?_
 refine yS rfl ?_
 refine yN ?_
 refine h_ret ?_
 refine q_thenR ?_
 refine q_blockR ?_
 refine q_thenR ?_
 exact h_ret2 rfl rfl rfl fun w s => ⟨(A, c), rfl, (same w s).res (List.Sublist.refl _) (by simp [Fa.wr])⟩
def EndsS (t : Sub) : Prop := ∀ (ks : List B32) (B : Option Addr) (cc d : Nat), RdZ h B (dgs ks) → ks.length ≤ cc → ks.length ≤ 100000 → ks.Pairwise ltK → AlikeK ks d → d + t.ht ≤ 256 → ∀ (out : List (Item × Nat)) (A : Option Addr) (c : Nat), out.length + ks.length ≤ 1000000 →
 Spec Tryz.prog 205 [.slice A out.length c, .iface t.tag t.val, .slice B ks.length cc, .int .i64 (d : Int)].toArray [.zone false h] [.own (.slice A out.length c) out.length 250 98 (endC out)] (fun u : Option Addr × Nat => .tuple #[.slice u.1 (out ++ (endsM t ks d).1).length u.2, .bool (endsM t ks d).2]) (fun u => [.own (.slice u.1 (out ++ (endsM t ks d).1).length u.2) (out ++ (endsM t ks d).1).length 250 98 (endC (out ++ (endsM t ks d).1))])
theorem ends_two (l r : Sub) (ihl : EndsS h l) (ihr : EndsS h r) (ks : List B32) (B : Option Addr) (cc d m : Nat) (hB : RdZ h B (dgs ks)) (hcc : ks.length ≤ cc) (hks : ks.length ≤ 100000) (hne : ks.length ≠ 0) (ho : ks.Pairwise ltK) (ha : AlikeK ks d) (hd : d + (Sub.two l r).ht ≤ 256) (hm : m ≤ ks.length) (hp : ∀ j, j < ks.length → bitAt (ks.getD j zB32) d = decide (m ≤ j)) (h1 : ks.take m = keysB ks d false) (h2 : ks.drop m = keysB ks d true) (out : List (Item × Nat)) (A : Option Addr) (c : Nat) (hsz : out.length + ks.length ≤ 1000000) (e1 e2 : List (Item × Nat)) (b1 b2 : Bool) (he1 : endsM l (keysB ks d false) (d + 1) = (e1, b1)) (he2 : endsM r (keysB ks d true) (d + 1) = (e2, b2)) :
  Spec Tryz.prog 205 [.slice A out.length c, .iface (Sub.two l r).tag (Sub.two l r).val, .slice B ks.length cc, .int .i64 (d : Int)].toArray [.zone false h] [.own (.slice A out.length c) out.length 250 98 (endC out)] (fun u : Option Addr × Nat => .tuple #[.slice u.1 (out ++ if b1 then e1 ++ e2 else e1).length u.2, .bool (b1 && b2)]) (fun u => [.own (.slice u.1 (out ++ if b1 then e1 ++ e2 else e1).length u.2) (out ++ if b1 then e1 ++ e2 else e1).length 250 98 (endC (out ++ if b1 then e1 ++ e2 else e1))]) := by
 have hht : d + (max l.ht r.ht + 1) ≤ 256 := hd
 have h0 : 0 < (dgs ks).length := by rw [dgs_len]; omega
 obtain ⟨b, o, rfl, -⟩ := hB.at_ 0 _ (List.getElem?_eq_getElem h0)
 have hlm : (ks.take m).length = m := by rw [List.length_take, Nat.min_eq_left hm]
 have hle1 := endsM_len l (keysB ks d false) (d + 1)
 rw [he1, ← h1, hlm] at hle1
 dsimp only at hle1
 have hL := ihl (ks.take m) (some ⟨b, o, none⟩) m (d + 1) (dgs_takeZ hB m) (by omega) (by omega) (by rw [h1]; exact keysB_ord ho _) (by rw [h1]; exact keysB_alike ha _) (by omega) out A c (by omega)
 have hR := ihr (ks.drop m) (cutA (some ⟨b, o, none⟩) cc m 32) (cc - m) (d + 1) (dgs_dropZ hB hm hcc) (by rw [List.length_drop]; omega) (by rw [List.length_drop]; omega) (by rw [h2]; exact keysB_ord ho _) (by rw [h2]; exact keysB_alike ha _) (by omega) (out ++ e1)
 rw [hlm, h1, he1] at hL
 rw [List.length_drop] at hR
 simp only [h2, he2] at hR
 dsimp only at hL
 have hS := Split_s ks (some ⟨b, o, none⟩) cc d m (by omega) (by omega) hm hp
 refine spec_of Tryz.func205 rfl (n := 79) rfl rfl ?_
 intro W
 change H _ _ _ _ (argsEnv 0 [.slice A out.length c, .iface 232 (.agg [.iface l.tag l.val, .iface r.tag r.val].toArray), .slice (some ⟨b, o, none⟩) ks.length cc, .int .i64 (d : Int)]) _ _
 refine yR ?_
 refine yS rfl ?_
 refine yS rfl ?_
 refine yN ?_
 refine h_seq ?_
 refine yR ?_
 refine yM rfl ?_
 refine yN ?_
 refine h_block ?_
 refine yR ?_
 refine h_op (r_as2 rfl) ?_
 refine h_op (r_extract rfl rfl) ?_
 refine h_op (r_extract rfl rfl) ?_
 refine yN ?_
 refine h_condT rfl ?_
 refine yR ?_
 refine h_opX (x_alloc) fun g10 => ?_
 refine h_opS (s_storer rfl rfl) ?_
 refine yN ?_
 refine h_seq ?_
 refine yR ?_
 refine yM rfl ?_
 refine h_op (r_len rfl) ?_
 refine h_op (r_bool (r_eql rfl rfl) (decide_eq_false (by omega))) ?_
 refine yN ?_
 refine h_condF rfl ?_
 refine h_skip ?_
 refine q_then ?_
 refine yR ?_
 refine yM rfl ?_
 refine yM rfl ?_
 refine h_call (hS.comes) rfl rfl rfl fun _ => ?_
 refine yS rfl ?_
 refine yN ?_
 refine h_seq ?_
 refine ha_start [.zone false h, .blk g10 [.iface l.tag l.val, .iface r.tag r.val] 232] [] mixed (same) ?_
 refine ha_takeP 0 rfl (r_move rfl) ?_
 refine ha_takeP 1 rfl (r_idxA rfl rfl) ?_
 refine ha_take 2 rfl (r_loadc rfl) ?_
 refine ha_takeP 3 rfl (r_move rfl) ?_
 refine ha_takeP 4 rfl (r_move rfl) ?_
 refine ha_takeP 5 rfl (r_move rfl) ?_
 refine ha_takeP 6 rfl (r_slHM rfl rfl rfl) ?_
 refine ha_takeP 7 rfl (r_move rfl) ?_
 refine ha_takeP 8 rfl (r_add rfl rfl) ?_
 refine ha_one 9 ?_
 refine ho_C 9 rfl (hL.comes) rfl rfl rfl (fun xx => same) fun ⟨A36, c36⟩ => ?_
 refine ha_takeP 10 rfl (r_move rfl) ?_
 refine ha_takeP 11 rfl (r_extract rfl rfl) ?_
 refine ha_takeP 12 rfl (r_extract rfl rfl) ?_
 refine ha_takeP 13 rfl (r_assign rfl) ?_
 refine ha_takeP 14 rfl (r_assign rfl) ?_
 refine ha_done (by kernel_rfl) ?_
 refine q_then ?_
 cases b1
 ·refine h_seq ?_
  refine yR ?_
  refine yM rfl ?_
  refine h_op (r_not rfl) ?_
  refine yN ?_
  refine h_condT rfl ?_
  refine yR ?_
  refine yM rfl ?_
  refine yS rfl ?_
  refine yS rfl ?_
  refine yN ?_
  refine h_ret ?_
  refine q_thenR ?_
  refine q_blockR ?_
  refine q_thenR ?_
  rw [if_neg Bool.false_ne_true]
  exact h_ret2 rfl rfl rfl fun w s => ⟨(A36, c36), rfl, (same w s).res (List.Sublist.refl _) (by simp [Fa.wr])⟩
 ·refine h_seq ?_
  refine yR ?_
  refine yM rfl ?_
  refine h_op (r_not rfl) ?_
  refine yN ?_
  refine h_condF rfl ?_
  refine h_skip ?_
  refine q_then ?_
  refine h_seq ?_
  rw [if_pos rfl, ← List.append_assoc]
  refine ha_start [.zone false h, .blk g10 [.iface l.tag l.val, .iface r.tag r.val] 232] [] mixed (same) ?_
  refine ha_takeP 0 rfl (r_move rfl) ?_
  refine ha_takeP 1 rfl (r_idxA rfl rfl) ?_
  refine ha_take 2 rfl (r_loadc rfl) ?_
  refine ha_takeP 3 rfl (r_move rfl) ?_
  refine ha_takeP 4 rfl (r_move rfl) ?_
  refine ha_takeP 5 rfl (r_slL rfl rfl) ?_
  refine ha_takeP 6 rfl (r_move rfl) ?_
  refine ha_takeP 7 rfl (r_add rfl rfl) ?_
  refine ha_one 8 ?_
  refine ho_C 8 rfl ((hR A36 c36 (by rw [List.length_append]; omega)).comes) rfl rfl rfl (fun xx => same) fun ⟨A50, c50⟩ => ?_
  refine ha_takeP 9 rfl (r_extract rfl rfl) ?_
  refine ha_takeP 10 rfl (r_extract rfl rfl) ?_
  refine ha_takeP 11 rfl (r_assign rfl) ?_
  refine ha_takeP 12 rfl (r_assign rfl) ?_
  refine ha_done (by kernel_rfl) ?_
  refine q_then ?_
  refine h_ret ?_
  refine q_blockR ?_
  refine q_thenR ?_
  exact h_ret2 rfl rfl rfl fun w s => ⟨(A50, c50), rfl, (same w s).res (List.Sublist.refl _) (by simp [Fa.wr])⟩
theorem ends_s : ∀ t : Sub, EndsS h t
 | .one x => fun ks B cc d _ _ hks _ _ _ out A c ho => ends_one h x ks B cc d hks out A c ho _ rfl
 | .two l r => fun ks B cc d hB hcc hks hord hal hd out A c ho => by
  cases ks with
  | nil =>
   have h1 : endsM (.two l r) [] d = ([], false) := by unfold endsM; rfl
   rw [h1, List.append_nil]
   exact ends_none h l r B cc d out A c
  | cons x ks =>
   obtain ⟨m, m1, m2, m3, m4⟩ := split_at hord hal
   have h1 : endsM (.two l r) (x :: ks) d = (if (endsM l (keysB (x :: ks) d false) (d + 1)).2 then (endsM l (keysB (x :: ks) d false) (d + 1)).1 ++ (endsM r (keysB (x :: ks) d true) (d + 1)).1 else (endsM l (keysB (x :: ks) d false) (d + 1)).1, (endsM l (keysB (x :: ks) d false) (d + 1)).2 && (endsM r (keysB (x :: ks) d true) (d + 1)).2) := by
    conv => lhs; unfold endsM
    cases (endsM l (keysB (x :: ks) d false) (d + 1)).2 <;> simp
   rw [h1]
   exact ends_two h l r (ends_s l) (ends_s r) (x :: ks) B cc d m hB hcc hks (by simp) hord hal hd m1 m2 m3 m4 out A c ho _ _ _ _ rfl rfl
end
section
variable (h : Zh) (l : List Item) (A : Option Addr) (c : Nat) [hr : RdZ h A (its l)] (hc : l.length ≤ c) (hl : l.length ≤ 1000000) (ks : List B32) (B : Option Addr) (cc : Nat) [hB : RdZ h B (dgs ks)]
include hc hl
theorem Ends_s (t : Sub) (hp : parseM l = .ok t) (hcc : ks.length ≤ cc) (hk : ks.length ≤ 100000) (he : keysE ks = 0) (es : List (Item × Nat)) (b : Bool) (hE : endsM t ks 0 = (es, b)) : Spec Tryz.prog 153 [.slice A l.length c, .slice B ks.length cc].toArray [.zone false h] [] (fun u : Option Addr × Nat => .tuple (if b then #[.slice u.1 es.length u.2, .int .i64 0] else #[.slice none 0 0, .int .i64 12])) (fun u => if b then [.own (.slice u.1 es.length u.2) es.length 250 98 (endC es)] else []) := by
 have hP := parse_s h l A c hc hl
 rw [hp] at hP
 obtain ⟨h1, h2, h3⟩ := keysE_ok he
 have hK := mKeys_s ks B cc (by omega)
 rw [he] at hK
 have hht := (parse_flat hp).2.2
 have hA := ends_s h t ks B cc 0 hB hcc hk h3 (fun _ _ _ _ i hi => absurd hi (by omega)) (by omega) [] none 0 (by simp; omega)
 rw [hE] at hA
 simp only [List.nil_append, List.length_nil] at hA
 refine spec_of Tryz.func153 rfl (n := 31) rfl rfl ?_
 intro W
 refine yR ?_
 refine yS rfl ?_
 refine yS rfl ?_
 refine yN ?_
 refine yR ?_
 refine yM rfl ?_
 refine h_call (hP.comes) rfl rfl rfl fun _ => ?_
 refine yM rfl ?_
 refine h_op (r_extract rfl rfl) ?_
 refine h_op (r_extract rfl rfl) ?_
 refine yS rfl ?_
 refine yS rfl ?_
 refine yN ?_
 refine h_seq ?_
 refine yR ?_
 refine yM rfl ?_
 refine h_op (r_eql rfl rfl) ?_
 refine yN ?_
 refine h_yes rfl (rfl) ?_
 refine h_reg ?_
 refine yM rfl ?_
 refine h_call (hK.comes) rfl rfl rfl fun _ => ?_
 refine yS rfl ?_
 refine yN ?_
 refine h_seq ?_
 refine yR ?_
 refine yM rfl ?_
 refine h_op (r_neq rfl rfl) ?_
 refine yN ?_
 refine h_no rfl ((fun h => h rfl)) ?_
 refine h_skip ?_
 refine q_then ?_
 refine yR ?_
 refine yM rfl ?_
 refine yM rfl ?_
 refine h_nil_own 250 98 (xs := endC []) rfl ?_
 refine h_call (hA.comes) rfl rfl rfl fun ⟨A25, c25⟩ => ?_
 cases b
 ·refine yM rfl ?_
  refine h_op (r_extract rfl rfl) ?_
  refine h_op (r_extract rfl rfl) ?_
  refine yS rfl ?_
  refine yS rfl ?_
  refine yN ?_
  refine h_seq ?_
  refine yR ?_
  refine yM rfl ?_
  refine h_op (r_not rfl) ?_
  refine yN ?_
  refine h_condT rfl ?_
  refine yR ?_
  refine yS rfl ?_
  refine yS rfl ?_
  refine yN ?_
  refine h_ret ?_
  refine q_thenR ?_
  exact h_ret2 rfl rfl rfl fun w s => ⟨(none, 0), rfl, s.res (List.nil_sublist _) (by simp)⟩
 ·refine yM rfl ?_
  refine h_op (r_extract rfl rfl) ?_
  refine h_op (r_extract rfl rfl) ?_
  refine yS rfl ?_
  refine yS rfl ?_
  refine yN ?_
  refine h_seq ?_
  refine yR ?_
  refine yM rfl ?_
  refine h_op (r_not rfl) ?_
  refine yN ?_
  refine h_condF rfl ?_
  refine h_skip ?_
  refine q_then ?_
  refine yR ?_
  refine yM rfl ?_
  refine yS rfl ?_
  refine yS rfl ?_
  refine yN ?_
  refine h_ret ?_
  exact h_ret2 rfl rfl rfl fun w s => ⟨(A25, c25), rfl, (same (L' := [.own (.slice A25 es.length c25) es.length 250 98 (endC es)]) w s).res (List.Sublist.refl _) (by simp [Fa.wr])⟩
end
end Go.Proofs.YtjhocljhhpkiiaaGreatDoor
/- U80 -/
namespace Go.Proofs.YtjhocljhhpkiiaaGreatDoor
open Go.RowKit
def SegsZ (h : Zh) (xs : List Seg) (ls : List (List UInt8)) : Prop := xs.map (fun x => x.2.2) = ls ∧ ∀ x ∈ xs, (∃ g, x.1 = some ⟨g, 0, none⟩) ∧ RdZ h x.1 (bc x.2.2)
theorem SegsZ.len {h : Zh} {xs : List Seg} {ls : List (List UInt8)} (x : SegsZ h xs ls) : xs.length = ls.length := by rw [← x.1, List.length_map]
theorem SegsZ.snoc {h h' : Zh} (hl : LeZ h h') {xs : List Seg} {ls : List (List UInt8)} (x : SegsZ h xs ls) {g c : Nat} {b : List UInt8} (hr : RdZ h' (some ⟨g, 0, none⟩) (bc b)) : SegsZ h' (xs ++ [(some ⟨g, 0, none⟩, c, b)]) (ls ++ [b]) := by
 refine ⟨by rw [List.map_append, x.1]; rfl, fun y hy => ?_⟩
 rcases List.mem_append.1 hy with hy | hy
 ·exact ⟨(x.2 y hy).1, (x.2 y hy).2.mono hl⟩
 ·rw [List.mem_singleton.1 hy]
  exact ⟨⟨g, rfl⟩, hr⟩
theorem svs_app1 (xs : List Seg) (x : Seg) : svs xs ++ [sv x] = svs (xs ++ [x]) := by simp [svs]
def Sub.pres (n : Nat) (key : B32) (t : Sub) (d : Nat) : List (List UInt8) := (t.ways key d).map (preS n)
theorem pres_one (n : Nat) (key : B32) (x : Item) (d : Nat) : (Sub.one x).pres n key d = [preI x] := rfl
theorem pres_two (n : Nat) (key : B32) (l r : Sub) (d : Nat) : (Sub.two l r).pres n key d = preN (dgS n l) (dgS n r) :: if bitAt key d then r.pres n key (d + 1) else l.pres n key (d + 1) := by
 unfold Sub.pres
 rw [Sub.ways]
 cases bitAt key d <;> rfl
theorem pres_len (n : Nat) (key : B32) (t : Sub) (d i : Nat) : (t.pres n key d).length = (t.way key d i).length := by unfold Sub.pres; rw [List.length_map, ways_len]
section
variable (h : Zh) [hT : RdZ h (some ⟨1, 0, none⟩) hashT] (n : Nat) (hn : n ≤ 256) (gh gc k : Nat) (hk : k ≤ 1000000000) (l : List Item) (A : Option Addr) (c : Nat) [hr : RdZ h A (its l)] (hc : l.length ≤ c) (hl : l.length ≤ 1000000) (key : B32)
include hc hl
include hn hk
theorem mPre_k (t : Sub) (hp : parseM l = .ok t) (b : Bool) (hb : ((t.endI key 0).1.kind == 3) = b) : Spec Tryz.prog 91 [.pointer (some ⟨gh, 0, none⟩), .slice A l.length c, .agg key.cells.toArray].toArray [HR gh gc n] [.zone true h, CN gc k] (fun u : {x : Zh × Nat × Nat × List Seg × Nat // LeZ h x.1 ∧ (b = false → SegsZ x.1 x.2.2.2.1 (t.pres n key 0)) ∧ x.2.2.2.2 ≤ k + 256000000} => .tuple (if b then #[.slice none 0 0, .int .i64 12] else #[.slice (some ⟨u.1.2.1, 0, none⟩) (t.pres n key 0).length u.1.2.2.1, .int .i64 0])) (fun u => .zone true u.1.1 :: CN gc u.1.2.2.2.2 :: if b then [] else [.own (.slice (some ⟨u.1.2.1, 0, none⟩) (t.pres n key 0).length u.1.2.2.1) (t.pres n key 0).length 23 1 (svs u.1.2.2.2.1)]) := by
 have hP := parse_s h l A c hc hl
 rw [hp] at hP
 have hco := readM_cost 256 l t [] (parse_ok hp).1
 have hco2 : t.cost ≤ 1000000 := by rw [List.length_nil] at hco; omega
 have hht := (parse_flat hp).2.2
 have hV := hp
 refine spec_of Tryz.func91 rfl (n := 51) rfl rfl ?_
 intro W
 refine yR ?_
 refine h_opX (x_box rfl) fun g5 => ?_
 refine yS rfl ?_
 refine yS rfl ?_
 refine yN ?_
 refine yR ?_
 refine yM rfl ?_
 refine h_call (hP.comes) rfl rfl rfl fun _ => ?_
 refine yM rfl ?_
 refine h_op (r_extract rfl rfl) ?_
 refine h_op (r_extract rfl rfl) ?_
 refine yS rfl ?_
 refine yS rfl ?_
 refine yN ?_
 refine h_seq ?_
 refine yR ?_
 refine yM rfl ?_
 refine h_op (r_neq rfl rfl) ?_
 refine yN ?_
 refine h_no rfl ((fun h => h rfl)) ?_
 refine h_skip ?_
 refine q_then ?_
 refine yR ?_
 refine yS rfl ?_
 refine yN ?_
 refine yR ?_
 refine yS rfl ?_
 refine yN ?_
 refine h_block ?_
 refine h_nil_own 23 1 (xs := svs ([] : List Seg)) rfl ?_
 refine h_loop (fun (s : Sub × Nat × Zh × List Seg × Option Addr × Nat × Nat) => LeZ h s.2.2.1 ∧ SegsZ s.2.2.1 s.2.2.2.1 (s.2.2.2.1.map fun x => x.2.2) ∧ t.pres n key 0 = (s.2.2.2.1.map fun x => x.2.2) ++ s.1.pres n key s.2.1 ∧ t.endI key 0 = s.1.endI key s.2.1 ∧ s.2.1 + s.1.ht ≤ 256 ∧ s.1.cost ≤ 1000000 ∧ s.2.2.2.2.2.2 ≤ k + s.2.1 * 1000000 ∧ s.2.2.2.1.length = s.2.1) (fun (s : Sub × Nat × Zh × List Seg × Option Addr × Nat × Nat) => [(0, .pointer (some ⟨gh, 0, none⟩)), (5, .pointer (some ⟨g5, 0, none⟩)), (8, .iface s.1.tag s.1.val), (10, .slice s.2.2.2.2.1 s.2.2.2.1.length s.2.2.2.2.2.1), (11, .int .i64 (s.2.1 : Int))]) (fun (s : Sub × Nat × Zh × List Seg × Option Addr × Nat × Nat) => [.zone true s.2.2.1, .own (.slice s.2.2.2.2.1 s.2.2.2.1.length s.2.2.2.2.2.1) s.2.2.2.1.length 23 1 (svs s.2.2.2.1), CN gc s.2.2.2.2.2.2, .blk g5 key.cells 35, HR gh gc n]) (fun (s : Sub × Nat × Zh × List Seg × Option Addr × Nat × Nat) => s.1.sz) (t, 0, h, [], none, 0, k) (⟨LeZ.refl h, ⟨rfl, fun x hx => by cases hx⟩, rfl, rfl, by dsimp only; omega, hco2, by dsimp only; omega, rfl⟩) ⟨rfl, rfl, rfl, rfl, rfl, trivial⟩ (same) ?_
 rintro ⟨s, d, z, xs, B, c', k'⟩ ⟨hle, hsz, hpr, hen, hd, hcs, hkk, hxl⟩
 dsimp only at hle hsz hpr hen hd hcs hkk hxl ⊢
 have hd9 : d ≤ 256 := by omega
 have hTz : RdZ z (some ⟨1, 0, none⟩) hashT := hT.mono hle
 rcases s with x | ⟨s1, s2⟩
 ·rw [pres_one] at hpr
  have hen' : t.endI key 0 = (x, d) := hen
  change H _ _ _ _ ([(0, _), (5, _), (8, .iface 235 (.agg x.cells.toArray)), (10, _), (11, _)]) _ _
  refine h_seq ?_
  refine h_block ?_
  refine yR ?_
  refine yM rfl ?_
  refine yN ?_
  refine h_block ?_
  refine yR ?_
  refine h_op (r_as2n rfl) ?_
  refine h_op (r_extract rfl rfl) ?_
  refine h_op (r_extract rfl rfl) ?_
  refine yN ?_
  refine h_condF rfl ?_
  refine yR ?_
  refine h_op (r_as2 rfl) ?_
  refine h_op (r_extract rfl rfl) ?_
  refine h_op (r_extract rfl rfl) ?_
  refine yN ?_
  refine h_condT rfl ?_
  refine yR ?_
  refine h_opX (x_alloc) fun g13 => ?_
  refine h_opS (s_storer rfl rfl) ?_
  refine yN ?_
  refine h_seq ?_
  refine yR ?_
  refine h_op (r_field rfl) ?_
  refine h_op (r_field rfl) ?_
  refine h_op (r_loadc rfl) ?_
  refine h_op (r_eql rfl rfl) ?_
  refine yN ?_
  by_cases h3 : x.kind = 3
  ·obtain rfl : b = true := by rw [← hb, hen']; simp [h3]
   refine h_yes rfl (h3) ?_
   refine yR ?_
   refine yS rfl ?_
   refine yS rfl ?_
   refine yN ?_
   refine h_ret ?_
   refine q_thenR ?_
   refine q_blockR ?_
   refine q_blockR ?_
   refine q_thenR ?_
   refine q_thenR ?_
   refine q_blockR ?_
   exact h_ret2 rfl rfl rfl fun w s => ⟨⟨(z, 0, 0, [], k'), hle, (fun h => by cases h), by dsimp only; omega⟩, rfl, (same (L' := [.zone true z, CN gc k']) w s).res (List.Sublist.refl _) (by simp [Fa.wr])⟩
  ·obtain rfl : b = false := by rw [← hb, hen']; simp [h3]
   have hpl : (t.pres n key 0).length = xs.length + 1 := by rw [hpr, List.length_append, List.length_map]; rfl
   refine h_no rfl (h3) ?_
   refine h_skip ?_
   refine q_then ?_
   refine yR ?_
   refine yM rfl ?_
   refine h_op (r_loadr rfl) ?_
   refine h_call ((epre_s x).comes) rfl rfl rfl fun ⟨g48, c48⟩ => ?_
   refine h_opX (x_bsl rfl rfl) fun g49 => ?_
   refine h_opX (x_app rfl rfl (k := 1)) fun ⟨g50, c50⟩ => ?_
   refine yS rfl ?_
   refine yS rfl ?_
   refine yN ?_
   refine h_ret ?_
   refine q_blockR ?_
   refine q_blockR ?_
   refine q_thenR ?_
   refine q_thenR ?_
   refine q_blockR ?_
   dsimp only
   rw [← hpl]
   change H _ _ _ _ _ (.own _ _ _ _ (svs xs ++ [sv (some ⟨g48, 0, none⟩, c48, preI x)]) :: _) _
   rw [svs_app1]
   refine h_freezeO (.slice (some ⟨g48, 0, none⟩) (preI x).length c48) fun z2 B2 c2 e2 hle2 hlen2 hnil2 hz2 hr2 => ?_
   injection e2 with e2 _ e3
   subst e2 e3
   exact h_ret2 rfl rfl rfl fun w s => ⟨⟨(z2, g50, c50, xs ++ [(some ⟨g48, 0, none⟩, c48, preI x)], k'), hle.trans hz2, (fun _ => by rw [hpr]; exact hsz.snoc hz2 hr2), by dsimp only; omega⟩, rfl, (same (L' := [.zone true z2, CN gc k', .own (.slice (some ⟨g50, 0, none⟩) (t.pres n key 0).length c50) (t.pres n key 0).length 23 1 (svs (xs ++ [(some ⟨g48, 0, none⟩, c48, preI x)]))]) w s).res (List.Sublist.refl _) (by simp [Fa.wr])⟩
 ·have hht2 : d + (max s1.ht s2.ht + 1) ≤ 256 := hd
  have hcs2 : s1.cost + s2.cost + 1 ≤ 1000000 := hcs
  have hd3 : d * 1000000 ≤ 256 * 1000000 := Nat.mul_le_mul_right _ (by omega)
  have hPP := ppre_s n gh gc s1 s2 (dig_s n hn gh gc s1) (dig_s n hn gh gc s2) k' (by omega)
  rw [pres_two] at hpr
  replace hen : t.endI key 0 = if bitAt key d then s2.endI key (d + 1) else s1.endI key (d + 1) := hen
  have hB := Bit_s key d (by omega)
  have hq1 := s1.sz_pos
  have hq2 := s2.sz_pos
  change H _ _ _ _ ([(0, _), (5, _), (8, .iface 232 (.agg [.iface s1.tag s1.val, .iface s2.tag s2.val].toArray)), (10, _), (11, _)]) _ _
  rw [show (Sub.two s1 s2).val = .agg [.iface s1.tag s1.val, .iface s2.tag s2.val].toArray from rfl] at hPP
  refine h_seq ?_
  refine h_block ?_
  refine yR ?_
  refine yM rfl ?_
  refine yN ?_
  refine h_block ?_
  refine yR ?_
  refine h_op (r_as2 rfl) ?_
  refine h_op (r_extract rfl rfl) ?_
  refine h_op (r_extract rfl rfl) ?_
  refine yN ?_
  refine h_condT rfl ?_
  refine yR ?_
  refine h_opX (x_alloc) fun g12 => ?_
  refine h_opS (s_storer rfl rfl) ?_
  refine yN ?_
  refine yR ?_
  refine yM rfl ?_
  refine h_op (r_loadr rfl) ?_
  refine yM rfl ?_
  refine h_call (hPP.comes) rfl rfl rfl fun ⟨g31, c31⟩ => ?_
  refine h_opX (x_bsl rfl rfl) fun g32 => ?_
  refine h_opX (x_app rfl rfl (k := 1)) fun ⟨g33, c33⟩ => ?_
  refine yS rfl ?_
  refine yN ?_
  dsimp only
  change H _ _ _ _ _ (.own _ _ _ _ (svs xs ++ [sv (some ⟨g31, 0, none⟩, c31, preN (dgS n s1) (dgS n s2))]) :: _) _
  rw [svs_app1]
  refine h_freezeO (.slice (some ⟨g31, 0, none⟩) (preN (dgS n s1) (dgS n s2)).length c31) fun z2 B2 c2 e2 hle2 hlen2 hnil2 hz2 hr2 => ?_
  injection e2 with e2 _ e3
  subst e2 e3
  have hlx : xs.length + 1 = (xs ++ [((some ⟨g31, 0, none⟩, c31, preN (dgS n s1) (dgS n s2)) : Seg)]).length := by rw [List.length_append]; rfl
  have hsn := hsz.snoc hz2 (c := c31) hr2
  have hmp : (xs.map fun x : Seg => x.2.2) ++ [preN (dgS n s1) (dgS n s2)] = (xs ++ [((some ⟨g31, 0, none⟩, c31, preN (dgS n s1) (dgS n s2)) : Seg)]).map fun x : Seg => x.2.2 := by rw [List.map_append]; rfl
  rw [hmp] at hsn
  rw [hlx]
  generalize hxs2 : xs ++ [((some ⟨g31, 0, none⟩, c31, preN (dgS n s1) (dgS n s2)) : Seg)] = xs2 at *
  cases hbit : bitAt key d
  ·rw [show bitN key d = 0 by unfold bitN; rw [hbit]; rfl] at hB
   rw [hbit, if_neg (by simp)] at hpr hen
   refine h_reg ?_
   refine h_op (r_loadr rfl) ?_
   refine yM rfl ?_
   refine h_call (hB.comes) rfl rfl rfl fun _ => ?_
   refine h_op (r_idxA rfl rfl (m := 0)) ?_
   refine h_op (r_loadc rfl) ?_
   refine yS rfl ?_
   refine h_nil ?_
   refine q_block ?_
   refine q_block ?_
   refine q_then ?_
   refine h_reg ?_
   refine yM rfl ?_
   refine h_op (r_add rfl rfl) ?_
   refine yS rfl ?_
   refine h_nil ?_
   exact h_back (s1, d + 1, z2, xs2, some ⟨g33, 0, none⟩, c33, k' + s1.cost + s2.cost) (⟨hle.trans hz2, hsn, by dsimp only; rw [hpr, ← hmp, List.append_assoc]; rfl, hen, by dsimp only; omega, by dsimp only; omega, by dsimp only; omega, by dsimp only; omega⟩) ((show s1.sz < s1.sz + s2.sz + 1 by omega)) ⟨rfl, rfl, rfl, rfl, aI rfl (by dsimp only; omega), trivial⟩ (same)
  ·rw [show bitN key d = 1 by unfold bitN; rw [hbit]; rfl] at hB
   rw [hbit, if_pos rfl] at hpr hen
   refine h_reg ?_
   refine h_op (r_loadr rfl) ?_
   refine yM rfl ?_
   refine h_call (hB.comes) rfl rfl rfl fun _ => ?_
   refine h_op (r_idxA rfl rfl (m := 1)) ?_
   refine h_op (r_loadc rfl) ?_
   refine yS rfl ?_
   refine h_nil ?_
   refine q_block ?_
   refine q_block ?_
   refine q_then ?_
   refine h_reg ?_
   refine yM rfl ?_
   refine h_op (r_add rfl rfl) ?_
   refine yS rfl ?_
   refine h_nil ?_
   exact h_back (s2, d + 1, z2, xs2, some ⟨g33, 0, none⟩, c33, k' + s1.cost + s2.cost) (⟨hle.trans hz2, hsn, by dsimp only; rw [hpr, ← hmp, List.append_assoc]; rfl, hen, by dsimp only; omega, by dsimp only; omega, by dsimp only; omega, by dsimp only; omega⟩) ((show s2.sz < s1.sz + s2.sz + 1 by omega)) ⟨rfl, rfl, rfl, rfl, aI rfl (by dsimp only; omega), trivial⟩ (same)
end
end Go.Proofs.YtjhocljhhpkiiaaGreatDoor
/- U141 -/
namespace Go.Proofs.YtjhocljhhpkiiaaGreatDoor
open Go.RowKit
def preT (n : Nat) : Tr → List UInt8
 | .nil => preE
 | .leaf k v => preL (leafOf n k v)
 | .node l r => preN (dgT n l) (dgT n r)
theorem preT_dg (n : Nat) (t : Tr) : dgT n t = sumB n (preT n t) := by cases t <;> rfl
theorem preT_len (n : Nat) (t : Tr) : (preT n t).length ≤ 65 := by
 cases t with
 | nil => show preE.length ≤ 65; decide
 | leaf k v => show (preL _).length ≤ 65; rw [preL_len]; exact Nat.le_refl _
 | node l r => show (preN _ _).length ≤ 65; rw [preN_len]; exact Nat.le_refl _
def wayL (h : Zh) (key : B32) (p : Option Addr) (N : Nat) : List (Option Addr) := (List.range N).map (wayQ h key p)
theorem wayL_len (h : Zh) (key : B32) (p : Option Addr) (N : Nat) : (wayL h key p N).length = N := by simp [wayL]
theorem wayL_at (h : Zh) (key : B32) (p : Option Addr) {N i : Nat} (hi : i < N) : (wayL h key p N)[i]? = some (wayQ h key p i) := by unfold wayL; rw [List.getElem?_map, List.getElem?_range hi]; rfl
theorem wayL_succ (h : Zh) (key : B32) (p : Option Addr) (i : Nat) : ptrs (wayL h key p i) ++ [.pointer (wayQ h key p i)] = ptrs (wayL h key p (i + 1)) := by unfold wayL ptrs; rw [List.range_succ, List.map_append, List.map_append]; rfl
theorem FWay_s (n : Nat) (h : Zh) (t : Tr) (p : Option Addr) [ht : TrZ n h t p] (key : B32) (D : Nat) (hD : WayTo key t D) : Spec Tryz.prog 72 [.pointer p, .agg key.cells.toArray].toArray [.zone false h] [] (fun u : Option Addr × Nat => .slice u.1 (D + 1) u.2) (fun u => [.own (.slice u.1 (D + 1) u.2) (D + 1) 26 1 (ptrs (wayL h key p (D + 1)))]) := by
 have hle := hD.le
 refine spec_of Tryz.func72 rfl (n := 18) rfl rfl ?_
 intro W
 refine yR ?_
 refine h_opX (x_box rfl) fun g3 => ?_
 refine yS rfl ?_
 refine yN ?_
 refine yR ?_
 refine h_opX (x_alloc) fun g5 => ?_
 refine yN ?_
 refine h_seq ?_
 refine yR ?_
 refine yM rfl ?_
 refine h_op (r_loadr rfl) ?_
 refine h_call ((way_s p key).comes) rfl rfl rfl fun ⟨g1, g2⟩ => ?_
 dsimp only
 refine yN ?_
 refine h_block ?_
 refine h_nil_own 26 1 (xs := ptrs (wayL h key p 0)) rfl ?_
 refine h_range (way_it n h t p key D hD g1 g2) rfl (fun pre mm => ∃ A c, mm = [.blk g5 [.slice A pre.length c] 133, .own (.slice A pre.length c) pre.length 26 1 (ptrs (wayL h key p pre.length))]) [.blk g5 [.slice none 0 0] 133, .own (.slice none 0 0) 0 26 1 (ptrs (wayL h key p 0))] [.zone false h] (by rintro pre mm ⟨A, c, rfl⟩ f hf; simp only [List.mem_cons, List.not_mem_nil, or_false] at hf; rcases hf with rfl | rfl <;> rfl) ⟨none, 0, rfl⟩ rfl (fun _ => rfl) ?_ ?_
 ·intro ll rr pre i post mm W1 hr hrp hxs hJ
  obtain ⟨A, c, rfl⟩ := hJ
  have hpre : pre = List.range i ∧ i < D + 1 := range_mid hxs
  obtain ⟨rfl, hi⟩ := hpre
  rw [List.length_range]
  simp only [List.nil_append, List.cons_append]
  refine h_reg ?_
  refine yS rfl ?_
  refine yN ?_
  refine h_begin hr ?_
  refine h_block ?_
  refine h_reg ?_
  refine h_op (r_loadc rfl) ?_
  refine yM rfl ?_
  refine h_opX (x_bsl rfl rfl) fun g15 => ?_
  refine h_opX (x_app rfl rfl (k := 1)) fun ⟨g16, c16⟩ => ?_
  refine h_opS (s_store rfl rfl rfl) ?_
  refine h_nil ?_
  refine q_block ?_
  dsimp only
  rw [wayL_succ h key p i]
  exact h_endround [.blk g5 [.slice (some ⟨g16, 0, none⟩) (i + 1) c16] 133, .own (.slice (some ⟨g16, 0, none⟩) (i + 1) c16) (i + 1) 26 1 (ptrs (wayL h key p (i + 1)))] hr hrp ⟨some ⟨g16, 0, none⟩, c16, by rw [List.length_append, List.length_range, List.length_singleton]⟩ (by intro f hf; simp only [List.mem_cons, List.not_mem_nil, or_false] at hf; rcases hf with rfl | rfl <;> rfl)
 ·intro bb mm hJ
  obtain ⟨A, c, rfl⟩ := hJ
  rw [List.length_range]
  refine q_block ?_
  refine q_then ?_
  simp only [List.nil_append, List.cons_append]
  refine yR ?_
  refine h_op (r_loadc rfl) ?_
  refine yS rfl ?_
  refine yN ?_
  refine h_ret ?_
  refine h_mark ?_
  exact h_ret1 rfl rfl fun w s => ⟨(A, c), rfl, (same w s).res (List.Sublist.refl _) (by simp [Fa.wr])⟩
section
variable (n : Nat) (hn : n ≤ 256) (h : Zh) [hT : RdZ h (some ⟨1, 0, none⟩) hashT] (gh gc k : Nat) (hk : k ≤ 100000000000)
include hn hk
theorem xPre_s (t : Tr) (p : Option Addr) [ht : TrZ n h t p] : Spec Tryz.prog 73 [.pointer (some ⟨gh, 0, none⟩), .pointer p].toArray [HR gh gc n, .zone false h] [CN gc k] (fun u : {u : Nat × Nat × Nat // u.2.2 ≤ k + 2} => .slice (some ⟨u.1.1, 0, none⟩) (preT n t).length u.1.2.1) (fun u => [.own (.slice (some ⟨u.1.1, 0, none⟩) (preT n t).length u.1.2.1) (preT n t).length 5 1 (bc (preT n t)), CN gc u.1.2.2]) := by
 have hK := Kind_s n h t p
 have hLf := Leaf_s n h t p
 have hLe := Left_s n h t p
 have hRi := Right_s n h t p
 rcases t with _ | ⟨kk, v⟩ | ⟨l, r⟩
 ·refine spec_of Tryz.func73 rfl (n := 24) rfl rfl ?_
  intro W
  refine yR ?_
  refine yS rfl ?_
  refine yN ?_
  refine h_seq ?_
  refine yR ?_
  refine yM rfl ?_
  refine h_call (hK.comes) rfl rfl rfl fun _ => ?_
  refine yN ?_
  refine h_block ?_
  refine yR ?_
  refine h_op (r_bool (r_eql rfl rfl) (show _ = false from rfl)) ?_
  refine yS rfl ?_
  refine yN ?_
  refine h_condF rfl ?_
  refine yR ?_
  refine h_op (r_bool (r_eql rfl rfl) (show _ = false from rfl)) ?_
  refine yS rfl ?_
  refine yN ?_
  refine h_condF rfl ?_
  refine h_skip ?_
  refine q_block ?_
  refine q_then ?_
  refine yR ?_
  refine h_call (pEmpty_s.comes) rfl rfl rfl fun ⟨g23, c23⟩ => ?_
  refine yS rfl ?_
  refine yN ?_
  refine h_ret ?_
  exact h_ret1 rfl rfl fun w s => ⟨⟨(g23, c23, k), by dsimp only; omega⟩, rfl, (same (L' := [.own (.slice (some ⟨g23, 0, none⟩) 1 c23) 1 5 1 (bc preE), CN gc k]) w s).res (List.Sublist.refl _) (by simp [Fa.wr])⟩
 ·refine spec_of Tryz.func73 rfl (n := 24) rfl rfl ?_
  intro W
  refine yR ?_
  refine yS rfl ?_
  refine yN ?_
  refine h_seq ?_
  refine yR ?_
  refine yM rfl ?_
  refine h_call (hK.comes) rfl rfl rfl fun _ => ?_
  refine yN ?_
  refine h_block ?_
  refine yR ?_
  refine h_op (r_bool (r_eql rfl rfl) (show _ = true from rfl)) ?_
  refine yS rfl ?_
  refine yN ?_
  refine h_condT rfl ?_
  refine yR ?_
  refine yM rfl ?_
  refine h_call (hLf.comes) rfl rfl rfl fun _ => ?_
  refine h_call ((pLeaf_s (leafOf n kk v)).comes) rfl rfl rfl fun ⟨g11, c11⟩ => ?_
  refine yS rfl ?_
  refine yN ?_
  refine h_ret ?_
  refine q_blockR ?_
  refine q_thenR ?_
  exact h_ret1 rfl rfl fun w s => ⟨⟨(g11, c11, k), by dsimp only; omega⟩, rfl, (same (L' := [.own (.slice (some ⟨g11, 0, none⟩) (preL (leafOf n kk v)).length c11) (preL (leafOf n kk v)).length 5 1 (bc (preL (leafOf n kk v))), CN gc k]) w s).res (List.Sublist.refl _) (by simp [Fa.wr])⟩
 ·have hl := TrZ.left ht
  have hr := TrZ.right ht
  refine spec_of Tryz.func73 rfl (n := 24) rfl rfl ?_
  intro W
  refine yR ?_
  refine yS rfl ?_
  refine yN ?_
  refine h_seq ?_
  refine yR ?_
  refine yM rfl ?_
  refine h_call (hK.comes) rfl rfl rfl fun _ => ?_
  refine yN ?_
  refine h_block ?_
  refine yR ?_
  refine h_op (r_bool (r_eql rfl rfl) (show _ = false from rfl)) ?_
  refine yS rfl ?_
  refine yN ?_
  refine h_condF rfl ?_
  refine yR ?_
  refine h_op (r_bool (r_eql rfl rfl) (show _ = true from rfl)) ?_
  refine yS rfl ?_
  refine yN ?_
  refine h_condT rfl ?_
  refine yR ?_
  refine yM rfl ?_
  refine yM rfl ?_
  refine h_call (hLe.comes) rfl rfl rfl fun _ => ?_
  refine h_call ((Digest_s n hn gh gc k (by omega) h l (subP h false p)).comes) rfl rfl rfl fun _ => ?_
  refine yM rfl ?_
  refine yM rfl ?_
  refine h_call (hRi.comes) rfl rfl rfl fun _ => ?_
  refine h_call ((Digest_s n hn gh gc (k + if l.kind = 0 then 1 else 0) (by split <;> omega) h r (subP h true p)).comes) rfl rfl rfl fun _ => ?_
  refine h_call ((pNode_s (dgT n l) (dgT n r)).comes) rfl rfl rfl fun ⟨g22, c22⟩ => ?_
  refine yS rfl ?_
  refine yN ?_
  refine h_ret ?_
  refine q_blockR ?_
  refine q_thenR ?_
  exact h_ret1 rfl rfl fun w s => ⟨⟨(g22, c22, (k + if l.kind = 0 then 1 else 0) + if r.kind = 0 then 1 else 0), by dsimp only; split <;> split <;> omega⟩, rfl, (same (L' := [.own (.slice (some ⟨g22, 0, none⟩) (preN (dgT n l) (dgT n r)).length c22) (preN (dgT n l) (dgT n r)).length 5 1 (bc (preN (dgT n l) (dgT n r))), CN gc ((k + if l.kind = 0 then 1 else 0) + if r.kind = 0 then 1 else 0)]) w s).res (List.Sublist.refl _) (by simp [Fa.wr])⟩
def wayPre (n : Nat) (key : B32) (t : Tr) (N : Nat) : List (List UInt8) := (List.range N).map fun i => preT n (wayK key t i)
omit hn hk hT in
theorem wayPre_len (n : Nat) (key : B32) (t : Tr) (N : Nat) : (wayPre n key t N).length = N := by simp [wayPre]
omit hn hk hT in
theorem wayPre_succ (n : Nat) (key : B32) (t : Tr) (N : Nat) : wayPre n key t (N + 1) = wayPre n key t N ++ [preT n (wayK key t N)] := by unfold wayPre; rw [List.range_succ, List.map_append]; rfl
omit hk in
theorem xWay_s (hk2 : k ≤ 10000000000) (t : Tr) (p : Option Addr) [ht : TrZ n h t p] (key : B32) (D : Nat) (hD : WayTo key t D) : Spec Tryz.prog 21 [.pointer (some ⟨gh, 0, none⟩), .pointer p, .agg key.cells.toArray].toArray [HR gh gc n] [.zone true h, CN gc k] (fun u : {u : Zh × Option Addr × Nat × List Seg × Nat // LeZ h u.1 ∧ SegsZ u.1 u.2.2.2.1 (wayPre n key t (D + 1)) ∧ u.2.2.2.2 ≤ k + 1000} => .slice u.1.2.1 (D + 1) u.1.2.2.1) (fun u => [.zone true u.1.1, .own (.slice u.1.2.1 (D + 1) u.1.2.2.1) (D + 1) 23 1 (svs u.1.2.2.2.1), CN gc u.1.2.2.2.2]) := by
 have hle := hD.le
 have hW := FWay_s n h t p key D hD
 have hlen := wayL_len h key p (D + 1)
 have hat := fun i (hi : i < D + 1) => wayL_at h key p hi
 refine spec_of Tryz.func21 rfl (n := 26) rfl rfl ?_
 intro W
 refine yR ?_
 refine h_opX (x_box rfl) fun g5 => ?_
 refine yS rfl ?_
 refine yN ?_
 refine yR ?_
 refine yS rfl ?_
 refine yN ?_
 refine h_seq ?_
 refine yR ?_
 refine yM rfl ?_
 refine h_op (r_loadr rfl) ?_
 refine h_call (hW.comes) rfl rfl rfl fun ⟨A12, c12⟩ => ?_
 dsimp only
 refine h_pure (φ := ∃ g, A12 = some ⟨g, 0, none⟩) (fun w s => s.ownSome (N := D + 1) (c := c12) (by omega)) ?_
 rintro ⟨g12, rfl⟩
 refine h_op (r_len rfl) ?_
 refine yM rfl ?_
 refine yN ?_
 refine h_block ?_
 refine h_nil_own 23 1 (xs := svs ([] : List Seg)) rfl ?_
 refine h_loop (fun (s : Zh × List Seg × Option Addr × Nat × Nat) => LeZ h s.1 ∧ s.2.1.length ≤ D + 1 ∧ SegsZ s.1 s.2.1 (wayPre n key t s.2.1.length) ∧ s.2.2.2.2 ≤ k + 2 * s.2.1.length) (fun (s : Zh × List Seg × Option Addr × Nat × Nat) => [(14, .int .i64 (s.2.1.length : Int)), (13, .int .i64 ((D + 1 : Nat) : Int)), (12, .slice (some ⟨g12, 0, none⟩) (D + 1) c12), (7, .slice s.2.2.1 s.2.1.length s.2.2.2.1), (0, .pointer (some ⟨gh, 0, none⟩))]) (fun (s : Zh × List Seg × Option Addr × Nat × Nat) => [.zone true s.1, .own (.slice (some ⟨g12, 0, none⟩) (D + 1) c12) (D + 1) 26 1 (ptrs (wayL h key p (D + 1))), .own (.slice s.2.2.1 s.2.1.length s.2.2.2.1) s.2.1.length 23 1 (svs s.2.1), CN gc s.2.2.2.2, HR gh gc n]) (fun (s : Zh × List Seg × Option Addr × Nat × Nat) => D + 1 - s.2.1.length) (h, [], none, 0, k) (⟨LeZ.refl h, Nat.zero_le _, ⟨rfl, fun x hx => by cases hx⟩, Nat.le_add_right _ _⟩) ⟨rfl, rfl, rfl, rfl, rfl, trivial⟩ (same) ?_
 rintro ⟨z, xs, B, c', k'⟩ ⟨hz, hxl, hsz, hk'⟩
 dsimp only at hz hxl hsz hk' ⊢
 refine yR ?_
 refine h_op (r_lss rfl rfl) ?_
 refine yN ?_
 refine h_seq ?_
 refine h_cond rfl (fun hlt => ?_) (fun hlt => ?_)
 ·have hi : xs.length < D + 1 := by omega
  have hTz : RdZ z (some ⟨1, 0, none⟩) hashT := hT.mono hz
  have htz : TrZ n z (wayK key t xs.length) (wayQ h key p xs.length) := ⟨(wayK_ok ht.ok key xs.length).mono hz⟩
  have hP := xPre_s n hn z gh gc k' (by omega) (wayK key t xs.length) (wayQ h key p xs.length)
  refine h_skip ?_
  refine q_then ?_
  refine h_seq ?_
  refine h_block ?_
  refine yR ?_
  refine h_op (r_idx rfl rfl) ?_
  refine h_op (r_nth rfl (ptrs_get (hat xs.length hi))) ?_
  refine yS rfl ?_
  refine yN ?_
  refine h_reg ?_
  refine yM rfl ?_
  refine yM rfl ?_
  refine yM rfl ?_
  refine h_call (hP.comes) rfl rfl rfl fun ⟨⟨g21, c21, k1⟩, hk1⟩ => ?_
  dsimp only at hk1 ⊢
  refine h_opX (x_bsl rfl rfl) fun g22 => ?_
  refine h_opX (x_app rfl rfl (k := 1)) fun ⟨g23, c23⟩ => ?_
  refine yS rfl ?_
  refine h_nil ?_
  refine q_block ?_
  refine q_then ?_
  refine h_reg ?_
  refine h_op (r_add rfl rfl) ?_
  refine yM rfl ?_
  refine h_nil ?_
  dsimp only
  change H _ _ _ _ _ (.own _ _ _ _ (svs xs ++ [sv (some ⟨g21, 0, none⟩, c21, preT n (wayK key t xs.length))]) :: _) _
  rw [svs_app1]
  refine h_freezeO (.slice (some ⟨g21, 0, none⟩) (preT n (wayK key t xs.length)).length c21) fun z2 B2 c2 e2 hle2 hlen2 hnil2 hz2 hr2 => ?_
  injection e2 with e2 _ e3
  subst e2 e3
  have hlx : xs.length + 1 = (xs ++ [((some ⟨g21, 0, none⟩, c21, preT n (wayK key t xs.length)) : Seg)]).length := by rw [List.length_append]; rfl
  have hsn := hsz.snoc hz2 (c := c21) hr2
  rw [← wayPre_succ] at hsn
  exact h_back (z2, xs ++ [((some ⟨g21, 0, none⟩, c21, preT n (wayK key t xs.length)) : Seg)], some ⟨g23, 0, none⟩, c23, k1) (⟨hz.trans hz2, by dsimp only; rw [← hlx]; omega, by dsimp only; rw [← hlx]; exact hsn, by dsimp only; rw [← hlx]; omega⟩) ((by dsimp only; rw [← hlx]; omega)) ⟨aI rfl (by dsimp only; rw [← hlx]; omega), rfl, rfl, by dsimp only; rw [← hlx]; rfl, rfl, trivial⟩ ((fun w s => by dsimp only; rw [← hlx]; exact same w s))
 ·have hx : xs.length = D + 1 := by omega
  rw [hx] at hsz
  rw [hx]
  refine h_exit ?_
  refine q_thenE ?_
  refine q_thenE ?_
  refine q_blockE ?_
  refine q_then ?_
  refine yR ?_
  refine yM rfl ?_
  refine yS rfl ?_
  refine yN ?_
  refine h_ret ?_
  exact h_ret1 rfl rfl fun w s => ⟨⟨(z, B, c', xs, k'), hz, hsz, by dsimp only; omega⟩, rfl, (same (L' := [.zone true z, .own (.slice B (D + 1) c') (D + 1) 23 1 (svs xs), CN gc k']) w s).res (List.Sublist.refl _) (by simp [Fa.wr])⟩
theorem xCollide_s (x y : List UInt8) (X Y : Option Addr) (cx cy : Nat) (hX : X = none → x.length = 0 ∧ cx = 0) (hY : Y = none → y.length = 0 ∧ cy = 0) (hx : x.length ≤ 100000000) (hy : y.length ≤ 100000000) : Spec Tryz.prog 28 [.pointer (some ⟨gh, 0, none⟩), .slice X x.length cx, .slice Y y.length cy].toArray [HR gh gc n, .rd X (bc x), .rd Y (bc y), .zone false h] [CN gc k] (fun u : {u : Nat // u ≤ k + 2} => .bool (!decide (x = y) && decide (sumB n x = sumB n y))) (fun u => [CN gc u.1]) := by
 refine spec_of Tryz.func28 rfl (n := 20) rfl rfl ?_
 intro W
 refine yR ?_
 refine yS rfl ?_
 refine yN ?_
 refine yR ?_
 refine yM rfl ?_
 refine yM rfl ?_
 refine h_call ((bEqual_s x y X Y cx cy).comes) rfl rfl rfl fun _ => ?_
 by_cases he : x = y
 ·rw [decide_eq_true he]
  refine h_op (r_not rfl) ?_
  refine yM rfl ?_
  refine h_opOff ?_
  refine h_opOff ?_
  refine h_opOff ?_
  refine h_opOff ?_
  refine h_opOff ?_
  refine h_opOff ?_
  refine h_opOff ?_
  refine h_op (r_pick rfl rfl) ?_
  refine yS rfl ?_
  refine yN ?_
  refine h_ret ?_
  exact h_ret1 rfl rfl fun w s => ⟨⟨k, by omega⟩, rfl, (same (L' := [CN gc k]) w s).res (List.Sublist.refl _) (by simp [Fa.wr])⟩
 ·rw [decide_eq_false he]
  refine h_op (r_not rfl) ?_
  refine yM rfl ?_
  refine yM rfl ?_
  refine yM rfl ?_
  refine h_call ((HSum_s n hn gh gc k (by omega) x X cx hX (by omega)).comes) rfl rfl rfl fun _ => ?_
  refine yM rfl ?_
  refine yM rfl ?_
  refine h_call ((HSum_s n hn gh gc (k + 1) (by omega) y Y cy hY (by omega)).comes) rfl rfl rfl fun _ => ?_
  refine h_op (r_bool (r_eqr rfl rfl) rfl) ?_
  refine h_op (r_pick rfl rfl) ?_
  refine yS rfl ?_
  refine yN ?_
  refine h_ret ?_
  exact h_ret1 rfl rfl fun w s => ⟨⟨k + 1 + 1, by omega⟩, rfl, (same (L' := [CN gc (k + 1 + 1)]) w s).res (List.Sublist.refl _) (by simp [Fa.wr])⟩
end
end Go.Proofs.YtjhocljhhpkiiaaGreatDoor
/- N21 -/
namespace Go.Proofs.YtjhocljhhpkiiaaGreatDoor
open Go.RowKit
def YAB (P : Program) (l : Nat) (args : List Value) (Rm m : List Fa) (b : Bool) (J' : List Fa → Prop) : Prop := ∀ w, Fx w m → Reads w m Rm → YieldAt Fence.wide 0 P l args.toArray w fun e w' => e = .returned (.bool b) ∧ ∃ m', J' m' ∧ Rx m w w' m'
def IterD (P : Program) (gf : FuncId) (lb : List Value) (R A : List Fa) (N d : Nat) (enc : Nat → List Value) (A' : List Fa) : Prop :=
 ∀ (l : Nat) (J : Nat → List Fa → Prop) (Rm m0 : List Fa) (w : World), (∀ k m, J k m → ∀ f ∈ m, f.wr = true) →
  (∀ k m, k < N → k ≤ d → J k m → YAB P l (enc k) Rm m (decide (k < d)) (J (k + 1))) →
  J 0 m0 → Fx w (A ++ m0) → Reads w (A ++ m0) (R ++ Rm) →
  Calls P gf (.func (.yield l) #[] #[] :: lb).toArray w fun e w' => ∃ v m', e = .returned v ∧ J (min (d + 1) N) m' ∧ Rx (A ++ m0) w w' (A' ++ m')
section
variable {A : List Fa} {W : World} {n : Nat} {D : List Deferred} {E : Env} {L M : List Fa} {P : Program} {Q : Exit → Act → World → Prop} {ro : Option Nat} {ops : List Oper} {rest : List Oper} {d : Nat} {ty : TypeId} {pos : String} {af : Array Edge} {g : Option (Nat × Bool)}
theorem wpIn_rnd {o : Oper} {a : Act} {w w' : World} {l : Nat} {fn : FuncId} {tmps : Array Value} {assign body : Code} {K : Act → World → Prop} {R : Ending → World → Prop} (h : (execOp a.eval o).run P w = .ok (.round l fn tmps assign body) w') (hround : RoundIn Fence.wide 0 P l fn tmps assign body w' R) (hK : ∀ e w'', R e w'' → ∃ v, e = .returned v ∧ K (a.put o.dst v) w'') : o.wpIn (FR ro) 0 P a w K Q := by
 refine ⟨fun _ _ => trivial, ?_⟩
 rw [show (FR ro).round = ro from rfl, semAt_ok (by simp) h]
 refine ⟨(fun hd => by cases hd), RoundIn.mono (F := FR ro) hround ?_⟩
 intro e w'' hR
 obtain ⟨v, rfl, h2⟩ := hK e w'' hR
 exact h2
theorem x_round {a : Act} {w : World} {o : Oper} {x : Operand} {ats : List Operand} {ts : Array TypeId} {l : Nat} {args : List Value} {fn : FuncId} {tmps : Array Value} {assign body : Code} (ka : Kn n D E a) (ho : o.op = .call ⟨.value x, ats.toArray, ts⟩) (hx : ev E x = some (.func (.yield l) #[] #[])) (ha : evs E ats = some args) (hrun : (Instr.yield l args.toArray).run P w = .ok (.round l fn tmps assign body) w) : (execOp a.eval o).run P w = .ok (.round l fn tmps assign body) w := by
 unfold execOp
 simp only [ho, resolve, ka.ev hx, Deferred.ofValue, Sem.run_bind, Sem.run_pure, Result.andThen_ok, invoke]
 rw [List.map_toArray, ka.evs ha, show (#[] ++ args.toArray : Array Value) = args.toArray by simp]
 exact hrun
end
section
variable {A : List Fa} {W : World} {n : Nat} {D : List Deferred} {ro : Option Nat} {P : Program} {ops : List Oper} {Q : Exit → Act → World → Prop} {Lb Lr L M : List Fa} {fuel : Nat} {listed : Array Bool} {E : Env}
variable {op : Op} {d : Nat} {ty : TypeId} {pos : String} {af : Array Edge} {g : Option (Nat × Bool)}
theorem ho_Y (i : Nat) {x : Operand} {ats : List Operand} {ts : Array TypeId} {l : Nat} {args : List Value} {m Rm : List Fa} {b : Bool} {J' : List Fa → Prop} {L' : List Fa → List Fa} (hi : ops[i]? = some ⟨some d, .call ⟨.value x, ats.toArray, ts⟩, ty, pos, af, g⟩) (hy : YAB P l args Rm m b J') (hRm : ∀ r ∈ Rm, r.wr = false) [ht : TakeT m Rm L M] [hN : ∀ m', App M (m' ++ Rm) (L' m')] (hx : ev E x = some (.func (.yield l) #[] #[])) (ha : evs E ats = some args) [hl : ∀ m', Rds (L' m') Lr]
  (hb : ∀ m' w, Sx A W w (L' m') → Sx A W w Lb) (k : ∀ m', J' m' → HA A W n D ro P ops Q Lb Lr fuel (listed.setIfInBounds i true) ((d, .bool b) :: E) (L' m')) (hd : Nat.blt d n = true := by exact rfl) (hg : wn ops.toArray E g = some true := by exact rfl) : HO A W n D ro P ops Q Lb Lr fuel listed E L i := fun a w ka s sr => by
 have s2 := s.perm ht.perm
 have hR : Reads w m Rm := fun r hr => ⟨hRm r hr, s2.ok r (by simp [hr]), fun b hb => (List.pairwise_append.1 s2.sep).2.2 b hb r (by simp [hr])⟩
 obtain ⟨fn, tmps, assign, body, hrun, hround⟩ := hy w (s2.toFx.sub (List.sublist_append_left _ _)) hR
 refine ho_mk hi (wn_run ka hg) (wpIn_rnd (x_round ka rfl hx ha hrun) hround ?_)
 rintro e w' ⟨rfl, m', hJ, hxx⟩
 have s3 := (s2.ret hxx).perm (M := L' m') (by rw [← (hN m').eq, ← List.append_assoc]; exact List.perm_append_comm)
 have h3 : Fx w' Lr := Fx.rds s3.toFx (hr := hl m')
 exact ⟨_, rfl, fun _ _ => ⟨hb m' _ s3, h3⟩, k m' hJ _ _ (ka.put hd _) s3 ⟨hb m' _ s3, h3⟩⟩
end
section
variable {A : List Fa} {W : World} {n : Nat} {D : List Deferred} {E : Env} {L M : List Fa} {P : Program} {Q : Exit → Act → World → Prop}
def RoundStop (l : Nat) (r : Loop) (S : List Fa → Prop) (m : List Fa) (W1 : World) (e : Ending) (w' : World) : Prop := e = .returned (.bool false) ∧ ∃ m', S m' ∧ Rx (.obj l (.loop r) :: m) W1 w' (.obj l (.loop { r with state := .done, pending := some .ret }) :: m')
theorem h_stopround {l : Nat} {r : Loop} {S : List Fa → Prop} {m : List Fa} (m' : List Fa) (hS : S m') (hw : ∀ f ∈ m', f.wr = true) [ht : Take (.obj l (.loop { r with state := .busy }) :: m') L M] : H (.obj l (.loop r) :: m) W n D E L (roundPost P l (RoundStop l r S m W) .ret) := fun a w ka s => by
 have s2 := (s.perm ht.perm).sub (List.sublist_append_left (.obj l (.loop { r with state := .busy }) :: m') M)
 have ho : w.heap[l]? = some (.loop { r with state := .busy }) := s2.ok (.obj _ _) (List.mem_cons_self ..)
 refine ⟨_, _, run_endRound (some .ret) ho, rfl, m', hS, ?_⟩
 have s3 := s2.putObj (.loop { { r with state := .busy } with state := .done, pending := some .ret })
 exact s3.res (List.Sublist.refl _) fun f hf => (List.mem_cons.1 hf).elim (fun h => by rw [h]; rfl) (hw f)
theorem h_rangeD {N d : Nat} {g : Operand} {ps : List Nat} {assign body : Code} {gf : FuncId} {lb : List Value} {R Ai Ai' : List Fa} {enc : Nat → List Value} (it : IterD P gf lb R Ai N d enc Ai') (hdN : d ≤ N) (hg : ev E g = some (.func (.func gf) #[] lb.toArray)) [eg : Ent P gf]
  (J : Nat → List Fa → Prop) (m0 Rm : List Fa) [ht : Take (Ai ++ m0) L M] [hr : Rds M (R ++ Rm)] (hJw : ∀ k m, J k m → ∀ f ∈ m, f.wr = true) (h0 : J 0 m0) (hps : (ps.all fun p => Nat.blt p n) = true) (hen : ∀ k, (enc k).length = ps.length)
  (hround : ∀ (l : Nat) (r : Loop) (k : Nat) (m : List Fa) (W1 : World), r.state = .ready → r.pending = none → k < N → k < d → J k m →
   H (.obj l (.loop r) :: m) W1 n [] (parEnv ps (enc k) E) (.obj l (.loop r) :: (m ++ Rm)) (assign.wpIn (FR (some l)) 0 P (Exit.then (fun a₁ w₁ => ∃ w₂, (Instr.beginRound l).run P w₁ = .ok () w₂ ∧ body.wpIn (FR (some l)) 0 P (roundPost P l (RoundOk l r (J (k + 1)) m W1)) a₁ w₂) (fun _ _ _ => False))))
  (hstop : ∀ (l : Nat) (r : Loop) (m : List Fa) (W1 : World), r.state = .ready → r.pending = none → d < N → J d m →
   H (.obj l (.loop r) :: m) W1 n [] (parEnv ps (enc d) E) (.obj l (.loop r) :: (m ++ Rm)) (assign.wpIn (FR (some l)) 0 P (Exit.then (fun a₁ w₁ => ∃ w₂, (Instr.beginRound l).run P w₁ = .ok () w₂ ∧ body.wpIn (FR (some l)) 0 P (roundPost P l (RoundStop l r (J (d + 1)) m W1)) a₁ w₂) (fun _ _ _ => False))))
  (hdone : ∀ (b : Nat) (m : List Fa), d = N → J N m → H A W n ({ target := .collected b, args := #[] } :: D) E ((Ai' ++ m) ++ (.obj b (.deferred (some [])) :: M)) (Q .normal))
  (hret : ∀ (b : Nat) (m : List Fa), d < N → J (d + 1) m → H A W n ({ target := .collected b, args := #[] } :: D) E ((Ai' ++ m) ++ (.obj b (.deferred (some [])) :: M)) (Q .ret)) :
  H A W n D E L ((Code.rangeFunc g ps.toArray assign body).wpIn (FR none) 0 P Q) := fun a w ka s => by
 refine wpIn_rangeFunc ?_
 intro fn hfn
 obtain ⟨rec, hrec⟩ : ∃ rec : Loop, rec = { state := .ready, pending := none, fn, tmps := a.tmps, params := ps.toArray, assign, body, defers := w.heap.size } := ⟨_, rfl⟩
 have s1 := (s.allocObj (.deferred (some []))).allocObj (.loop rec)
 rw [World.size_alloc] at s1
 generalize hW1 : (w.alloc (.deferred (some []))).alloc (.loop rec) = W1 at s1
 have s2 := s1.zag ht.perm
 have hev : a.eval g = .func (.func gf) #[] lb.toArray := ka.ev hg
 refine ⟨w.heap.size + 1, [{ target := .collected w.heap.size, args := #[] }], W1, { target := .fn (.func gf) lb.toArray, args := #[.func (.yield (w.heap.size + 1)) #[] #[]] }, W1, gf, #[.func (.yield (w.heap.size + 1)) #[] #[]] ++ lb.toArray, W1, ?_, ?_, ?_, ?_, (fun h => by cases h), ?_⟩
 ·rw [← hW1, hrec]
  exact run_enterLoop_outer _ _ _ _ _
 ·simp only [resolve, hev]
  simp [go_sem]
 ·intro f' _
  trivial
 ·simp only [invoke]
  exact eg.ok _ _
 ·have hcall := it (w.heap.size + 1) (fun k m => ∃ m1, m = .obj (w.heap.size + 1) (.loop (if k ≤ d then rec else { rec with state := .done, pending := some .ret })) :: m1 ∧ J k m1) Rm (.obj (w.heap.size + 1) (.loop rec) :: m0) W1 (by rintro k m ⟨m1, rfl, hm⟩ f hf; exact (List.mem_cons.1 hf).elim (fun h => by rw [h]; rfl) (hJw k m1 hm f)) ?_ ⟨m0, by rw [if_pos (Nat.zero_le _)], h0⟩ (s2.toFx.sub (List.sublist_append_left _ _)) ?_
  ·rw [show (#[.func (.yield (w.heap.size + 1)) #[] #[]] ++ lb.toArray : Array Value) = (.func (.yield (w.heap.size + 1)) #[] #[] :: lb).toArray by simp]
   refine (calls_FR hcall).mono ?_
   rintro e w3 ⟨v, m', rfl, ⟨m1, rfl, hJ⟩, hx⟩
   have s3 := s2.ret hx
   rcases Nat.lt_or_ge d N with hlt | hge
   ·rw [Nat.min_eq_left (by omega)] at hJ s3
    rw [if_neg (by omega)] at s3
    have s4 := s3.perm (M := .obj (w.heap.size + 1) (.loop { rec with state := .done, pending := some .ret }) :: ((Ai' ++ m1) ++ (.obj w.heap.size (.deferred (some [])) :: M))) (by
     simp only [List.append_assoc, List.cons_append]
     exact List.perm_middle)
    have ho : w3.heap[w.heap.size + 1]? = some (.loop { rec with state := .done, pending := some .ret }) := s4.ok (.obj _ _) (List.mem_cons_self ..)
    refine ⟨some .ret, w3.putObj (w.heap.size + 1) (.loop { { rec with state := .done, pending := some .ret } with state := .exhausted }), ?_, ?_⟩
    ·exact run_endLoop (P := P) ho (by simp)
    ·exact h_ret (hret _ m1 hlt hJ) _ _ ⟨ka.size, by show [_] ++ a.defers = _; rw [ka.defers]; rfl, ka.val⟩ (s4.putObj _).tail
   ·obtain rfl : d = N := by omega
    rw [Nat.min_eq_right (by omega)] at hJ s3
    rw [if_pos (Nat.le_refl _)] at s3
    have s4 := s3.perm (M := .obj (w.heap.size + 1) (.loop rec) :: ((Ai' ++ m1) ++ (.obj w.heap.size (.deferred (some [])) :: M))) (by
     simp only [List.append_assoc, List.cons_append]
     exact List.perm_middle)
    have ho : w3.heap[w.heap.size + 1]? = some (.loop rec) := s4.ok (.obj _ _) (List.mem_cons_self ..)
    refine ⟨none, w3.putObj (w.heap.size + 1) (.loop { rec with state := .exhausted }), ?_, ?_⟩
    ·have := run_endLoop (P := P) ho (by rw [hrec]; simp)
     have hpn : rec.pending = none := by rw [hrec]
     rw [this, hpn]
    ·exact hdone _ m1 rfl hJ _ _ ⟨ka.size, by show [_] ++ a.defers = _; rw [ka.defers]; rfl, ka.val⟩ (s4.putObj _).tail
  ·rintro k m hkN hkd ⟨m1, rfl, hJ⟩ w4 hf hR
   rw [if_pos hkd] at hf hR ⊢
   have ho : w4.heap[w.heap.size + 1]? = some (.loop rec) := hf.ok (.obj _ _) (List.mem_cons_self ..)
   have hy := run_yield (P := P) (args := (enc k).toArray) ho (by rw [hrec]; simpa using hen k)
   refine ⟨_, _, _, _, hy, ?_⟩
   have hk : Kn n [] E { tmps := a.tmps, defers := [] } := ⟨ka.size, rfl, ka.val⟩
   have hk2 := Kn.par ps (enc k) E a.tmps hps hk
   rcases Nat.lt_or_ge k d with hlt | hge
   ·have hh := hround (w.heap.size + 1) rec k m1 w4 (by rw [hrec]) (by rw [hrec]) hkN hlt hJ _ w4 hk2 (Sx.start hf hR)
    rw [hrec] at hh ⊢
    refine (roundIn_of_wpIn (F := Fence.wide) trivial (R := RoundOk (w.heap.size + 1) rec (J (k + 1)) m1 w4) ?_).mono ?_
    ·rw [hrec]
     simp only [List.zip_toArray, List.foldl_toArray]
     exact hh
    ·rintro e w5 ⟨rfl, m', hJ', hx⟩
     rw [← hrec]
     refine ⟨by rw [decide_eq_true hlt], _, ⟨m', ?_, hJ'⟩, hx⟩
     rw [if_pos (by omega)]
   ·obtain rfl : k = d := by omega
    have hh := hstop (w.heap.size + 1) rec m1 w4 (by rw [hrec]) (by rw [hrec]) hkN hJ _ w4 hk2 (Sx.start hf hR)
    rw [hrec] at hh ⊢
    refine (roundIn_of_wpIn (F := Fence.wide) trivial (R := RoundStop (w.heap.size + 1) rec (J (k + 1)) m1 w4) ?_).mono ?_
    ·rw [hrec]
     simp only [List.zip_toArray, List.foldl_toArray]
     exact hh
    ·rintro e w5 ⟨rfl, m', hJ', hx⟩
     rw [← hrec]
     refine ⟨by rw [decide_eq_false (Nat.lt_irrefl k)], _, ⟨m', ?_, hJ'⟩, hx⟩
     rw [if_neg (by omega)]
  ·refine s2.reads (M := .obj w.heap.size (.deferred (some [])) :: M) (List.Perm.refl _) ⟨fun hw r hrm => ?_⟩
   obtain ⟨h1, h2, h3⟩ := hr.ok hw.tail r hrm
   exact ⟨h1, h2, fun k hk => let ⟨f, hf, hfk⟩ := h3 k hk; ⟨f, List.mem_cons_of_mem _ hf, hfk⟩⟩
theorem iter_ofD {L1 LL : List Fa → List Fa → List Fa} {gf n : Nat} {fn : Func} {c : Code} {lb : List Value} {R Ai Ai' : List Fa} {N d : Nat} {enc : Nat → List Value} (hf : P.funcs[gf]? = some fn) (hb : fn.body = some c) (hn : fn.ntmps = n) (hl : Nat.ble (lb.length + 1) n = true) [hL1 : ∀ m0 Rm, App R (m0 ++ Rm) (L1 m0 Rm)] [hL2 : ∀ m0 Rm, App Ai (L1 m0 Rm) (LL m0 Rm)]
  (h : ∀ (l : Nat) (J : Nat → List Fa → Prop) (Rm m0 : List Fa) (W : World), (∀ k m, J k m → ∀ f ∈ m, f.wr = true) → (∀ r ∈ Rm, r.wr = false) → (∀ k m, k < N → k ≤ d → J k m → YAB P l (enc k) Rm m (decide (k < d)) (J (k + 1))) → J 0 m0 →
   H (Ai ++ m0) W n [] (argsEnv 0 (.func (.yield l) #[] #[] :: lb)) (LL m0 Rm) (c.wpIn (FR none) 0 P (bodyPostM (FR none) 0 P fn fun e w' => ∃ v m', e = .returned v ∧ J (min (d + 1) N) m' ∧ Rx (Ai ++ m0) W w' (Ai' ++ m')))) : IterD P gf lb R Ai N d enc Ai' := fun l J Rm m0 w hJw hy h0 hA hR => by
 have hl' : (Value.func (.yield l) #[] #[] :: lb).length ≤ n := by simpa using hl
 have hp : (Ai ++ m0 ++ (R ++ Rm)).Perm (Ai ++ (R ++ (m0 ++ Rm))) := by
  rw [List.append_assoc]
  refine List.Perm.append_left _ ?_
  rw [← List.append_assoc, ← List.append_assoc]
  exact List.Perm.append_right _ List.perm_append_comm
 have s := (Sx.start hA hR).perm hp
 rw [(hL1 m0 Rm).eq, (hL2 m0 Rm).eq] at s
 refine (callsIn_wide (n := 0)).1 (callsIn_of_wp_marks hf hb trivial (h l J Rm m0 w hJw (fun r hr => (hR r (List.mem_append_right _ hr)).1) hy h0 _ w ⟨?_, rfl, fun t u ht => ?_⟩ s))
 ·simp only [hn, Array.size_append, List.size_toArray, Array.size_replicate]
  omega
 ·obtain ⟨_, h2⟩ := argsEnv_look (.func (.yield l) #[] #[] :: lb) 0 t u ht
  have hlt : t < (Value.func (.yield l) #[] #[] :: lb).length := by
   obtain ⟨h3, _⟩ := List.getElem?_eq_some_iff.1 h2
   simpa using h3
  rw [Array.getElem?_append_left (by simpa using hlt)]
  simpa using h2
end
end Go.Proofs.YtjhocljhhpkiiaaGreatDoor
/- U142 -/
namespace Go.Proofs.YtjhocljhhpkiiaaGreatDoor
open Go.RowKit
class TakeA (X L : List Fa) (M : outParam (List Fa)) : Prop where
 perm : L.Perm (X ++ M)
instance iTakeA1 (X M : List Fa) : TakeA X (X ++ M) M := ⟨List.Perm.refl _⟩
instance (priority := 100) iTakeA2 (X : List Fa) (f : Fa) (L M : List Fa) [h : TakeA X L M] : TakeA X (f :: L) (f :: M) := ⟨(h.perm.cons f).trans List.perm_middle.symm⟩
section
variable {A : List Fa} {W : World} {n : Nat} {D : List Deferred} {E : Env} {K : Act → World → Prop}
theorem freezeSegs0 : ∀ (ys : List Seg) (h : Zh) (M : List Fa), (∀ x ∈ ys, ∃ g, x.1 = some ⟨g, 0, none⟩) → (∀ z', LeZ h z' → (∀ x ∈ ys, RdZ z' x.1 (bc x.2.2)) → H A W n D E (.zone true z' :: M) K) → H A W n D E (ownsOf ys ++ .zone true h :: M) K
 | [], h, M, _, k => k h (LeZ.refl h) (fun x hx => by cases hx)
 | y :: ys, h, M, hg, k => by
  obtain ⟨g, hy⟩ := hg y (List.mem_cons_self ..)
  show H A W n D E (Fa.own (sv y) y.2.2.length 5 1 (bc y.2.2) :: (ownsOf ys ++ .zone true h :: M)) K
  refine h_freezeO (sv y) (hz := ⟨List.perm_middle⟩) fun h' B c e _ _ _ hz hr => ?_
  have e1 : y.1 = B := by injection e
  refine fun a w ka s => freezeSegs0 ys h' M (fun x hx => hg x (List.mem_cons_of_mem _ hx)) (fun z' hz' hr' => k z' (hz.trans hz') fun x hx => (List.mem_cons.1 hx).elim (fun e => by rw [e, e1]; exact hr.mono hz') (hr' x)) a w ka (s.perm List.perm_middle.symm)
theorem h_freezeSegs (ys : List Seg) (ls : List (List UInt8)) (hy : SegsOk ys ls) {L M M' : List Fa} {h : Zh} [ht : TakeA (ownsOf ys) L M] [hz : TakeZ M h M'] (k : ∀ z', LeZ h z' → SegsZ z' ys ls → H A W n D E (.zone true z' :: M') K) : H A W n D E L K := fun a w ka s =>
 freezeSegs0 ys h M' hy.2 (fun z' hl hr => k z' hl ⟨hy.1, fun x hx => ⟨hy.2 x hx, hr x hx⟩⟩) a w ka (s.perm (ht.perm.trans (List.Perm.append_left _ hz.perm)))
end
theorem rSame_s (x y : List UInt8) (B B' : Option Addr) (c c' : Nat) (hl : x.length ≤ 1000000000) : Spec Tryz.prog 23 [.slice B x.length c, .slice B' y.length c'].toArray [.rd B (bc x), .rd B' (bc y)] [] (fun _ : Unit => .bool (decide (x = y))) (fun _ => []) := by
 refine spec_of Tryz.func23 rfl (n := 26) rfl rfl ?_
 intro W
 refine yR ?_
 refine yS rfl ?_
 refine yN ?_
 refine h_seq ?_
 refine yR ?_
 refine yM rfl ?_
 refine h_op (r_len rfl) ?_
 refine yM rfl ?_
 refine h_op (r_len rfl) ?_
 refine h_op (r_neq rfl rfl) ?_
 refine yN ?_
 by_cases hlen : x.length = y.length
 ·refine h_no rfl ((show ¬ ¬ ((x.length : Nat) : Int) = ((y.length : Nat) : Int) by omega)) ?_
  refine h_skip ?_
  refine q_then ?_
  refine h_seq ?_
  refine yR ?_
  refine yS rfl ?_
  refine yN ?_
  refine h_block ?_
  refine h_loop (fun (k : Nat) => k ≤ x.length ∧ x.take k = y.take k) (fun (k : Nat) => [(5, .int .i64 (k : Int)), (0, .slice B x.length c), (1, .slice B' y.length c')]) (fun (k : Nat) => [.rd B (bc x), .rd B' (bc y)]) (fun (k : Nat) => x.length - k) 0 (⟨Nat.zero_le _, rfl⟩) ⟨rfl, rfl, rfl, trivial⟩ (same) ?_
  rintro k ⟨hk, ht⟩
  refine h_seq ?_
  refine yR ?_
  refine yM rfl ?_
  refine yM rfl ?_
  refine h_op (r_len rfl) ?_
  refine h_op (r_lss rfl rfl) ?_
  refine yN ?_
  refine h_cond rfl (fun h => ?_) (fun h => ?_)
  ·have hk2 : k < x.length := by omega
   refine h_pure (φ := (∃ b o, B = some ⟨b, o, none⟩) ∧ ∃ b o, B' = some ⟨b, o, none⟩) (fun w s => ⟨Rd.some (s.ok (.rd B (bc x)) (by simp)) (by rw [bc_length]; omega), Rd.some (s.ok (.rd B' (bc y)) (by simp)) (by rw [bc_length]; omega)⟩) ?_
   rintro ⟨⟨b, o, rfl⟩, b', o', rfl⟩
   have hx := bc_at' (l := x) (i := k) hk2
   have hy := bc_at' (l := y) (i := k) (by omega)
   have ex : x[k]? = some (x.getD k 0) := by rw [List.getD_eq_getElem?_getD, List.getElem?_eq_getElem hk2]; rfl
   have ey : y[k]? = some (y.getD k 0) := by rw [List.getD_eq_getElem?_getD, List.getElem?_eq_getElem (by omega)]; rfl
   by_cases he : x.getD k 0 = y.getD k 0
   ·refine h_skip ?_
    refine q_then ?_
    refine h_seq ?_
    refine h_block ?_
    refine h_seq ?_
    refine ha_start [.rd (some ⟨b, o, none⟩) (bc x), .rd (some ⟨b', o', none⟩) (bc y)] [] mixed (same) ?_
    refine ha_takeP 0 rfl (r_move rfl) ?_
    refine ha_takeP 1 rfl (r_move rfl) ?_
    refine ha_takeP 2 rfl (r_idx rfl rfl) ?_
    refine ha_take 3 rfl (r_nth rfl hx) ?_
    refine ha_takeP 4 rfl (r_move rfl) ?_
    refine ha_takeP 5 rfl (r_move rfl) ?_
    refine ha_takeP 6 rfl (r_idx rfl rfl) ?_
    refine ha_take 7 rfl (r_nth rfl hy) ?_
    refine ha_takeP 8 rfl (r_bool (r_neq rfl rfl) (decide_eq_false (fun hh => hh (by rw [he])))) ?_
    refine ha_done (by kernel_rfl) ?_
    refine q_then ?_
    refine h_condF rfl ?_
    refine h_skip ?_
    refine q_block ?_
    refine q_then ?_
    refine h_reg ?_
    refine yM rfl ?_
    refine h_op (r_add rfl rfl) ?_
    refine yS rfl ?_
    refine h_nil ?_
    exact h_back (k + 1) (⟨hk2, by rw [List.take_add_one, List.take_add_one, ht, ex, ey, he]⟩) (by omega) ⟨rfl, rfl, rfl, trivial⟩ (same)
   ·have hne : ¬ x = y := fun h => he (by rw [h])
    rw [decide_eq_false hne]
    refine h_skip ?_
    refine q_then ?_
    refine h_seq ?_
    refine h_block ?_
    refine h_seq ?_
    refine ha_start [.rd (some ⟨b, o, none⟩) (bc x), .rd (some ⟨b', o', none⟩) (bc y)] [] mixed (same) ?_
    refine ha_takeP 0 rfl (r_move rfl) ?_
    refine ha_takeP 1 rfl (r_move rfl) ?_
    refine ha_takeP 2 rfl (r_idx rfl rfl) ?_
    refine ha_take 3 rfl (r_nth rfl hx) ?_
    refine ha_takeP 4 rfl (r_move rfl) ?_
    refine ha_takeP 5 rfl (r_move rfl) ?_
    refine ha_takeP 6 rfl (r_idx rfl rfl) ?_
    refine ha_take 7 rfl (r_nth rfl hy) ?_
    refine ha_takeP 8 rfl (r_bool (r_neq rfl rfl) (decide_eq_true (fun hh => he (UInt8.toNat_inj.1 (Int.ofNat.inj hh))))) ?_
    refine ha_done (by kernel_rfl) ?_
    refine q_then ?_
    refine h_condT rfl ?_
    refine yR ?_
    refine yS rfl ?_
    refine yN ?_
    refine h_ret ?_
    refine q_blockR ?_
    refine q_thenR ?_
    refine q_thenR ?_
    refine q_blockR ?_
    refine q_thenR ?_
    exact h_ret1 rfl rfl fun w s => ⟨(), rfl, s.res (List.nil_sublist _) (by simp)⟩
  ·obtain rfl : k = x.length := by omega
   rw [List.take_length, hlen, List.take_length] at ht
   rw [decide_eq_true ht]
   refine h_exit ?_
   refine q_thenE ?_
   refine q_thenE ?_
   refine q_blockE ?_
   refine q_then ?_
   refine yR ?_
   refine yS rfl ?_
   refine yN ?_
   refine h_ret ?_
   exact h_ret1 rfl rfl fun w s => ⟨(), rfl, s.res (List.nil_sublist _) (by simp)⟩
 ·rw [decide_eq_false (show ¬ x = y from fun h => hlen (congrArg List.length h))]
  refine h_yes rfl ((show ¬ ((x.length : Nat) : Int) = ((y.length : Nat) : Int) by omega)) ?_
  refine yR ?_
  refine yS rfl ?_
  refine yN ?_
  refine h_ret ?_
  refine q_thenR ?_
  exact h_ret1 rfl rfl fun w s => ⟨(), rfl, s.res (List.nil_sublist _) (by simp)⟩
abbrev zSeg : Seg := (none, 0, [])
theorem svs_at' {xs : List Seg} {k : Nat} (h : k < xs.length) : (svs xs)[k]? = some (sv (xs.getD k zSeg)) := by
 unfold svs
 rw [List.getElem?_map, List.getD_eq_getElem?_getD, List.getElem?_eq_getElem h]
 rfl
theorem svs_length (xs : List Seg) : (svs xs).length = xs.length := by simp [svs]
theorem pairs_s (X Y : Option Addr) (nx ny cx cy : Nat) : Spec Tryz.prog 142 [.slice X nx cx, .slice Y ny cy].toArray [] [] (fun u : Nat × Nat => .func (.func 193) #[] [.pointer (some ⟨u.1, 0, none⟩), .pointer (some ⟨u.2, 0, none⟩)].toArray) (fun u => [.blk u.1 [.slice X nx cx] 38, .blk u.2 [.slice Y ny cy] 38]) := by
 refine spec_of Tryz.func142 rfl (n := 6) rfl rfl ?_
 intro W
 refine yR ?_
 refine h_opX (x_box1 rfl) fun g2 => ?_
 refine h_opX (x_box1 rfl) fun g3 => ?_
 refine yS rfl ?_
 refine yN ?_
 refine yR ?_
 refine h_op (r_func rfl rfl) ?_
 refine yS rfl ?_
 refine yN ?_
 refine h_ret ?_
 exact h_ret1 rfl rfl fun w s => ⟨(g2, g3), rfl, (same w s).res (List.Sublist.refl _) (by simp [Fa.wr])⟩
theorem pairs_it (xs ys : List Seg) (X Y : Option Addr) (cx cy g1 g2 d : Nat) (hxl : xs.length ≤ 1000000) (hyl : ys.length ≤ 1000000) (hd : d ≤ min xs.length ys.length) : IterD Tryz.prog 193 [.pointer (some ⟨g1, 0, none⟩), .pointer (some ⟨g2, 0, none⟩)] [.rd (some ⟨g1, 0, none⟩) [.slice X xs.length cx], .rd (some ⟨g2, 0, none⟩) [.slice Y ys.length cy], .rd X (svs xs), .rd Y (svs ys)] [] (min xs.length ys.length) d (fun k => [sv (xs.getD k zSeg), sv (ys.getD k zSeg)]) [] := by
 refine iter_ofD Tryz.func193 rfl (n := 29) rfl rfl ?_
 intro l J Rm m0 W hJw hRm hy h0
 refine yR ?_
 refine yS rfl ?_
 refine yN ?_
 refine h_block ?_
 refine h_loop (fun (s : Nat × List Fa) => s.1 ≤ d ∧ J s.1 s.2) (fun (s : Nat × List Fa) => [(4, .int .i64 (s.1 : Int)), (0, .func (.yield l) #[] #[]), (1, .pointer (some ⟨g1, 0, none⟩)), (2, .pointer (some ⟨g2, 0, none⟩))]) (fun (s : Nat × List Fa) => .rd (some ⟨g1, 0, none⟩) [.slice X xs.length cx] :: .rd (some ⟨g2, 0, none⟩) [.slice Y ys.length cy] :: .rd X (svs xs) :: .rd Y (svs ys) :: (s.2 ++ Rm)) (fun (s : Nat × List Fa) => d + 1 - s.1) (0, m0) ((show 0 ≤ d ∧ J 0 m0 from ⟨Nat.zero_le _, h0⟩)) ⟨rfl, rfl, rfl, rfl, trivial⟩ (fun _ s => s) ?_
 rintro ⟨k, mm⟩ ⟨hk, hJ⟩
 dsimp only at hk hJ ⊢
 refine h_seq ?_
 refine h_seq ?_
 by_cases hN : k < min xs.length ys.length
 ·refine h_pure (φ := (∃ b o, X = some ⟨b, o, none⟩) ∧ ∃ b o, Y = some ⟨b, o, none⟩) (fun w s => ⟨Rd.some (s.ok (.rd X (svs xs)) (by simp)) (by rw [svs_length]; omega), Rd.some (s.ok (.rd Y (svs ys)) (by simp)) (by rw [svs_length]; omega)⟩) ?_
  rintro ⟨⟨b, o, rfl⟩, b', o', rfl⟩
  have hx := svs_at' (xs := xs) (k := k) (by omega)
  have hy' := svs_at' (xs := ys) (k := k) (by omega)
  have hyk := hy k mm hN hk hJ
  by_cases hkd : k < d
  ·rw [decide_eq_true hkd] at hyk
   refine ha_start [.rd (some ⟨g1, 0, none⟩) [.slice (some ⟨b, o, none⟩) xs.length cx], .rd (some ⟨g2, 0, none⟩) [.slice (some ⟨b', o', none⟩) ys.length cy], .rd (some ⟨b, o, none⟩) (svs xs), .rd (some ⟨b', o', none⟩) (svs ys)] [] mixed (same) ?_
   refine ha_takeP 0 rfl (r_move rfl) ?_
   refine ha_take 1 rfl (r_loadc rfl) ?_
   refine ha_takeP 2 rfl (r_len rfl) ?_
   refine ha_takeP 3 rfl (r_bool (r_lss rfl rfl) (decide_eq_true (by omega))) ?_
   refine ha_takeP 4 rfl (r_move rfl) ?_
   refine ha_takeP 5 rfl (r_move rfl) ?_
   refine ha_take 6 rfl (r_loadc rfl) ?_
   refine ha_takeP 7 rfl (r_len rfl) ?_
   refine ha_takeP 8 rfl (r_bool (r_lss rfl rfl) (decide_eq_true (by omega))) ?_
   refine ha_takeP 9 rfl (r_pick rfl rfl) ?_
   refine ha_takeP 10 rfl (r_move rfl) ?_
   refine ha_takeP 11 rfl (r_move rfl) ?_
   refine ha_take 12 rfl (r_loadc rfl) ?_
   refine ha_takeP 13 rfl (r_move rfl) ?_
   refine ha_takeP 14 rfl (r_idx rfl rfl) ?_
   refine ha_take 15 rfl (r_nth rfl hx) ?_
   refine ha_take 16 rfl (r_loadc rfl) ?_
   refine ha_takeP 17 rfl (r_move rfl) ?_
   refine ha_takeP 18 rfl (r_idx rfl rfl) ?_
   refine ha_take 19 rfl (r_nth rfl hy') ?_
   refine ha_one 20 ?_
   refine ho_Y 20 rfl (hyk) hRm rfl rfl (fun xx => same) fun m' hJ' => ?_
   refine ha_takeP 21 rfl (r_pick rfl rfl) ?_
   refine ha_done (by kernel_rfl) ?_
   refine q_then ?_
   refine h_condT rfl ?_
   refine h_skip ?_
   refine q_then ?_
   refine h_seq ?_
   refine h_block ?_
   refine h_skip ?_
   refine q_block ?_
   refine q_then ?_
   refine h_reg ?_
   refine yM rfl ?_
   refine h_op (r_add rfl rfl) ?_
   refine yS rfl ?_
   refine h_nil ?_
   exact h_back (k + 1, m') ((show k + 1 ≤ d ∧ J (k + 1) m' from ⟨hkd, hJ'⟩)) ((show d + 1 - (k + 1) < d + 1 - k by omega)) ⟨rfl, rfl, rfl, rfl, trivial⟩ (fun _ s => s)
  ·obtain rfl : k = d := by omega
   rw [decide_eq_false (Nat.lt_irrefl k)] at hyk
   refine ha_start [.rd (some ⟨g1, 0, none⟩) [.slice (some ⟨b, o, none⟩) xs.length cx], .rd (some ⟨g2, 0, none⟩) [.slice (some ⟨b', o', none⟩) ys.length cy], .rd (some ⟨b, o, none⟩) (svs xs), .rd (some ⟨b', o', none⟩) (svs ys)] [] mixed (same) ?_
   refine ha_takeP 0 rfl (r_move rfl) ?_
   refine ha_take 1 rfl (r_loadc rfl) ?_
   refine ha_takeP 2 rfl (r_len rfl) ?_
   refine ha_takeP 3 rfl (r_bool (r_lss rfl rfl) (decide_eq_true (by omega))) ?_
   refine ha_takeP 4 rfl (r_move rfl) ?_
   refine ha_takeP 5 rfl (r_move rfl) ?_
   refine ha_take 6 rfl (r_loadc rfl) ?_
   refine ha_takeP 7 rfl (r_len rfl) ?_
   refine ha_takeP 8 rfl (r_bool (r_lss rfl rfl) (decide_eq_true (by omega))) ?_
   refine ha_takeP 9 rfl (r_pick rfl rfl) ?_
   refine ha_takeP 10 rfl (r_move rfl) ?_
   refine ha_takeP 11 rfl (r_move rfl) ?_
   refine ha_take 12 rfl (r_loadc rfl) ?_
   refine ha_takeP 13 rfl (r_move rfl) ?_
   refine ha_takeP 14 rfl (r_idx rfl rfl) ?_
   refine ha_take 15 rfl (r_nth rfl hx) ?_
   refine ha_take 16 rfl (r_loadc rfl) ?_
   refine ha_takeP 17 rfl (r_move rfl) ?_
   refine ha_takeP 18 rfl (r_idx rfl rfl) ?_
   refine ha_take 19 rfl (r_nth rfl hy') ?_
   refine ha_one 20 ?_
   refine ho_Y 20 rfl (hyk) hRm rfl rfl (fun xx => same) fun m' hJ' => ?_
   refine ha_takeP 21 rfl (r_pick rfl rfl) ?_
   refine ha_done (by kernel_rfl) ?_
   refine q_then ?_
   refine h_condF rfl ?_
   refine h_exit ?_
   refine q_thenE ?_
   refine q_thenE ?_
   refine q_blockE ?_
   refine h_end ?_
   exact h_ret0 rfl fun w s => ⟨_, m', rfl, by rw [Nat.min_eq_left (by omega)]; exact hJ', s.res (((((List.sublist_append_left _ _).cons _).cons _).cons _).cons _) (hJw _ _ hJ')⟩
 ·obtain rfl : k = d := by omega
  have hke : k = min xs.length ys.length := by omega
  have hfin : J (min (k + 1) (min xs.length ys.length)) mm := by rw [Nat.min_eq_right (by omega), ← hke]; exact hJ
  by_cases hx : k < xs.length
  ·refine ha_start [.rd (some ⟨g1, 0, none⟩) [.slice X xs.length cx], .rd (some ⟨g2, 0, none⟩) [.slice Y ys.length cy]] [] mixed (same) ?_
   refine ha_takeP 0 rfl (r_move rfl) ?_
   refine ha_take 1 rfl (r_loadc rfl) ?_
   refine ha_takeP 2 rfl (r_len rfl) ?_
   refine ha_takeP 3 rfl (r_bool (r_lss rfl rfl) (decide_eq_true (by omega))) ?_
   refine ha_takeP 4 rfl (r_move rfl) ?_
   refine ha_takeP 5 rfl (r_move rfl) ?_
   refine ha_take 6 rfl (r_loadc rfl) ?_
   refine ha_takeP 7 rfl (r_len rfl) ?_
   refine ha_takeP 8 rfl (r_bool (r_lss rfl rfl) (decide_eq_false (by omega))) ?_
   refine ha_takeP 9 rfl (r_pick rfl rfl) ?_
   refine ha_takeP 10 rfl (r_move rfl) ?_
   refine ha_off 11 rfl ?_
   refine ha_off 12 rfl ?_
   refine ha_off 13 rfl ?_
   refine ha_off 14 rfl ?_
   refine ha_off 15 rfl ?_
   refine ha_off 16 rfl ?_
   refine ha_off 17 rfl ?_
   refine ha_off 18 rfl ?_
   refine ha_off 19 rfl ?_
   refine ha_off 20 rfl ?_
   refine ha_takeP 21 rfl (r_pick rfl rfl) ?_
   refine ha_done (by kernel_rfl) ?_
   refine q_then ?_
   refine h_condF rfl ?_
   refine h_exit ?_
   refine q_thenE ?_
   refine q_thenE ?_
   refine q_blockE ?_
   refine h_end ?_
   exact h_ret0 rfl fun w s => ⟨_, mm, rfl, hfin, s.res (((((List.sublist_append_left _ _).cons _).cons _).cons _).cons _) (hJw _ _ hJ)⟩
  ·refine ha_start [.rd (some ⟨g1, 0, none⟩) [.slice X xs.length cx], .rd (some ⟨g2, 0, none⟩) [.slice Y ys.length cy]] [] mixed (same) ?_
   refine ha_takeP 0 rfl (r_move rfl) ?_
   refine ha_take 1 rfl (r_loadc rfl) ?_
   refine ha_takeP 2 rfl (r_len rfl) ?_
   refine ha_takeP 3 rfl (r_bool (r_lss rfl rfl) (decide_eq_false (by omega))) ?_
   refine ha_takeP 4 rfl (r_move rfl) ?_
   refine ha_off 5 rfl ?_
   refine ha_off 6 rfl ?_
   refine ha_off 7 rfl ?_
   refine ha_off 8 rfl ?_
   refine ha_takeP 9 rfl (r_pick rfl rfl) ?_
   refine ha_takeP 10 rfl (r_move rfl) ?_
   refine ha_off 11 rfl ?_
   refine ha_off 12 rfl ?_
   refine ha_off 13 rfl ?_
   refine ha_off 14 rfl ?_
   refine ha_off 15 rfl ?_
   refine ha_off 16 rfl ?_
   refine ha_off 17 rfl ?_
   refine ha_off 18 rfl ?_
   refine ha_off 19 rfl ?_
   refine ha_off 20 rfl ?_
   refine ha_takeP 21 rfl (r_pick rfl rfl) ?_
   refine ha_done (by kernel_rfl) ?_
   refine q_then ?_
   refine h_condF rfl ?_
   refine h_exit ?_
   refine q_thenE ?_
   refine q_thenE ?_
   refine q_blockE ?_
   refine h_end ?_
   exact h_ret0 rfl fun w s => ⟨_, mm, rfl, hfin, s.res (((((List.sublist_append_left _ _).cons _).cons _).cons _).cons _) (hJw _ _ hJ)⟩
end Go.Proofs.YtjhocljhhpkiiaaGreatDoor
/- E33 -/
namespace Go.Proofs.YtjhocljhhpkiiaaGreatDoor
open Go.RowKit
def difI : List (List UInt8) → List (List UInt8) → Nat
 | x :: xs, y :: ys => if x = y then difI xs ys + 1 else 0
 | _, _ => 0
theorem difI_le : ∀ xs ys, difI xs ys ≤ min xs.length ys.length
 | [], ys => by simp [difI]
 | x :: xs, [] => by simp [difI]
 | x :: xs, y :: ys => by
  have ih := difI_le xs ys
  unfold difI
  split
  ·simp only [List.length_cons]; omega
  ·omega
theorem difI_eq : ∀ xs ys k, k < difI xs ys → xs.getD k [] = ys.getD k []
 | [], ys, k, h => by simp [difI] at h
 | x :: xs, [], k, h => by simp [difI] at h
 | x :: xs, y :: ys, k, h => by
  unfold difI at h
  split at h
  ·rename_i e
   cases k with
   | zero => simpa using e
   | succ k => simpa using difI_eq xs ys k (by omega)
  ·omega
theorem difI_ne : ∀ xs ys, difI xs ys < min xs.length ys.length → xs.getD (difI xs ys) [] ≠ ys.getD (difI xs ys) []
 | [], ys, h => by simp at h
 | x :: xs, [], h => by simp at h
 | x :: xs, y :: ys, h => by
  unfold difI at h ⊢
  split at h
  ·rename_i e
   rw [if_pos e]
   have := difI_ne xs ys (by simp only [List.length_cons] at h; omega)
   simpa using this
  ·rename_i e
   rw [if_neg e]
   simpa using e
def findP (ws ls : List (List UInt8)) (a b : List UInt8) : List UInt8 × List UInt8 := if difI ws ls < min ws.length ls.length then (ws.getD (difI ws ls) [], ls.getD (difI ws ls) []) else (a, b)
end Go.Proofs.YtjhocljhhpkiiaaGreatDoor
