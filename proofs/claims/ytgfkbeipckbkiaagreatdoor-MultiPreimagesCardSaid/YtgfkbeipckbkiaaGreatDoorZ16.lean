/- multi.Preimages; law19: MultiPreimages is true (joined texts: U80 U84) -/
import Derived.Test.YtgfkbeipckbkiaaGreatDoorZ15
set_option linter.all false
/- U80 -/
namespace Go.Proofs.YtgfkbeipckbkiaaGreatDoor
set_option linter.unusedSimpArgs false
set_option linter.unusedVariables false
open Go.RowKit
/-- rows of bytes in the zone -/
def SegsZ (h : Zh) (xs : List Seg) (ls : List (List UInt8)) : Prop := xs.map (fun x => x.2.2) = ls ∧ ∀ x ∈ xs, (∃ g, x.1 = some ⟨g, 0, none⟩) ∧ RdZ h x.1 (bc x.2.2)
theorem SegsZ.len {h : Zh} {xs : List Seg} {ls : List (List UInt8)} (x : SegsZ h xs ls) : xs.length = ls.length := by rw [← x.1, List.length_map]
theorem SegsZ.snoc {h h' : Zh} (hl : LeZ h h') {xs : List Seg} {ls : List (List UInt8)} (x : SegsZ h xs ls) {g c : Nat} {b : List UInt8} (hr : RdZ h' (some ⟨g, 0, none⟩) (bc b)) : SegsZ h' (xs ++ [(some ⟨g, 0, none⟩, c, b)]) (ls ++ [b]) := by
  refine ⟨by rw [List.map_append, x.1]; rfl, fun y hy => ?_⟩
  rcases List.mem_append.1 hy with hy | hy
  · exact ⟨(x.2 y hy).1, (x.2 y hy).2.mono hl⟩
  · rw [List.mem_singleton.1 hy]
    exact ⟨⟨g, rfl⟩, hr⟩
theorem svs_app1 (xs : List Seg) (x : Seg) : svs xs ++ [sv x] = svs (xs ++ [x]) := by simp [svs]
def Sub.pres (n : Nat) (key : B32) (t : Sub) (d : Nat) : List (List UInt8) := (t.ways key d).map (preS n)
theorem pres_one (n : Nat) (key : B32) (x : Item) (d : Nat) : (Sub.one x).pres n key d = [preI x] := rfl
theorem pres_two (n : Nat) (key : B32) (l r : Sub) (d : Nat) : (Sub.two l r).pres n key d = preN (dgS n l) (dgS n r) :: if bitAt key d then r.pres n key (d + 1) else l.pres n key (d + 1) := by
  unfold Sub.pres
  rw [Sub.ways]
  cases bitAt key d <;> rfl
theorem pres_len (n : Nat) (key : B32) (t : Sub) (d i : Nat) : (t.pres n key d).length = (t.way key d i).length := by unfold Sub.pres; rw [List.length_map, ways_len]
section
variable (h : Zh) [hT : RdZ h (some ⟨2, 0, none⟩) hashT] (n : Nat) (hn : n ≤ 256) (gh gc k : Nat) (hk : k ≤ 1000000000) (l : List Item) (A : Option Addr) (c : Nat) [hr : RdZ h A (its l)] (hc : l.length ≤ c) (hl : l.length ≤ 1000000) (key : B32)
include hc hl
omit hT in
theorem mPre_bad (e : Int) (hp : parseM l = .error e) (he : e ≠ 0) : Spec Tryz.prog 28 [.pointer (some ⟨gh, 0, none⟩), .slice A l.length c, .agg key.cells.toArray].toArray [.zone false h] [] (fun _ : Unit => .tuple #[.slice none 0 0, .int .i64 e]) (fun _ => []) := by
  have hP := parse_s h l A c hc hl
  rw [hp] at hP
  refine spec_of Tryz.func28 rfl (n := 51) rfl rfl ?_
  intro W
  refine h_seq ?_
  refine h_reg ?_
  refine h_opX (x_box rfl) fun g5 => ?_
  refine h_op (r_assign rfl) ?_
  refine h_op (r_assign rfl) ?_
  refine h_nil ?_
  refine q_then ?_
  refine h_seq ?_
  refine h_reg ?_
  refine h_op (r_move rfl) ?_
  refine h_call (hP.comes) rfl rfl rfl fun _ => ?_
  refine h_op (r_move rfl) ?_
  refine h_op (r_extract rfl rfl) ?_
  refine h_op (r_extract rfl rfl) ?_
  refine h_op (r_assign rfl) ?_
  refine h_op (r_assign rfl) ?_
  refine h_nil ?_
  refine q_then ?_
  refine h_seq ?_
  refine h_seq ?_
  refine h_reg ?_
  refine h_op (r_move rfl) ?_
  refine h_op (r_neq rfl rfl) ?_
  refine h_nil ?_
  refine q_then ?_
  refine h_yes rfl (he) ?_
  refine h_seq ?_
  refine h_reg ?_
  refine h_op (r_move rfl) ?_
  refine h_op (r_assign rfl) ?_
  refine h_op (r_assign rfl) ?_
  refine h_nil ?_
  refine q_then ?_
  refine h_ret ?_
  refine q_thenR ?_
  exact h_ret2 rfl rfl rfl fun w s => ⟨(), rfl, s.res (List.nil_sublist _) (by simp)⟩
include hn hk
theorem mPre_s (t : Sub) (hp : parseM l = .ok t) (b : Bool) (hb : ((t.endI key 0).1.kind == 3) = b) : Spec Tryz.prog 28 [.pointer (some ⟨gh, 0, none⟩), .slice A l.length c, .agg key.cells.toArray].toArray [HR gh gc n] [.zone true h, CN gc k] (fun u : {x : Zh × Nat × Nat × List Seg × Nat // LeZ h x.1 ∧ (b = false → SegsZ x.1 x.2.2.2.1 (t.pres n key 0))} => .tuple (if b then #[.slice none 0 0, .int .i64 12] else #[.slice (some ⟨u.1.2.1, 0, none⟩) (t.pres n key 0).length u.1.2.2.1, .int .i64 0])) (fun u => .zone true u.1.1 :: CN gc u.1.2.2.2.2 :: if b then [] else [.own (.slice (some ⟨u.1.2.1, 0, none⟩) (t.pres n key 0).length u.1.2.2.1) (t.pres n key 0).length 66 1 (svs u.1.2.2.2.1)]) := by
  have hP := parse_s h l A c hc hl
  rw [hp] at hP
  have hco := readM_cost 256 l t [] (parse_ok hp).1
  have hco2 : t.cost ≤ 1000000 := by rw [List.length_nil] at hco; omega
  have hht := (parse_flat hp).2.2
  have hV := hp
  refine spec_of Tryz.func28 rfl (n := 51) rfl rfl ?_
  intro W
  refine h_seq ?_
  refine h_reg ?_
  refine h_opX (x_box rfl) fun g5 => ?_
  refine h_op (r_assign rfl) ?_
  refine h_op (r_assign rfl) ?_
  refine h_nil ?_
  refine q_then ?_
  refine h_seq ?_
  refine h_reg ?_
  refine h_op (r_move rfl) ?_
  refine h_call (hP.comes) rfl rfl rfl fun _ => ?_
  refine h_op (r_move rfl) ?_
  refine h_op (r_extract rfl rfl) ?_
  refine h_op (r_extract rfl rfl) ?_
  refine h_op (r_assign rfl) ?_
  refine h_op (r_assign rfl) ?_
  refine h_nil ?_
  refine q_then ?_
  refine h_seq ?_
  refine h_seq ?_
  refine h_reg ?_
  refine h_op (r_move rfl) ?_
  refine h_op (r_neq rfl rfl) ?_
  refine h_nil ?_
  refine q_then ?_
  refine h_no rfl ((fun h => h rfl)) ?_
  refine h_skip ?_
  refine q_then ?_
  refine h_seq ?_
  refine h_reg ?_
  refine h_op (r_assign rfl) ?_
  refine h_nil ?_
  refine q_then ?_
  refine h_seq ?_
  refine h_reg ?_
  refine h_op (r_assign rfl) ?_
  refine h_nil ?_
  refine q_then ?_
  refine h_block ?_
  refine h_nil_own 66 1 (xs := svs ([] : List Seg)) rfl ?_
  refine h_loop (fun (s : Sub × Nat × Zh × List Seg × Option Addr × Nat × Nat) => LeZ h s.2.2.1 ∧ SegsZ s.2.2.1 s.2.2.2.1 (s.2.2.2.1.map fun x => x.2.2) ∧ t.pres n key 0 = (s.2.2.2.1.map fun x => x.2.2) ++ s.1.pres n key s.2.1 ∧ t.endI key 0 = s.1.endI key s.2.1 ∧ s.2.1 + s.1.ht ≤ 256 ∧ s.1.cost ≤ 1000000 ∧ s.2.2.2.2.2.2 ≤ k + s.2.1 * 1000000 ∧ s.2.2.2.1.length = s.2.1) (fun (s : Sub × Nat × Zh × List Seg × Option Addr × Nat × Nat) => [(0, .pointer (some ⟨gh, 0, none⟩)), (5, .pointer (some ⟨g5, 0, none⟩)), (8, .iface s.1.tag s.1.val), (10, .slice s.2.2.2.2.1 s.2.2.2.1.length s.2.2.2.2.2.1), (11, .int .i64 (s.2.1 : Int))]) (fun (s : Sub × Nat × Zh × List Seg × Option Addr × Nat × Nat) => [.zone true s.2.2.1, .own (.slice s.2.2.2.2.1 s.2.2.2.1.length s.2.2.2.2.2.1) s.2.2.2.1.length 66 1 (svs s.2.2.2.1), CN gc s.2.2.2.2.2.2, .blk g5 key.cells 39, HR gh gc n]) (fun (s : Sub × Nat × Zh × List Seg × Option Addr × Nat × Nat) => s.1.sz) (t, 0, h, [], none, 0, k) (⟨LeZ.refl h, ⟨rfl, fun x hx => by cases hx⟩, rfl, rfl, by dsimp only; omega, hco2, by dsimp only; omega, rfl⟩) ⟨rfl, rfl, rfl, rfl, rfl, trivial⟩ (same) ?_
  rintro ⟨s, d, z, xs, B, c', k'⟩ ⟨hle, hsz, hpr, hen, hd, hcs, hkk, hxl⟩
  dsimp only at hle hsz hpr hen hd hcs hkk hxl ⊢
  have hTz : RdZ z (some ⟨2, 0, none⟩) hashT := hT.mono hle
  rcases s with x | ⟨s1, s2⟩
  · rw [pres_one] at hpr
    have hen' : t.endI key 0 = (x, d) := hen
    change H _ _ _ _ ([(0, _), (5, _), (8, .iface 146 (.agg x.cells.toArray)), (10, _), (11, _)]) _ _
    refine h_seq ?_
    refine h_block ?_
    refine h_seq ?_
    refine h_reg ?_
    refine h_op (r_move rfl) ?_
    refine h_nil ?_
    refine q_then ?_
    refine h_block ?_
    refine h_seq ?_
    refine h_reg ?_
    refine h_op (r_as2n rfl) ?_
    refine h_op (r_extract rfl rfl) ?_
    refine h_op (r_extract rfl rfl) ?_
    refine h_nil ?_
    refine q_then ?_
    refine h_condF rfl ?_
    refine h_seq ?_
    refine h_reg ?_
    refine h_op (r_as2 rfl) ?_
    refine h_op (r_extract rfl rfl) ?_
    refine h_op (r_extract rfl rfl) ?_
    refine h_nil ?_
    refine q_then ?_
    refine h_condT rfl ?_
    refine h_seq ?_
    refine h_reg ?_
    refine h_opX (x_alloc) fun g13 => ?_
    refine h_opS (s_storer rfl rfl) ?_
    refine h_nil ?_
    refine q_then ?_
    refine h_seq ?_
    refine h_seq ?_
    refine h_reg ?_
    refine h_op (r_field rfl) ?_
    refine h_op (r_field rfl) ?_
    refine h_op (r_loadc rfl) ?_
    refine h_op (r_eql rfl rfl) ?_
    refine h_nil ?_
    refine q_then ?_
    by_cases h3 : x.kind = 3
    · obtain rfl : b = true := by rw [← hb, hen']; simp [h3]
      refine h_yes rfl (h3) ?_
      refine h_seq ?_
      refine h_reg ?_
      refine h_op (r_assign rfl) ?_
      refine h_op (r_assign rfl) ?_
      refine h_nil ?_
      refine q_then ?_
      refine h_ret ?_
      refine q_thenR ?_
      refine q_blockR ?_
      refine q_blockR ?_
      refine q_thenR ?_
      refine q_thenR ?_
      refine q_blockR ?_
      exact h_ret2 rfl rfl rfl fun w s => ⟨⟨(z, 0, 0, [], k'), hle, fun h => by cases h⟩, rfl, (same (L' := [.zone true z, CN gc k']) w s).res (List.Sublist.refl _) (by simp [Fa.wr])⟩
    · obtain rfl : b = false := by rw [← hb, hen']; simp [h3]
      have hpl : (t.pres n key 0).length = xs.length + 1 := by rw [hpr, List.length_append, List.length_map]; rfl
      refine h_no rfl (h3) ?_
      refine h_skip ?_
      refine q_then ?_
      refine h_seq ?_
      refine h_reg ?_
      refine h_op (r_move rfl) ?_
      refine h_op (r_loadr rfl) ?_
      refine h_call ((epre_s x).comes) rfl rfl rfl fun ⟨g48, c48⟩ => ?_
      refine h_opX (x_bsl rfl rfl) fun g49 => ?_
      refine h_opX (x_app rfl rfl (k := 1)) fun ⟨g50, c50⟩ => ?_
      refine h_op (r_assign rfl) ?_
      refine h_op (r_assign rfl) ?_
      refine h_nil ?_
      refine q_then ?_
      refine h_ret ?_
      refine q_blockR ?_
      refine q_blockR ?_
      refine q_thenR ?_
      refine q_thenR ?_
      refine q_blockR ?_
      dsimp only
      rw [← hpl]
      change H _ _ _ _ _ (.own _ _ _ _ (svs xs ++ [sv (some ⟨g48, 0, none⟩, c48, preI x)]) :: _) _
      rw [svs_app1]
      refine h_freezeO (.slice (some ⟨g48, 0, none⟩) (preI x).length c48) fun z2 B2 c2 e2 hle2 hlen2 hnil2 hz2 hr2 => ?_
      injection e2 with e2 _ e3
      subst e2 e3
      exact h_ret2 rfl rfl rfl fun w s => ⟨⟨(z2, g50, c50, xs ++ [(some ⟨g48, 0, none⟩, c48, preI x)], k'), hle.trans hz2, fun _ => by rw [hpr]; exact hsz.snoc hz2 hr2⟩, rfl, (same (L' := [.zone true z2, CN gc k', .own (.slice (some ⟨g50, 0, none⟩) (t.pres n key 0).length c50) (t.pres n key 0).length 66 1 (svs (xs ++ [(some ⟨g48, 0, none⟩, c48, preI x)]))]) w s).res (List.Sublist.refl _) (by simp [Fa.wr])⟩
  · have hht2 : d + (max s1.ht s2.ht + 1) ≤ 256 := hd
    have hcs2 : s1.cost + s2.cost + 1 ≤ 1000000 := hcs
    have hd3 : d * 1000000 ≤ 256 * 1000000 := Nat.mul_le_mul_right _ (by omega)
    have hPP := ppre_s n gh gc s1 s2 (dig_s n hn gh gc s1) (dig_s n hn gh gc s2) k' (by omega)
    rw [pres_two] at hpr
    replace hen : t.endI key 0 = if bitAt key d then s2.endI key (d + 1) else s1.endI key (d + 1) := hen
    have hB := Bit_s key d (by omega)
    have hq1 := s1.sz_pos
    have hq2 := s2.sz_pos
    change H _ _ _ _ ([(0, _), (5, _), (8, .iface 142 (.agg [.iface s1.tag s1.val, .iface s2.tag s2.val].toArray)), (10, _), (11, _)]) _ _
    rw [show (Sub.two s1 s2).val = .agg [.iface s1.tag s1.val, .iface s2.tag s2.val].toArray from rfl] at hPP
    refine h_seq ?_
    refine h_block ?_
    refine h_seq ?_
    refine h_reg ?_
    refine h_op (r_move rfl) ?_
    refine h_nil ?_
    refine q_then ?_
    refine h_block ?_
    refine h_seq ?_
    refine h_reg ?_
    refine h_op (r_as2 rfl) ?_
    refine h_op (r_extract rfl rfl) ?_
    refine h_op (r_extract rfl rfl) ?_
    refine h_nil ?_
    refine q_then ?_
    refine h_condT rfl ?_
    refine h_seq ?_
    refine h_reg ?_
    refine h_opX (x_alloc) fun g12 => ?_
    refine h_opS (s_storer rfl rfl) ?_
    refine h_nil ?_
    refine q_then ?_
    refine h_seq ?_
    refine h_reg ?_
    refine h_op (r_move rfl) ?_
    refine h_op (r_loadr rfl) ?_
    refine h_op (r_move rfl) ?_
    refine h_call (hPP.comes) rfl rfl rfl fun ⟨g31, c31⟩ => ?_
    refine h_opX (x_bsl rfl rfl) fun g32 => ?_
    refine h_opX (x_app rfl rfl (k := 1)) fun ⟨g33, c33⟩ => ?_
    refine h_op (r_assign rfl) ?_
    refine h_nil ?_
    refine q_then ?_
    dsimp only
    change H _ _ _ _ _ (.own _ _ _ _ (svs xs ++ [sv (some ⟨g31, 0, none⟩, c31, preN (dgS n s1) (dgS n s2))]) :: _) _
    rw [svs_app1]
    refine h_freezeO (.slice (some ⟨g31, 0, none⟩) (preN (dgS n s1) (dgS n s2)).length c31) fun z2 B2 c2 e2 hle2 hlen2 hnil2 hz2 hr2 => ?_
    injection e2 with e2 _ e3
    subst e2 e3
    have hlx : xs.length + 1 = (xs ++ [((some ⟨g31, 0, none⟩, c31, preN (dgS n s1) (dgS n s2)) : Seg)]).length := by rw [List.length_append]; rfl
    have hsn := hsz.snoc hz2 (c := c31) hr2
    have hmp : (xs.map fun x : Seg => x.2.2) ++ [preN (dgS n s1) (dgS n s2)] = (xs ++ [((some ⟨g31, 0, none⟩, c31, preN (dgS n s1) (dgS n s2)) : Seg)]).map fun x : Seg => x.2.2 := by rw [List.map_append]; rfl
    rw [hmp] at hsn
    rw [hlx]
    generalize hxs2 : xs ++ [((some ⟨g31, 0, none⟩, c31, preN (dgS n s1) (dgS n s2)) : Seg)] = xs2 at *
    cases hbit : bitAt key d
    · rw [show bitN key d = 0 by unfold bitN; rw [hbit]; rfl] at hB
      rw [hbit, if_neg (by simp)] at hpr hen
      refine h_reg ?_
      refine h_op (r_loadr rfl) ?_
      refine h_op (r_move rfl) ?_
      refine h_call (hB.comes) rfl rfl rfl fun _ => ?_
      refine h_op (r_idxA rfl rfl (m := 0)) ?_
      refine h_op (r_loadc rfl) ?_
      refine h_op (r_assign rfl) ?_
      refine h_nil ?_
      refine q_block ?_
      refine q_block ?_
      refine q_then ?_
      refine h_reg ?_
      refine h_op (r_move rfl) ?_
      refine h_op (r_add rfl rfl) ?_
      refine h_op (r_assign rfl) ?_
      refine h_nil ?_
      exact h_back (s1, d + 1, z2, xs2, some ⟨g33, 0, none⟩, c33, k' + s1.cost + s2.cost) (⟨hle.trans hz2, hsn, by dsimp only; rw [hpr, ← hmp, List.append_assoc]; rfl, hen, by dsimp only; omega, by dsimp only; omega, by dsimp only; omega, by dsimp only; omega⟩) ((show s1.sz < s1.sz + s2.sz + 1 by omega)) ⟨rfl, rfl, rfl, rfl, aI rfl (by dsimp only; omega), trivial⟩ (same)
    · rw [show bitN key d = 1 by unfold bitN; rw [hbit]; rfl] at hB
      rw [hbit, if_pos rfl] at hpr hen
      refine h_reg ?_
      refine h_op (r_loadr rfl) ?_
      refine h_op (r_move rfl) ?_
      refine h_call (hB.comes) rfl rfl rfl fun _ => ?_
      refine h_op (r_idxA rfl rfl (m := 1)) ?_
      refine h_op (r_loadc rfl) ?_
      refine h_op (r_assign rfl) ?_
      refine h_nil ?_
      refine q_block ?_
      refine q_block ?_
      refine q_then ?_
      refine h_reg ?_
      refine h_op (r_move rfl) ?_
      refine h_op (r_add rfl rfl) ?_
      refine h_op (r_assign rfl) ?_
      refine h_nil ?_
      exact h_back (s2, d + 1, z2, xs2, some ⟨g33, 0, none⟩, c33, k' + s1.cost + s2.cost) (⟨hle.trans hz2, hsn, by dsimp only; rw [hpr, ← hmp, List.append_assoc]; rfl, hen, by dsimp only; omega, by dsimp only; omega, by dsimp only; omega, by dsimp only; omega⟩) ((show s2.sz < s1.sz + s2.sz + 1 by omega)) ⟨rfl, rfl, rfl, rfl, aI rfl (by dsimp only; omega), trivial⟩ (same)
end
end Go.Proofs.YtgfkbeipckbkiaaGreatDoor
/- U84 -/
namespace Go.Proofs.YtgfkbeipckbkiaaGreatDoor
set_option linter.unusedSimpArgs false
set_option linter.unusedVariables false
open Go.RowKit
section
variable (n : Nat) (hn : n ≤ 256) (l : List Item) (A : Option Addr) (c : Nat) (hl : l.length ≤ 1000000) (hok : l.all kindOk = true)
include hn hl hok
theorem rPre_s : ∀ (t : Sub) (d : Nat), d ≤ 256 → ∀ (at_ : Nat) (r : List Item), readM d (l.drop at_) = some (t, r) → (∀ x, t = .one x → x.kind ≠ 3) → RPre n l A c d at_ t
  | .one x, d, hd, at_, r, h, h3 => by
    obtain ⟨y, hy, ⟨hk, e, _⟩ | ⟨_, d', t1, t2, m, _, e, _⟩⟩ := readM_at h
    · injection e with e
      subst e
      exact rPre_one n l A c hl hok d at_ x hy hk (h3 x rfl)
    · cases e
  | .two t1 t2, d, hd, at_, r, h, _ => by
    obtain ⟨y, hy, ⟨hk, e, _⟩ | ⟨hk, d', t1', t2', m, rfl, e, hm1, hm2, h1, h2⟩⟩ := readM_at h
    · cases e
    · injection e with e1 e2
      subst e1 e2
      have i1 := rDig_s n hn l A c hl hok t1 d' (by omega) (at_ + 1) _ h1
      have i2 := rDig_s n hn l A c hl hok t2 d' (by omega) m _ h2
      exact rPre_two n l A c hl d' at_ (by omega) y hy hk t1 t2 m h1 ⟨hm1, hm2⟩ i1 i2
end
theorem ways_end (k : B32) : ∀ (t : Sub) (d j : Nat) (x : Item), (t.ways k d)[j]? = some (.one x) → x = (t.endI k d).1
  | .one y, d, j, x, h => by
    cases j with
    | zero => exact (by simpa [Sub.ways] using h : y = x).symm
    | succ j => simp [Sub.ways] at h
  | .two l r, d, j, x, h => by
    cases j with
    | zero => simp [Sub.ways] at h
    | succ j =>
      rw [Sub.ways, List.getElem?_cons_succ] at h
      show x = (if bitAt k d then r.endI k (d + 1) else l.endI k (d + 1)).1
      cases hb : bitAt k d
      · rw [hb, if_neg (by simp)] at h
        rw [if_neg (by simp)]
        exact ways_end k l (d + 1) j x h
      · rw [hb, if_pos rfl] at h
        rw [if_pos rfl]
        exact ways_end k r (d + 1) j x h
section
variable (h : Zh) [hT : RdZ h (some ⟨2, 0, none⟩) hashT] (l : List Item) (A : Option Addr) (c : Nat) [hr : RdZ h A (its l)] (hc : l.length ≤ c)
include hc
theorem MultiPreimages_s (i : Int) (key : B32) : Spec Tryz.prog 5 [.int .i64 i, .slice A l.length c, .agg key.cells.toArray].toArray [] [.zone true h] (fun _ : {x : Zh // LeZ h x} => .bool true) (fun x => [.zone true x.1]) := by
  have hF := Few19_s l A c
  have hC := rCheck19_s l A c
  refine spec_of Tryz.func5 rfl (n := 102) rfl rfl ?_
  intro W
  by_cases hi : 0 ≤ i ∧ i ≤ 256
  · obtain ⟨n, rfl⟩ : ∃ n : Nat, i = (n : Int) := ⟨i.toNat, by omega⟩
    have hn : n ≤ 256 := by omega
    by_cases hl : l.length ≤ 1200
    · rw [if_pos hl] at hF
      have hC := hC (by omega)
      refine h_seq ?_
      refine h_reg ?_
      refine h_opX (x_box rfl) fun g5 => ?_
      refine h_op (r_assign rfl) ?_
      refine h_nil ?_
      refine q_then ?_
      refine h_seq ?_
      refine h_seq ?_
      refine h_reg ?_
      refine h_op (r_move rfl) ?_
      refine h_call ((Right_yes n hn).comes) rfl rfl rfl fun _ => ?_
      refine h_op (r_not rfl) ?_
      refine h_op (r_move rfl) ?_
      refine h_op (r_move rfl) ?_
      refine h_call (hF.comes) rfl rfl rfl fun _ => ?_
      refine h_op (r_bool (r_eql rfl rfl) rfl) ?_
      refine h_op (r_pick rfl rfl) ?_
      refine h_nil ?_
      refine q_then ?_
      refine h_condF rfl ?_
      refine h_skip ?_
      refine q_then ?_
      refine h_seq ?_
      refine h_reg ?_
      refine h_op (r_move rfl) ?_
      refine h_call ((Hash_s n hn).comes) rfl rfl rfl fun ⟨gh, gc⟩ => ?_
      dsimp only
      refine h_op (r_assign rfl) ?_
      refine h_nil ?_
      refine q_then ?_
      refine h_seq ?_
      refine h_seq ?_
      refine h_reg ?_
      refine h_op (r_move rfl) ?_
      refine h_op (r_nilR rfl rfl) ?_
      refine h_nil ?_
      refine q_then ?_
      refine h_condF rfl ?_
      refine h_skip ?_
      refine q_then ?_
      refine h_seq ?_
      refine h_reg ?_
      refine h_op (r_move rfl) ?_
      refine h_op (r_move rfl) ?_
      refine h_op (r_loadr rfl) ?_
      rcases hp : parseM l with e | t
      · have he := parse_err hp
        rw [checkM_bad hp] at hC
        refine h_call ((mPre_bad h gh l A c hc (by omega) key e hp he).comes) rfl rfl rfl fun _ => ?_
        refine h_op (r_move rfl) ?_
        refine h_op (r_extract rfl rfl) ?_
        refine h_op (r_extract rfl rfl) ?_
        refine h_op (r_assign rfl) ?_
        refine h_op (r_assign rfl) ?_
        refine h_nil ?_
        refine q_then ?_
        refine h_seq ?_
        refine h_seq ?_
        refine h_reg ?_
        refine h_op (r_move rfl) ?_
        refine h_call (hC.comes) rfl rfl rfl fun _ => ?_
        refine h_op (r_assign rfl) ?_
        refine h_nil ?_
        refine q_then ?_
        refine h_seq ?_
        refine h_reg ?_
        refine h_op (r_move rfl) ?_
        refine h_op (r_neq rfl rfl) ?_
        refine h_nil ?_
        refine q_then ?_
        refine h_yes rfl (he) ?_
        refine h_seq ?_
        refine h_reg ?_
        refine h_call ((alive19_s h).comes) rfl rfl rfl fun ⟨h1, hle1⟩ => ?_
        dsimp only
        refine h_op (r_move rfl) ?_
        refine h_op (r_move rfl) ?_
        refine h_op (r_len rfl) ?_
        refine h_op (r_bool (r_eql rfl rfl) rfl) ?_
        refine h_op (r_pick rfl rfl) ?_
        refine h_op (r_move rfl) ?_
        refine h_op (r_move rfl) ?_
        refine h_op (r_move rfl) ?_
        refine h_op (r_bool (r_eql rfl rfl) (decide_eq_true rfl)) ?_
        refine h_op (r_pick rfl rfl) ?_
        refine h_op (r_assign rfl) ?_
        refine h_nil ?_
        refine q_then ?_
        refine h_ret ?_
        refine q_thenR ?_
        exact h_ret1 rfl rfl fun w s => ⟨⟨h1, hle1⟩, rfl, (same (L' := [.zone true h1]) w s).res (List.Sublist.refl _) (by simp [Fa.wr])⟩
      · have hst := At.start hp
        have hWy := fun A => Way_s l A c (by omega) t hp key
        have hwp := way_pos key t 0 0
        have hwd := way_depth key t 0 0
        have hht := hst.ht
        have hwl := pres_len n key t 0 0
        have hok := (parse_ok hp).2.1
        obtain ⟨wl, w1, w2, w3⟩ := way_last key hst
        have hki := its_kind w2
        have hg : (t.way key 0 0).getD ((t.way key 0 0).length - 1) 0 = wl := by rw [List.getD_eq_getElem?_getD, w1]; rfl
        have h0 : 0 < (its l).length := by rw [its_len]; omega
        obtain ⟨bA, oA, rfl, -⟩ := hr.at_ 0 _ (List.getElem?_eq_getElem h0)
        have hWy := hWy (some ⟨bA, oA, none⟩)
        rw [checkM_ok hp] at hC
        by_cases h3 : (t.endI key 0).1.kind = 3
        · have hP3 := mPre_s h n hn gh gc 0 (by decide) l (some ⟨bA, oA, none⟩) c hc (by omega) key t hp true (by simp [h3])
          simp only [↓reduceIte] at hP3
          refine h_call (hP3.comes) rfl rfl rfl fun ⟨⟨z, g30, c30, xs, k30⟩, hz, hsz⟩ => ?_
          dsimp only at hz hsz ⊢
          have hTz : RdZ z (some ⟨2, 0, none⟩) hashT := hT.mono hz
          refine h_op (r_move rfl) ?_
          refine h_op (r_extract rfl rfl) ?_
          refine h_op (r_extract rfl rfl) ?_
          refine h_op (r_assign rfl) ?_
          refine h_op (r_assign rfl) ?_
          refine h_nil ?_
          refine q_then ?_
          refine h_seq ?_
          refine h_seq ?_
          refine h_reg ?_
          refine h_op (r_move rfl) ?_
          refine h_call (hC.comes) rfl rfl rfl fun _ => ?_
          refine h_op (r_assign rfl) ?_
          refine h_nil ?_
          refine q_then ?_
          refine h_seq ?_
          refine h_reg ?_
          refine h_op (r_move rfl) ?_
          refine h_op (r_neq rfl rfl) ?_
          refine h_nil ?_
          refine q_then ?_
          refine h_no rfl ((fun h => h rfl)) ?_
          refine h_skip ?_
          refine q_then ?_
          refine h_seq ?_
          refine h_reg ?_
          refine h_op (r_move rfl) ?_
          refine h_op (r_loadr rfl) ?_
          refine h_call (hWy.comes) rfl rfl rfl fun ⟨g50, c50⟩ => ?_
          refine h_op (r_assign rfl) ?_
          refine h_nil ?_
          refine q_then ?_
          refine h_seq ?_
          refine h_seq ?_
          refine h_reg ?_
          refine h_op (r_move rfl) ?_
          refine h_op (r_move rfl) ?_
          refine h_op (r_move rfl) ?_
          refine h_op (r_len rfl) ?_
          refine h_op (r_subN rfl rfl (m := (t.way key 0 0).length - 1) (hm := by omega)) ?_
          refine h_op (r_idx rfl rfl) ?_
          refine h_op (r_int (r_nth rfl (ic_at (by omega))) (show _ = ((wl : Nat) : Int) by rw [hg])) ?_
          refine h_op (r_idx rfl rfl) ?_
          refine h_op (r_field rfl) ?_
          refine h_op (r_nth rfl hki) ?_
          refine h_op (r_eql rfl rfl) ?_
          refine h_nil ?_
          refine q_then ?_
          refine h_yes rfl (h3) ?_
          refine h_seq ?_
          refine h_reg ?_
          refine h_call ((alive19_s z).comes) rfl rfl rfl fun ⟨h1, hle1⟩ => ?_
          dsimp only
          refine h_op (r_move rfl) ?_
          refine h_op (r_move rfl) ?_
          refine h_op (r_len rfl) ?_
          refine h_op (r_bool (r_eql rfl rfl) rfl) ?_
          refine h_op (r_pick rfl rfl) ?_
          refine h_op (r_move rfl) ?_
          refine h_op (r_move rfl) ?_
          refine h_op (r_bool (r_eql rfl rfl) rfl) ?_
          refine h_op (r_pick rfl rfl) ?_
          refine h_op (r_assign rfl) ?_
          refine h_nil ?_
          refine q_then ?_
          refine h_ret ?_
          refine q_thenR ?_
          exact h_ret1 rfl rfl fun w s => ⟨⟨h1, hz.trans hle1⟩, rfl, (same (L' := [.zone true h1]) w s).res (List.Sublist.refl _) (by simp [Fa.wr])⟩
        · have hP3 := mPre_s h n hn gh gc 0 (by decide) l (some ⟨bA, oA, none⟩) c hc (by omega) key t hp false (by simp [h3])
          simp only [Bool.false_eq_true, ↓reduceIte] at hP3
          refine h_call (hP3.comes) rfl rfl rfl fun ⟨⟨z, g30, c30, xs, k30⟩, hz, hsz⟩ => ?_
          dsimp only at hz hsz ⊢
          have hsz := hsz rfl
          have hTz : RdZ z (some ⟨2, 0, none⟩) hashT := hT.mono hz
          have hxl := hsz.len
          refine h_op (r_move rfl) ?_
          refine h_op (r_extract rfl rfl) ?_
          refine h_op (r_extract rfl rfl) ?_
          refine h_op (r_assign rfl) ?_
          refine h_op (r_assign rfl) ?_
          refine h_nil ?_
          refine q_then ?_
          refine h_seq ?_
          refine h_seq ?_
          refine h_reg ?_
          refine h_op (r_move rfl) ?_
          refine h_call (hC.comes) rfl rfl rfl fun _ => ?_
          refine h_op (r_assign rfl) ?_
          refine h_nil ?_
          refine q_then ?_
          refine h_seq ?_
          refine h_reg ?_
          refine h_op (r_move rfl) ?_
          refine h_op (r_neq rfl rfl) ?_
          refine h_nil ?_
          refine q_then ?_
          refine h_no rfl ((fun h => h rfl)) ?_
          refine h_skip ?_
          refine q_then ?_
          refine h_seq ?_
          refine h_reg ?_
          refine h_op (r_move rfl) ?_
          refine h_op (r_loadr rfl) ?_
          refine h_call (hWy.comes) rfl rfl rfl fun ⟨g50, c50⟩ => ?_
          refine h_op (r_assign rfl) ?_
          refine h_nil ?_
          refine q_then ?_
          refine h_seq ?_
          refine h_seq ?_
          refine h_reg ?_
          refine h_op (r_move rfl) ?_
          refine h_op (r_move rfl) ?_
          refine h_op (r_move rfl) ?_
          refine h_op (r_len rfl) ?_
          refine h_op (r_subN rfl rfl (m := (t.way key 0 0).length - 1) (hm := by omega)) ?_
          refine h_op (r_idx rfl rfl) ?_
          refine h_op (r_int (r_nth rfl (ic_at (by omega))) (show _ = ((wl : Nat) : Int) by rw [hg])) ?_
          refine h_op (r_idx rfl rfl) ?_
          refine h_op (r_field rfl) ?_
          refine h_op (r_nth rfl hki) ?_
          refine h_op (r_eql rfl rfl) ?_
          refine h_nil ?_
          refine q_then ?_
          refine h_no rfl (h3) ?_
          refine h_skip ?_
          refine q_then ?_
          refine h_seq ?_
          refine h_seq ?_
          refine h_reg ?_
          refine h_op (r_move rfl) ?_
          refine h_op (r_bool (r_neq rfl rfl) (show _ = false from rfl)) ?_
          refine h_op (r_move rfl) ?_
          refine h_op (r_move rfl) ?_
          refine h_op (r_len rfl) ?_
          refine h_op (r_move rfl) ?_
          refine h_op (r_len rfl) ?_
          refine h_op (r_bool (r_neq rfl rfl) (decide_eq_false (by omega))) ?_
          refine h_op (r_pick rfl rfl) ?_
          refine h_nil ?_
          refine q_then ?_
          refine h_condF rfl ?_
          refine h_skip ?_
          refine q_then ?_
          refine h_seq ?_
          refine h_seq ?_
          refine h_reg ?_
          refine h_op (r_move rfl) ?_
          refine h_op (r_len rfl) ?_
          refine h_op (r_move rfl) ?_
          refine h_nil ?_
          refine q_then ?_
          refine h_block ?_
          refine h_loop (fun (k : Nat) => k ≤ (t.pres n key 0).length) (fun (k : Nat) => [(83, .int .i64 (k : Int)), (82, .int .i64 ((t.pres n key 0).length : Int)), (8, .slice (some ⟨g30, 0, none⟩) (t.pres n key 0).length c30), (11, .slice (some ⟨g50, 0, none⟩) (t.way key 0 0).length c50), (0, .int .i64 (n : Int)), (1, .slice (some ⟨bA, oA, none⟩) l.length c)]) (fun (k : Nat) => [.zone true z, .own (.slice (some ⟨g50, 0, none⟩) (t.way key 0 0).length c50) (t.way key 0 0).length 3 1 (ic (t.way key 0 0)), .own (.slice (some ⟨g30, 0, none⟩) (t.pres n key 0).length c30) (t.pres n key 0).length 66 1 (svs xs)]) (fun (k : Nat) => (t.pres n key 0).length - k) 0 ((show 0 ≤ _ from Nat.zero_le _)) ⟨rfl, rfl, rfl, rfl, rfl, rfl, trivial⟩ (same) ?_
          rintro k hk
          refine h_seq ?_
          refine h_reg ?_
          refine h_op (r_lss rfl rfl) ?_
          refine h_nil ?_
          refine q_then ?_
          refine h_seq ?_
          refine h_cond rfl (fun hlt => ?_) (fun hlt => ?_)
          · obtain ⟨x, hx⟩ : ∃ x, xs[k]? = some x := ⟨_, List.getElem?_eq_getElem (by omega)⟩
            obtain ⟨p, hpk⟩ : ∃ p, (t.way key 0 0)[k]? = some p := ⟨_, List.getElem?_eq_getElem (by omega)⟩
            obtain ⟨s, hs1, hs2⟩ := way_at key hst hpk
            have hgp : (t.way key 0 0).getD k 0 = p := by rw [List.getD_eq_getElem?_getD, hpk]; rfl
            obtain ⟨rest, hrd, _⟩ := hs2.read
            have hne : ∀ y, s = .one y → y.kind ≠ 3 := fun y hy => by rw [hy] at hs1; rw [ways_end key t 0 k y hs1]; exact h3
            have hRP := rPre_s n hn l (some ⟨bA, oA, none⟩) c (by omega) hok s (256 - (0 + k)) (by omega) p rest hrd hne
            unfold RPre at hRP
            rw [show (256 : Int) - ((256 - (0 + k) : Nat) : Int) = ((k : Nat) : Int) by omega] at hRP
            have hxb : x.2.2 = preS n s := by
              have h5 := congrArg (·[k]?) hsz.1
              simp only [List.getElem?_map, hx, Sub.pres, hs1, Option.map_some] at h5
              injection h5
            obtain ⟨⟨gx, hgx⟩, hxr⟩ := hsz.2 x (List.mem_of_getElem? hx)
            obtain ⟨xA, xc, xb⟩ := x
            dsimp only at hxb hgx hxr
            subst hxb hgx
            have hpl := preS_len n s
            refine h_skip ?_
            refine q_then ?_
            refine h_seq ?_
            refine h_block ?_
            refine h_seq ?_
            refine h_reg ?_
            refine h_op (r_move rfl) ?_
            refine h_op (r_assign rfl) ?_
            refine h_nil ?_
            refine q_then ?_
            refine h_seq ?_
            refine ha_start [.zone true z, .own (.slice (some ⟨g50, 0, none⟩) (t.way key 0 0).length c50) (t.way key 0 0).length 3 1 (ic (t.way key 0 0)), .own (.slice (some ⟨g30, 0, none⟩) (t.pres n key 0).length c30) (t.pres n key 0).length 66 1 (svs xs)] [] mixed (same) ?_
            refine ha_takeP 0 rfl (r_move rfl) ?_
            refine ha_takeP 1 rfl (r_move rfl) ?_
            refine ha_takeP 2 rfl (r_idx rfl rfl) ?_
            refine ha_take 3 rfl (r_nth rfl (svs_get hx)) ?_
            refine ha_takeP 4 rfl (r_move rfl) ?_
            refine ha_takeP 5 rfl (r_move rfl) ?_
            refine ha_takeP 6 rfl (r_move rfl) ?_
            refine ha_takeP 7 rfl (r_move rfl) ?_
            refine ha_takeP 8 rfl (r_idx rfl rfl) ?_
            refine ha_take 9 rfl (r_int (r_nth rfl (ic_at (by omega))) (show _ = ((p : Nat) : Int) by rw [hgp])) ?_
            refine ha_takeP 10 rfl (r_move rfl) ?_
            refine ha_one 11 ?_
            refine ho_C 11 rfl (hRP.comes) rfl rfl rfl (fun _ => same) fun ⟨g97, c97⟩ => ?_
            refine ha_one 12 ?_
            refine ho_C 12 rfl ((Same_yes (preS n s) (some ⟨gx, 0, none⟩) (some ⟨g97, 0, none⟩) xc c97 (by omega)).comes) rfl rfl rfl (fun _ => same) fun _ => ?_
            refine ha_takeP 13 rfl (r_not rfl) ?_
            refine ha_done (by kernel_rfl) ?_
            refine q_then ?_
            refine h_condF rfl ?_
            refine h_skip ?_
            refine q_block ?_
            refine q_then ?_
            refine h_reg ?_
            refine h_op (r_add rfl rfl) ?_
            refine h_op (r_move rfl) ?_
            refine h_nil ?_
            exact h_back (k + 1) ((show k + 1 ≤ _ by omega)) ((show (t.pres n key 0).length - (k + 1) < (t.pres n key 0).length - k by omega)) ⟨rfl, rfl, rfl, rfl, rfl, rfl, trivial⟩ (same)
          · refine h_exit ?_
            refine q_thenE ?_
            refine q_thenE ?_
            refine q_blockE ?_
            refine q_then ?_
            refine h_seq ?_
            refine h_reg ?_
            refine h_call ((alive19_s z).comes) rfl rfl rfl fun ⟨h1, hle1⟩ => ?_
            refine h_op (r_assign rfl) ?_
            refine h_nil ?_
            refine q_then ?_
            refine h_ret ?_
            exact h_ret1 rfl rfl fun w s => ⟨⟨h1, hz.trans hle1⟩, rfl, (same (L' := [.zone true h1]) w s).res (List.Sublist.refl _) (by simp [Fa.wr])⟩
    · rw [if_neg hl] at hF
      refine h_seq ?_
      refine h_reg ?_
      refine h_opX (x_box rfl) fun g5 => ?_
      refine h_op (r_assign rfl) ?_
      refine h_nil ?_
      refine q_then ?_
      refine h_seq ?_
      refine h_seq ?_
      refine h_reg ?_
      refine h_op (r_move rfl) ?_
      refine h_call ((Right_yes n hn).comes) rfl rfl rfl fun _ => ?_
      refine h_op (r_not rfl) ?_
      refine h_op (r_move rfl) ?_
      refine h_op (r_move rfl) ?_
      refine h_call (hF.comes) rfl rfl rfl fun _ => ?_
      refine h_op (r_bool (r_eql rfl rfl) rfl) ?_
      refine h_op (r_pick rfl rfl) ?_
      refine h_nil ?_
      refine q_then ?_
      refine h_condT rfl ?_
      refine h_seq ?_
      refine h_reg ?_
      refine h_call ((alive19_s h).comes) rfl rfl rfl fun ⟨h1, hle1⟩ => ?_
      refine h_op (r_assign rfl) ?_
      refine h_nil ?_
      refine q_then ?_
      refine h_ret ?_
      refine q_thenR ?_
      exact h_ret1 rfl rfl fun w s => ⟨⟨h1, hle1⟩, rfl, (same (L' := [.zone true h1]) w s).res (List.Sublist.refl _) (by simp [Fa.wr])⟩
  · refine h_seq ?_
    refine h_reg ?_
    refine h_opX (x_box rfl) fun g5 => ?_
    refine h_op (r_assign rfl) ?_
    refine h_nil ?_
    refine q_then ?_
    refine h_seq ?_
    refine h_seq ?_
    refine h_reg ?_
    refine h_op (r_move rfl) ?_
    refine h_call ((Right_no i hi).comes) rfl rfl rfl fun _ => ?_
    refine h_op (r_not rfl) ?_
    refine h_op (r_move rfl) ?_
    refine h_opOff ?_
    refine h_opOff ?_
    refine h_opOff ?_
    refine h_op (r_pick rfl rfl) ?_
    refine h_nil ?_
    refine q_then ?_
    refine h_condT rfl ?_
    refine h_seq ?_
    refine h_reg ?_
    refine h_call ((alive19_s h).comes) rfl rfl rfl fun ⟨h1, hle1⟩ => ?_
    refine h_op (r_assign rfl) ?_
    refine h_nil ?_
    refine q_then ?_
    refine h_ret ?_
    refine q_thenR ?_
    exact h_ret1 rfl rfl fun w s => ⟨⟨h1, hle1⟩, rfl, (same (L' := [.zone true h1]) w s).res (List.Sublist.refl _) (by simp [Fa.wr])⟩
end
end Go.Proofs.YtgfkbeipckbkiaaGreatDoor
