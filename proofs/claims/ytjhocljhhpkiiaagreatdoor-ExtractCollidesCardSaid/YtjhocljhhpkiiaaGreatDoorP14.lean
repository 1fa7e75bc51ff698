/- Multiproofs as the flat lists of their subtrees: plain; key.Split; multi.add; The reference's view of the keys below a prefix; heights, sizes: plain; multiproofs: the reference's Digest and Preimage; The subtrees on the way of a key, where they stand: plain; multiproofs: the reference's Way; multi: the ends of keys; multi.Preimages; find.Way; extract: the preimage of a subtree, the preimages on a way, Collide (joined texts: E18 U70 U71 E19 U68 E21 U76 U75 U80 U141) -/
import Derived.Test.YtjhocljhhpkiiaaGreatDoorP13
set_option linter.all false
/- E18 -/
namespace Go.Proofs.YtjhocljhhpkiiaaGreatDoor
set_option linter.unusedSimpArgs false
set_option linter.unusedVariables false
open Go.RowKit
abbrev innerI : Item := ⟨2, zB32, zLeaf⟩
def Sub.flat : Sub → List Item
  | .one x => [x]
  | .two l r => innerI :: (l.flat ++ r.flat)
def Sub.ht : Sub → Nat
  | .one _ => 0
  | .two l r => max l.ht r.ht + 1
def Sub.ok : Sub → Prop
  | .one x => x.kind ≠ 2 ∧ kindOk x = true ∧ cleanItem x = true
  | .two l r => l.ok ∧ r.ok
def Sub.sz : Sub → Nat
  | .one _ => 1
  | .two l r => l.sz + r.sz + 1
theorem Sub.flat_len : ∀ t : Sub, t.flat.length = t.sz
  | .one _ => rfl
  | .two l r => by
    show (l.flat ++ r.flat).length + 1 = _
    rw [List.length_append, l.flat_len, r.flat_len]
    rfl
theorem Sub.sz_pos : ∀ t : Sub, 0 < t.sz
  | .one _ => Nat.one_pos
  | .two _ _ => Nat.succ_pos _
theorem read_flat : ∀ (t : Sub) (d : Nat) (rest : List Item), t.ok → t.ht ≤ d → readM d (t.flat ++ rest) = some (t, rest)
  | .one x, d, rest, ho, _ => by
    show readM d (x :: rest) = _
    cases d <;> (unfold readM; rw [if_neg ho.1])
  | .two l r, 0, rest, ho, hd => absurd hd (by simp [Sub.ht])
  | .two l r, d + 1, rest, ho, hd => by
    have hd' : max l.ht r.ht + 1 ≤ d + 1 := hd
    show readM (d + 1) (innerI :: ((l.flat ++ r.flat) ++ rest)) = _
    unfold readM
    rw [if_pos rfl, List.append_assoc, read_flat l d _ ho.1 (by omega)]
    simp only [Option.bind_some]
    rw [read_flat r d _ ho.2 (by omega)]
    rfl
theorem flat_read : ∀ (d : Nat) (l : List Item) (t : Sub) (rest : List Item), readM d l = some (t, rest) → l.all kindOk = true → l.all cleanItem = true → l = t.flat ++ rest ∧ t.ok ∧ t.ht ≤ d ∧ rest.all kindOk = true ∧ rest.all cleanItem = true
  | d, [], t, r, h, _, _ => by cases d <;> cases h
  | d, x :: l, t, r, h, hk, hc => by
    rw [List.all_cons, Bool.and_eq_true] at hk hc
    by_cases hk2 : x.kind = 2
    · match d, h with
      | 0, h => unfold readM at h; rw [if_pos hk2] at h; cases h
      | d + 1, h =>
        unfold readM at h
        rw [if_pos hk2] at h
        obtain ⟨p, hp, h⟩ := Option.bind_eq_some_iff.1 h
        obtain ⟨q, hq, h⟩ := Option.bind_eq_some_iff.1 h
        obtain ⟨a1, a2, a3, a4, a5⟩ := flat_read d l p.1 p.2 hp hk.2 hc.2
        obtain ⟨b1, b2, b3, b4, b5⟩ := flat_read d p.2 q.1 q.2 hq a4 a5
        simp only [Option.some.injEq, Prod.mk.injEq] at h
        rw [← h.1, ← h.2]
        refine ⟨?_, ⟨a2, b2⟩, ?_, b4, b5⟩
        · show x :: l = innerI :: (p.1.flat ++ q.1.flat) ++ q.2
          have hx : x = innerI := by
            have h1 := hc.1
            unfold cleanItem at h1
            simp only [hk2] at h1
            simp at h1
            obtain ⟨k, dg, lf⟩ := x
            simp only at hk2 h1
            rw [hk2, h1.1, h1.2]
          rw [hx, List.cons_append, List.append_assoc, ← b1, ← a1]
        · show max p.1.ht q.1.ht + 1 ≤ d + 1
          omega
    · have h' : readM d (x :: l) = some (.one x, l) := by cases d <;> (unfold readM; rw [if_neg hk2])
      rw [h'] at h
      simp only [Option.some.injEq, Prod.mk.injEq] at h
      rw [← h.1, ← h.2]
      exact ⟨rfl, ⟨hk2, hk.1, hc.1⟩, Nat.zero_le _, hk.2, hc.2⟩
theorem parse_flat {l : List Item} {t : Sub} (h : parseM l = .ok t) : l = t.flat ∧ t.ok ∧ t.ht ≤ 256 := by
  obtain ⟨h1, h2, h3⟩ := parse_ok h
  obtain ⟨a, b, c, _⟩ := flat_read 256 l t [] h1 h2 h3
  exact ⟨by rw [a, List.append_nil], b, c⟩
/-! the end of a key's way, its indices -/
def Sub.endI (k : B32) : Sub → Nat → Item × Nat
  | .one x, d => (x, d)
  | .two l r, d => if bitAt k d then r.endI k (d + 1) else l.endI k (d + 1)
def Sub.way (k : B32) : Sub → Nat → Nat → List Nat
  | .one _, _, i => [i]
  | .two l r, d, i => i :: if bitAt k d then r.way k (d + 1) (i + 1 + l.sz) else l.way k (d + 1) (i + 1)
theorem way_rng {k : B32} : ∀ {t : Sub} {d i j : Nat}, j ∈ t.way k d i → i ≤ j ∧ j < i + t.sz
  | .one _, d, i, j, h => by obtain rfl := List.mem_singleton.1 h; exact ⟨Nat.le_refl _, Nat.lt_succ_self _⟩
  | .two l r, d, i, j, h => by
    show i ≤ j ∧ j < i + (l.sz + r.sz + 1)
    rcases List.mem_cons.1 h with rfl | h
    · omega
    · cases hb : bitAt k d
      · rw [hb, if_neg (by simp)] at h
        have := way_rng h
        omega
      · rw [hb, if_pos rfl] at h
        have := way_rng h
        omega
theorem way_head (k : B32) (t : Sub) (d i : Nat) : i ∈ t.way k d i := by cases t <;> exact List.mem_cons_self ..
/-! the ends of keys -/
def endsM : Sub → List B32 → Nat → List (Item × Nat) × Bool
  | .one x, ks, d => (ks.map fun _ => (x, d), x.kind != 3 || ks.isEmpty)
  | .two l r, ks, d => if ks.isEmpty then ([], false) else
      if (endsM l (keysB ks d false) (d + 1)).2 then ((endsM l (keysB ks d false) (d + 1)).1 ++ (endsM r (keysB ks d true) (d + 1)).1, (endsM r (keysB ks d true) (d + 1)).2)
      else ((endsM l (keysB ks d false) (d + 1)).1, false)
theorem endsM_len : ∀ (t : Sub) (ks : List B32) (d : Nat), (endsM t ks d).1.length ≤ ks.length
  | .one x, ks, d => by show (ks.map _).length ≤ _; rw [List.length_map]; exact Nat.le_refl _
  | .two l r, ks, d => by
    have h1 := endsM_len l (keysB ks d false) (d + 1)
    have h2 := endsM_len r (keysB ks d true) (d + 1)
    have h3 : (keysB ks d false).length + (keysB ks d true).length = ks.length := by
      unfold keysB
      clear h1 h2
      induction ks with
      | nil => rfl
      | cons e m ih =>
        cases hb : bitAt e d
        · rw [List.filter_cons_of_pos (by simp [hb]), List.filter_cons_of_neg (by simp [hb]), List.length_cons, List.length_cons]; omega
        · rw [List.filter_cons_of_neg (by simp [hb]), List.filter_cons_of_pos (by simp [hb]), List.length_cons, List.length_cons]; omega
    unfold endsM
    split
    · exact Nat.zero_le _
    · split
      · rw [List.length_append]; omega
      · show (endsM l _ _).1.length ≤ _
        omega
theorem keysB_mem {ks : List B32} {d : Nat} {b : Bool} {k : B32} : k ∈ keysB ks d b ↔ k ∈ ks ∧ bitAt k d = b := by unfold keysB; simp
/-- the reference's view of whether a subtree fits keys -/
def fitsR (t : Sub) (ks : List B32) (d i : Nat) : Prop := (∀ k ∈ ks, (t.endI k d).1.kind ≠ 3) ∧ ∀ (j : Nat) (x : Item), t.flat[j]? = some x → x.kind = 2 → ∃ k ∈ ks, i + j ∈ t.way k d i
theorem fits_iff : ∀ (t : Sub) (ks : List B32) (d i : Nat), t.ok → ((endsM t ks d).2 = true ↔ fitsR t ks d i)
  | .one x, ks, d, i, ho => by
    show (x.kind != 3 || ks.isEmpty) = true ↔ _
    constructor
    · intro h
      refine ⟨fun k hk => ?_, fun j y hj hy => ?_⟩
      · show x.kind ≠ 3
        cases ks with
        | nil => cases hk
        | cons => simpa using h
      · cases j with
        | zero => obtain rfl : x = y := by simpa [Sub.flat] using hj
                  exact (ho.1 hy).elim
        | succ j => simp [Sub.flat] at hj
    · rintro ⟨h, _⟩
      cases ks with
      | nil => simp
      | cons k ks =>
        have : x.kind ≠ 3 := h k (List.mem_cons_self ..)
        simp [this]
  | .two l r, ks, d, i, ho => by
    have ihl := fits_iff l (keysB ks d false) (d + 1) (i + 1) ho.1
    have ihr := fits_iff r (keysB ks d true) (d + 1) (i + 1 + l.sz) ho.2
    have h0 : (endsM (.two l r) ks d).2 = true ↔ ks ≠ [] ∧ (endsM l (keysB ks d false) (d + 1)).2 = true ∧ (endsM r (keysB ks d true) (d + 1)).2 = true := by
      conv => lhs; unfold endsM
      cases ks with
      | nil => simp
      | cons k ks =>
        by_cases h1 : (endsM l (keysB (k :: ks) d false) (d + 1)).2 = true
        · simp [h1]
        · simp [h1]
    rw [h0, ihl, ihr]
    have hE : ∀ k b, bitAt k d = b → (Sub.two l r).endI k d = if b then r.endI k (d + 1) else l.endI k (d + 1) := fun k b hb => by rw [Sub.endI, hb]
    have hW : ∀ k b, bitAt k d = b → (Sub.two l r).way k d i = i :: if b then r.way k (d + 1) (i + 1 + l.sz) else l.way k (d + 1) (i + 1) := fun k b hb => by rw [Sub.way, hb]
    have hf : (Sub.two l r).flat = innerI :: (l.flat ++ r.flat) := rfl
    constructor
    · rintro ⟨hne, ⟨a1, a2⟩, b1, b2⟩
      refine ⟨fun k hk => ?_, fun j x hj hx => ?_⟩
      · cases hb : bitAt k d
        · rw [hE k _ hb]; exact a1 k (keysB_mem.2 ⟨hk, hb⟩)
        · rw [hE k _ hb]; exact b1 k (keysB_mem.2 ⟨hk, hb⟩)
      · rw [hf] at hj
        cases j with
        | zero =>
          obtain ⟨k, ks', rfl⟩ := List.exists_cons_of_ne_nil hne
          exact ⟨k, List.mem_cons_self .., way_head k _ d i⟩
        | succ j =>
          rw [List.getElem?_cons_succ] at hj
          rcases Nat.lt_or_ge j l.sz with h1 | h1
          · rw [List.getElem?_append_left (by rw [l.flat_len]; exact h1)] at hj
            obtain ⟨k, hk, hw⟩ := a2 j x hj hx
            obtain ⟨hk, hb⟩ := keysB_mem.1 hk
            refine ⟨k, hk, ?_⟩
            rw [hW k _ hb]
            exact List.mem_cons_of_mem _ (by rw [show i + (j + 1) = i + 1 + j by omega]; exact hw)
          · rw [List.getElem?_append_right (by rw [l.flat_len]; exact h1), l.flat_len] at hj
            obtain ⟨k, hk, hw⟩ := b2 (j - l.sz) x hj hx
            obtain ⟨hk, hb⟩ := keysB_mem.1 hk
            refine ⟨k, hk, ?_⟩
            rw [hW k _ hb]
            exact List.mem_cons_of_mem _ (by rw [show i + (j + 1) = i + 1 + l.sz + (j - l.sz) by omega]; exact hw)
    · rintro ⟨h1, h2⟩
      refine ⟨fun e => ?_, ⟨fun k hk => ?_, fun j x hj hx => ?_⟩, fun k hk => ?_, fun j x hj hx => ?_⟩
      · obtain ⟨k, hk, _⟩ := h2 0 innerI rfl rfl
        rw [e] at hk
        cases hk
      · obtain ⟨hk, hb⟩ := keysB_mem.1 hk
        have := h1 k hk
        rwa [hE k _ hb] at this
      · have hl := (List.getElem?_eq_some_iff.1 hj).1
        rw [l.flat_len] at hl
        obtain ⟨k, hk, hw⟩ := h2 (j + 1) x (by rw [hf, List.getElem?_cons_succ, List.getElem?_append_left (by rw [l.flat_len]; exact hl)]; exact hj) hx
        cases hb : bitAt k d
        · rw [hW k _ hb] at hw
          rcases List.mem_cons.1 hw with e | hw
          · omega
          · exact ⟨k, keysB_mem.2 ⟨hk, hb⟩, by rw [show i + 1 + j = i + (j + 1) by omega]; exact hw⟩
        · rw [hW k _ hb] at hw
          rcases List.mem_cons.1 hw with e | hw
          · omega
          · have := way_rng hw
            omega
      · obtain ⟨hk, hb⟩ := keysB_mem.1 hk
        have := h1 k hk
        rwa [hE k _ hb] at this
      · have hl := (List.getElem?_eq_some_iff.1 hj).1
        rw [r.flat_len] at hl
        obtain ⟨k, hk, hw⟩ := h2 (l.sz + j + 1) x (by rw [hf, List.getElem?_cons_succ, List.getElem?_append_right (by rw [l.flat_len]; omega), l.flat_len, Nat.add_sub_cancel_left]; exact hj) hx
        cases hb : bitAt k d
        · rw [hW k _ hb] at hw
          rcases List.mem_cons.1 hw with e | hw
          · omega
          · have := way_rng hw
            omega
        · rw [hW k _ hb] at hw
          rcases List.mem_cons.1 hw with e | hw
          · omega
          · exact ⟨k, keysB_mem.2 ⟨hk, hb⟩, by rw [show i + 1 + l.sz + j = i + (l.sz + j + 1) by omega]; exact hw⟩
/-! what add appends is the flat list of a subtree -/
end Go.Proofs.YtjhocljhhpkiiaaGreatDoor
/- U70 -/
namespace Go.Proofs.YtjhocljhhpkiiaaGreatDoor
set_option linter.unusedSimpArgs false
set_option linter.unusedVariables false
open Go.RowKit
theorem splitF_s (l : List B32) (A : Option Addr) (c i j g2 g3 : Nat) (hj : j < l.length) (hi : i < 256) : Spec Tryz.prog 211 [.int .i64 (j : Int), .pointer (some ⟨g2, 0, none⟩), .pointer (some ⟨g3, 0, none⟩)].toArray [.rd (some ⟨g2, 0, none⟩) [.slice A l.length c], .rd (some ⟨g3, 0, none⟩) [.int .i64 (i : Int)], .rd A (dgs l)] [] (fun _ : Unit => .bool (bitAt (l.getD j zB32) i)) (fun _ => []) := by
  have h1 := dgs_at hj
  refine spec_of Tryz.func211 rfl (n := 12) rfl rfl ?_
  intro W
  refine h_pure (φ := ∃ b o, A = some ⟨b, o, none⟩) (fun w s => Rd.some (s.ok (.rd A (dgs l)) (by simp)) (by rw [dgs_len]; omega)) ?_
  rintro ⟨b, o, rfl⟩
  refine h_seq ?_
  refine h_reg ?_
  refine h_op (r_assign rfl) ?_
  refine h_nil ?_
  refine q_then ?_
  refine h_seq ?_
  refine ha_start [.rd (some ⟨g2, 0, none⟩) [.slice (some ⟨b, o, none⟩) l.length c], .rd (some ⟨g3, 0, none⟩) [.int .i64 (i : Int)], .rd (some ⟨b, o, none⟩) (dgs l)] [] mixed (same) ?_
  refine ha_take 0 rfl (r_loadc rfl) ?_
  refine ha_takeP 1 rfl (r_move rfl) ?_
  refine ha_takeP 2 rfl (r_idx rfl rfl) ?_
  refine ha_take 3 rfl (r_nthr rfl (out := (l.getD j zB32).cells) (B32.cells_length _) h1) ?_
  refine ha_take 4 rfl (r_loadc rfl) ?_
  refine ha_one 5 ?_
  refine ho_C 5 rfl ((Bit_s (l.getD j zB32) i hi).comes) rfl rfl rfl (fun xx => same) fun _ => ?_
  refine ha_takeP 6 rfl (r_bool (r_eql rfl rfl) (bitN_one (l.getD j zB32) i)) ?_
  refine ha_takeP 7 rfl (r_assign rfl) ?_
  refine ha_done (by kernel_rfl) ?_
  refine q_then ?_
  refine h_ret ?_
  exact h_ret1 rfl rfl fun w s => ⟨(), rfl, s.res (List.nil_sublist _) (by simp)⟩
theorem half (a : Nat) (h : a < 18446744073709551616) : (((BitVec.ofNat 64 a) >>> 1).toNat : Int) = ((a / 2 : Nat) : Int) := by
  rw [BitVec.toNat_ushiftRight, BitVec.toNat_ofNat, Nat.mod_eq_of_lt (by omega), Nat.shiftRight_eq_div_pow]
theorem Search_s (l : List B32) (A : Option Addr) (c i g2 g3 m : Nat) (hi : i < 256) (hl : l.length ≤ 1000000) (hm : m ≤ l.length) (hp : ∀ j, j < l.length → bitAt (l.getD j zB32) i = decide (m ≤ j)) : Spec Tryz.prog 210 [.int .i64 (l.length : Int), .func (.func 211) #[] [.pointer (some ⟨g2, 0, none⟩), .pointer (some ⟨g3, 0, none⟩)].toArray].toArray [.rd (some ⟨g2, 0, none⟩) [.slice A l.length c], .rd (some ⟨g3, 0, none⟩) [.int .i64 (i : Int)], .rd A (dgs l)] [] (fun _ : Unit => .int .i64 (m : Int)) (fun _ => []) := by
  refine spec_of Tryz.func210 rfl (n := 26) rfl rfl ?_
  intro W
  refine h_seq ?_
  refine h_reg ?_
  refine h_op (r_assign rfl) ?_
  refine h_nil ?_
  refine q_then ?_
  refine h_seq ?_
  refine h_reg ?_
  refine h_op (r_move rfl) ?_
  refine h_op (r_assign rfl) ?_
  refine h_op (r_assign rfl) ?_
  refine h_nil ?_
  refine q_then ?_
  refine h_seq ?_
  refine h_block ?_
  refine h_loop (fun (s : Nat × Nat) => s.1 ≤ m ∧ m ≤ s.2 ∧ s.2 ≤ l.length) (fun (s : Nat × Nat) => [(5, .int .i64 (s.1 : Int)), (6, .int .i64 (s.2 : Int)), (1, .func (.func 211) #[] [.pointer (some ⟨g2, 0, none⟩), .pointer (some ⟨g3, 0, none⟩)].toArray)]) (fun (s : Nat × Nat) => [.rd (some ⟨g2, 0, none⟩) [.slice A l.length c], .rd (some ⟨g3, 0, none⟩) [.int .i64 (i : Int)], .rd A (dgs l)]) (fun (s : Nat × Nat) => s.2 - s.1) (0, l.length) (⟨Nat.zero_le _, hm, Nat.le_refl _⟩) ⟨rfl, rfl, rfl, trivial⟩ (same) ?_
  rintro ⟨a, b⟩ ⟨h1, h2, h3⟩
  dsimp only at h1 h2 h3 ⊢
  refine h_seq ?_
  refine h_seq ?_
  refine h_reg ?_
  refine h_op (r_move rfl) ?_
  refine h_op (r_move rfl) ?_
  refine h_op (r_lss rfl rfl) ?_
  refine h_nil ?_
  refine q_then ?_
  refine h_cond rfl (fun hlt => ?_) (fun hlt => ?_)
  · have hh : (a + b) / 2 < l.length := by omega
    have hb := splitF_s l A c i ((a + b) / 2) g2 g3 hh hi
    rw [hp _ hh] at hb
    refine h_skip ?_
    refine q_then ?_
    refine h_block ?_
    refine h_seq ?_
    refine h_reg ?_
    refine h_op (r_move rfl) ?_
    refine h_op (r_move rfl) ?_
    refine h_op (r_int (r_add rfl rfl) (show _ = ((a + b : Nat) : Int) by omega)) ?_
    refine h_op (r_cNW rfl) ?_
    refine h_op (r_int (r_shr rfl rfl) (half (a + b) (by omega))) ?_
    refine h_op (r_cN rfl (IntWalk.i64_in _ (by omega))) ?_
    refine h_op (r_assign rfl) ?_
    refine h_nil ?_
    refine q_then ?_
    refine h_seq ?_
    refine h_reg ?_
    refine h_op (r_move rfl) ?_
    refine h_op (r_move rfl) ?_
    by_cases hc : m ≤ (a + b) / 2
    · rw [decide_eq_true hc] at hb
      refine h_call (hb.comes) rfl rfl rfl fun _ => ?_
      refine h_op (r_not rfl) ?_
      refine h_nil ?_
      refine q_then ?_
      refine h_condF rfl ?_
      refine h_reg ?_
      refine h_op (r_move rfl) ?_
      refine h_op (r_assign rfl) ?_
      refine h_nil ?_
      refine q_block ?_
      exact h_back (a, (a + b) / 2) (⟨h1, hc, by dsimp only; omega⟩) ((show (a + b) / 2 - a < b - a by omega)) ⟨rfl, rfl, rfl, trivial⟩ (same)
    · rw [decide_eq_false hc] at hb
      refine h_call (hb.comes) rfl rfl rfl fun _ => ?_
      refine h_op (r_not rfl) ?_
      refine h_nil ?_
      refine q_then ?_
      refine h_condT rfl ?_
      refine h_reg ?_
      refine h_op (r_move rfl) ?_
      refine h_op (r_add rfl rfl) ?_
      refine h_op (r_assign rfl) ?_
      refine h_nil ?_
      refine q_block ?_
      exact h_back ((a + b) / 2 + 1, b) (⟨by dsimp only; omega, h2, h3⟩) ((show b - ((a + b) / 2 + 1) < b - a by omega)) ⟨aI rfl (by omega), rfl, rfl, trivial⟩ (same)
  · obtain rfl : a = m := by omega
    refine h_exit ?_
    refine q_thenE ?_
    refine q_thenE ?_
    refine q_blockE ?_
    refine q_then ?_
    refine h_seq ?_
    refine h_reg ?_
    refine h_op (r_move rfl) ?_
    refine h_op (r_assign rfl) ?_
    refine h_nil ?_
    refine q_then ?_
    refine h_ret ?_
    exact h_ret1 rfl rfl fun w s => ⟨(), rfl, s.res (List.nil_sublist _) (by simp)⟩
theorem Split_s (l : List B32) (A : Option Addr) (c i m : Nat) (hi : i < 256) (hl : l.length ≤ 1000000) (hm : m ≤ l.length) (hp : ∀ j, j < l.length → bitAt (l.getD j zB32) i = decide (m ≤ j)) : Spec Tryz.prog 166 [.slice A l.length c, .int .i64 (i : Int)].toArray [.rd A (dgs l)] [] (fun _ : Unit => .int .i64 (m : Int)) (fun _ => []) := by
  refine spec_of Tryz.func166 rfl (n := 9) rfl rfl ?_
  intro W
  refine h_seq ?_
  refine h_reg ?_
  refine h_opX (x_box1 rfl) fun g2 => ?_
  refine h_opX (x_box1 rfl) fun g3 => ?_
  refine h_op (r_assign rfl) ?_
  refine h_nil ?_
  refine q_then ?_
  refine h_seq ?_
  refine h_reg ?_
  refine h_op (r_loadc rfl) ?_
  refine h_op (r_len rfl) ?_
  refine h_op (r_func rfl rfl) ?_
  refine h_call ((Search_s l A c i g2 g3 m hi hl hm hp).comes) rfl rfl rfl fun _ => ?_
  refine h_op (r_assign rfl) ?_
  refine h_nil ?_
  refine q_then ?_
  refine h_ret ?_
  exact h_ret1 rfl rfl fun w s => ⟨(), rfl, s.res (List.nil_sublist _) (by simp)⟩
end Go.Proofs.YtjhocljhhpkiiaaGreatDoor
/- U71 -/
namespace Go.Proofs.YtjhocljhhpkiiaaGreatDoor
set_option linter.unusedSimpArgs false
set_option linter.unusedVariables false
open Go.RowKit
def Tr.ht : Tr → Nat
  | .node l r => max l.ht r.ht + 1
  | _ => 0
def Tr.sz : Tr → Nat
  | .node l r => l.sz + r.sz + 1
  | _ => 1
theorem dgs_takeZ {h : Zh} {A : Option Addr} {ks : List B32} (hr : RdZ h A (dgs ks)) (m : Nat) : RdZ h A (dgs (ks.take m)) := by
  have e : dgs ks = dgs (ks.take m) ++ dgs (ks.drop m) := by rw [← dgs_append, List.take_append_drop]
  refine ⟨fun j v hv => hr.at_ j v ?_⟩
  rw [e, List.getElem?_append_left (List.getElem?_eq_some_iff.1 hv).1]
  exact hv
theorem dgs_dropZ {h : Zh} {A : Option Addr} {ks : List B32} {c m : Nat} (hr : RdZ h A (dgs ks)) (hm : m ≤ ks.length) (hc : ks.length ≤ c) : RdZ h (cutA A c m 32) (dgs (ks.drop m)) := by
  have e : dgs ks = dgs (ks.take m) ++ dgs (ks.drop m) := by rw [← dgs_append, List.take_append_drop]
  have hl : (dgs (ks.take m)).length = m * 32 := by rw [dgs_len, List.length_take, Nat.min_eq_left hm]
  unfold cutA
  split
  · have : ks.drop m = [] := List.drop_of_length_le (by omega)
    rw [this]
    exact RdZ.nil _ _
  · refine ⟨fun j v hv => ?_⟩
    have h1 := hr.at_ (m * 32 + j) v (by rw [e, List.getElem?_append_right (by omega), hl, Nat.add_sub_cancel_left]; exact hv)
    obtain ⟨b, o, rfl, h2⟩ := h1
    exact ⟨b, o + m * 32, by simp [Addr.add_mid], by rw [Nat.add_assoc]; exact h2⟩
end Go.Proofs.YtjhocljhhpkiiaaGreatDoor
/- E19 -/
namespace Go.Proofs.YtjhocljhhpkiiaaGreatDoor
set_option linter.unusedSimpArgs false
set_option linter.unusedVariables false
open Go.RowKit
theorem ltK_of {a b : B32} (h : cmpB a b < 0) : ltK a b := cmpB_bits h
theorem chk_ord : ∀ {l : List B32}, chkK l = 0 → l.Pairwise ltK
  | [], _ => .nil
  | [a], _ => List.pairwise_singleton ..
  | a :: b :: l, h => by
    unfold chkK at h
    split at h
    · cases h
    · split at h
      · cases h
      · have ih := chk_ord h
        have hab : ltK a b := ltK_of (by omega)
        refine List.pairwise_cons.2 ⟨fun x hx => ?_, ih⟩
        rcases List.mem_cons.1 hx with rfl | hx
        · exact hab
        · exact ltK_trans hab ((List.pairwise_cons.1 ih).1 x hx)
theorem keysE_ok {l : List B32} (h : keysE l = 0) : l.length ≠ 0 ∧ l.length ≤ 65535 ∧ l.Pairwise ltK := by
  unfold keysE at h
  split at h
  · cases h
  · split at h
    · cases h
    · exact ⟨by assumption, by omega, chk_ord h⟩
end Go.Proofs.YtjhocljhhpkiiaaGreatDoor
/- U68 -/
namespace Go.Proofs.YtjhocljhhpkiiaaGreatDoor
set_option linter.unusedSimpArgs false
set_option linter.unusedVariables false
open Go.RowKit
def preS (n : Nat) : Sub → List UInt8
  | .one x => preI x
  | .two l r => preN (dgS n l) (dgS n r)
end Go.Proofs.YtjhocljhhpkiiaaGreatDoor
/- E21 -/
namespace Go.Proofs.YtjhocljhhpkiiaaGreatDoor
set_option linter.unusedSimpArgs false
set_option linter.unusedVariables false
open Go.RowKit
def Sub.ways (k : B32) : Sub → Nat → List Sub
  | .one x, _ => [.one x]
  | .two l r, d => .two l r :: if bitAt k d then r.ways k (d + 1) else l.ways k (d + 1)
theorem ways_len (k : B32) : ∀ (t : Sub) (d i : Nat), (t.ways k d).length = (t.way k d i).length
  | .one _, _, _ => rfl
  | .two l r, d, i => by
    show (if bitAt k d then r.ways k (d + 1) else l.ways k (d + 1)).length + 1 = (if bitAt k d then r.way k (d + 1) (i + 1 + l.sz) else l.way k (d + 1) (i + 1)).length + 1
    cases bitAt k d
    · exact congrArg (· + 1) (ways_len k l (d + 1) (i + 1))
    · exact congrArg (· + 1) (ways_len k r (d + 1) (i + 1 + l.sz))
theorem way_depth (k : B32) : ∀ (t : Sub) (d i : Nat), (t.way k d i).length = (t.endI k d).2 - d + 1 ∧ d ≤ (t.endI k d).2 ∧ (t.endI k d).2 ≤ d + t.ht
  | .one _, d, i => ⟨by show 1 = d - d + 1; omega, Nat.le_refl _, Nat.le_refl _⟩
  | .two l r, d, i => by
    have h1 := way_depth k l (d + 1) (i + 1)
    have h2 := way_depth k r (d + 1) (i + 1 + l.sz)
    show (if bitAt k d then r.way k (d + 1) (i + 1 + l.sz) else l.way k (d + 1) (i + 1)).length + 1 = (if bitAt k d then r.endI k (d + 1) else l.endI k (d + 1)).2 - d + 1 ∧ d ≤ (if bitAt k d then r.endI k (d + 1) else l.endI k (d + 1)).2 ∧ (if bitAt k d then r.endI k (d + 1) else l.endI k (d + 1)).2 ≤ d + (max l.ht r.ht + 1)
    cases bitAt k d
    · obtain ⟨a, b, c⟩ := h1
      refine ⟨?_, ?_, ?_⟩ <;> simp only [Bool.false_eq_true, if_false] <;> omega
    · obtain ⟨a, b, c⟩ := h2
      refine ⟨?_, ?_, ?_⟩ <;> simp only [if_true] <;> omega
/-- where a subtree stands in the list -/
structure At (l : List Item) (s : Sub) (d i : Nat) : Prop where
  ok : s.ok
  ht : d + s.ht ≤ 256
  le : i ≤ l.length
  eq : ∃ rest, l.drop i = s.flat ++ rest
theorem At.start {l : List Item} {t : Sub} (h : parseM l = .ok t) : At l t 0 0 := by
  obtain ⟨h1, h2, h3⟩ := parse_flat h
  exact ⟨h2, by omega, Nat.zero_le _, [], by rw [List.drop_zero, List.append_nil]; exact h1⟩
theorem At.read {l : List Item} {s : Sub} {d i : Nat} (h : At l s d i) : ∃ rest, readM (256 - d) (l.drop i) = some (s, rest) ∧ l.length = i + s.sz + rest.length := by
  obtain ⟨rest, e⟩ := h.eq
  refine ⟨rest, ?_, ?_⟩
  · rw [e]; exact read_flat s _ _ h.ok (by have := h.ht; omega)
  · have := congrArg List.length e
    rw [List.length_drop, List.length_append, Sub.flat_len] at this
    have := h.le
    have := s.sz_pos
    omega
theorem At.lt {l : List Item} {s : Sub} {d i : Nat} (h : At l s d i) : i < l.length := by
  obtain ⟨rest, _, e⟩ := h.read
  have := s.sz_pos
  omega
theorem At.skip {l : List Item} {s : Sub} {d i : Nat} (h : At l s d i) : skipI l (readM (256 - d) (l.drop i)) = ((i + s.sz : Nat) : Int) := by
  obtain ⟨rest, e, e2⟩ := h.read
  rw [e]
  show (l.length : Int) - (rest.length : Int) = _
  omega
theorem At.one {l : List Item} {x : Item} {d i : Nat} (h : At l (.one x) d i) : l[i]? = some x := by
  obtain ⟨rest, e⟩ := h.eq
  have := congrArg (·[0]?) e
  simpa [List.getElem?_drop, Sub.flat] using this
theorem At.two {l : List Item} {a b : Sub} {d i : Nat} (h : At l (.two a b) d i) : l[i]? = some innerI ∧ At l a (d + 1) (i + 1) ∧ At l b (d + 1) (i + 1 + a.sz) := by
  obtain ⟨rest, e⟩ := h.eq
  have e' : l.drop i = innerI :: (a.flat ++ (b.flat ++ rest)) := by rw [e]; show innerI :: (a.flat ++ b.flat ++ rest) = _; rw [List.append_assoc]
  have hht : d + (max a.ht b.ht + 1) ≤ 256 := h.ht
  have hlt := h.lt
  have e1 : l.drop (i + 1) = a.flat ++ (b.flat ++ rest) := by
    rw [← List.drop_drop, e']; rfl
  have hl1 : l.length - (i + 1) = a.sz + (b.sz + rest.length) := by
    have := congrArg List.length e1
    rwa [List.length_drop, List.length_append, List.length_append, Sub.flat_len, Sub.flat_len] at this
  refine ⟨?_, ⟨h.ok.1, by omega, by omega, _, e1⟩, ⟨h.ok.2, by omega, by have := b.sz_pos; omega, rest, ?_⟩⟩
  · have := congrArg (·[0]?) e'
    simpa [List.getElem?_drop] using this
  · rw [← List.drop_drop, e1, ← a.flat_len, List.drop_left]
end Go.Proofs.YtjhocljhhpkiiaaGreatDoor
/- U76 -/
namespace Go.Proofs.YtjhocljhhpkiiaaGreatDoor
set_option linter.unusedSimpArgs false
set_option linter.unusedVariables false
open Go.RowKit
end Go.Proofs.YtjhocljhhpkiiaaGreatDoor
/- U75 -/
namespace Go.Proofs.YtjhocljhhpkiiaaGreatDoor
set_option linter.unusedSimpArgs false
set_option linter.unusedVariables false
open Go.RowKit
instance iU75_1 : TZero Tryz.prog 232 (.agg [.nilIface, .nilIface].toArray) := ⟨fun w => by kernel_rfl⟩
def endC (l : List (Item × Nat)) : List Value := l.flatMap fun x => End.cells ⟨x.1, (x.2 : Int)⟩
theorem endC_len (l : List (Item × Nat)) : (endC l).length = l.length * 98 := by
  unfold endC
  induction l with
  | nil => rfl
  | cons x l ih => rw [List.flatMap_cons, List.length_append, ih, List.length_cons, End.cells_length]; omega
theorem endC_snoc (l : List (Item × Nat)) (x : Item × Nat) : endC l ++ End.cells ⟨x.1, (x.2 : Int)⟩ = endC (l ++ [x]) := by unfold endC; rw [List.flatMap_append]; simp
section
variable (h : Zh)
theorem ends_one (x : Item) (ks : List B32) (B : Option Addr) (cc d : Nat) (hks : ks.length ≤ 100000) (out : List (Item × Nat)) (A : Option Addr) (c : Nat) (ho : out.length + ks.length ≤ 1000000) (b : Bool) (hb : (x.kind != 3 || ks.isEmpty) = b) : Spec Tryz.prog 205 [.slice A out.length c, .iface (Sub.one x).tag (Sub.one x).val, .slice B ks.length cc, .int .i64 (d : Int)].toArray [.zone false h] [.own (.slice A out.length c) out.length 250 98 (endC out)] (fun u : Option Addr × Nat => .tuple #[.slice u.1 (out ++ ks.map fun _ => (x, d)).length u.2, .bool b]) (fun u => [.own (.slice u.1 (out ++ ks.map fun _ => (x, d)).length u.2) (out ++ ks.map fun _ => (x, d)).length 250 98 (endC (out ++ ks.map fun _ => (x, d)))]) := by
  have ht : ∀ k, k < ks.length → (ks.take (k + 1)).map (fun _ => (x, d)) = (ks.take k).map (fun _ => (x, d)) ++ [(x, d)] := fun k hk => by rw [List.take_add_one, List.getElem?_eq_getElem hk, Option.toList_some, List.map_append]; rfl
  refine spec_of Tryz.func205 rfl (n := 79) rfl rfl ?_
  intro W
  change H _ _ _ _ (argsEnv 0 [.slice A out.length c, .iface 235 (.agg x.cells.toArray), .slice B ks.length cc, .int .i64 (d : Int)]) _ _
  refine h_seq ?_
  refine h_reg ?_
  refine h_op (r_assign rfl) ?_
  refine h_op (r_assign rfl) ?_
  refine h_nil ?_
  refine q_then ?_
  refine h_seq ?_
  refine h_seq ?_
  refine h_reg ?_
  refine h_op (r_move rfl) ?_
  refine h_nil ?_
  refine q_then ?_
  refine h_block ?_
  refine h_seq ?_
  refine h_reg ?_
  refine h_op (r_as2n rfl) ?_
  refine h_op (r_extract rfl rfl) ?_
  refine h_op (r_extract rfl rfl) ?_
  refine h_nil ?_
  refine q_then ?_
  refine h_condF rfl ?_
  refine h_seq ?_
  refine h_reg ?_
  refine h_op (r_as2 rfl) ?_
  refine h_op (r_extract rfl rfl) ?_
  refine h_op (r_extract rfl rfl) ?_
  refine h_nil ?_
  refine q_then ?_
  refine h_condT rfl ?_
  refine h_seq ?_
  refine h_reg ?_
  refine h_opX (x_alloc) fun g14 => ?_
  refine h_opS (s_storer rfl rfl) ?_
  refine h_nil ?_
  refine q_then ?_
  refine h_seq ?_
  refine h_seq ?_
  refine h_reg ?_
  refine h_op (r_move rfl) ?_
  refine h_op (r_len rfl) ?_
  refine h_op (r_move rfl) ?_
  refine h_nil ?_
  refine q_then ?_
  refine h_block ?_
  refine h_loop (fun (s : Nat × List (Item × Nat) × Option Addr × Nat) => s.1 ≤ ks.length ∧ s.2.1 = out ++ (ks.take s.1).map (fun _ => (x, d))) (fun (s : Nat × List (Item × Nat) × Option Addr × Nat) => [(58, .int .i64 (s.1 : Int)), (57, .int .i64 (ks.length : Int)), (0, .slice s.2.2.1 s.2.1.length s.2.2.2), (14, .pointer (some ⟨g14, 0, none⟩)), (3, .int .i64 (d : Int)), (2, .slice B ks.length cc)]) (fun (s : Nat × List (Item × Nat) × Option Addr × Nat) => [.own (.slice s.2.2.1 s.2.1.length s.2.2.2) s.2.1.length 250 98 (endC s.2.1), .blk g14 x.cells 235]) (fun (s : Nat × List (Item × Nat) × Option Addr × Nat) => ks.length - s.1) (0, out, A, c) (⟨Nat.zero_le _, by simp⟩) ⟨rfl, rfl, rfl, rfl, rfl, rfl, trivial⟩ (same) ?_
  rintro ⟨k, o, A', c'⟩ ⟨hk, he⟩
  dsimp only at hk he ⊢
  have hol : o.length = out.length + k := by rw [he, List.length_append, List.length_map, List.length_take]; omega
  refine h_seq ?_
  refine h_reg ?_
  refine h_op (r_lss rfl rfl) ?_
  refine h_nil ?_
  refine q_then ?_
  refine h_seq ?_
  refine h_cond rfl (fun hlt => ?_) (fun hlt => ?_)
  · have hk2 : k < ks.length := by omega
    have hl : o.length + 1 = (o ++ [(x, d)]).length := by rw [List.length_append]; rfl
    refine h_skip ?_
    refine q_then ?_
    refine h_seq ?_
    refine h_block ?_
    refine h_reg ?_
    refine h_op (r_move rfl) ?_
    refine h_op (r_field rfl) ?_
    refine h_op (r_loadr rfl) ?_
    refine h_op (r_move rfl) ?_
    refine h_op (r_build rfl) ?_
    refine h_opX (x_bsl rfl rfl) fun g65 => ?_
    refine h_opX (x_app rfl rfl (k := 98)) fun ⟨g66, c66⟩ => ?_
    refine h_op (r_assign rfl) ?_
    refine h_nil ?_
    refine q_block ?_
    refine q_then ?_
    refine h_reg ?_
    refine h_op (r_add rfl rfl) ?_
    refine h_op (r_move rfl) ?_
    refine h_nil ?_
    change H _ _ _ _ _ (.own _ _ _ _ (endC o ++ End.cells ⟨x, (d : Int)⟩) :: _) _
    rw [endC_snoc o (x, d), hl]
    exact h_back (k + 1, o ++ [(x, d)], some ⟨g66, 0, none⟩, c66) (⟨by dsimp only; omega, by dsimp only; rw [ht k hk2, he, List.append_assoc]⟩) ((show ks.length - (k + 1) < ks.length - k by omega)) ⟨rfl, rfl, rfl, rfl, rfl, rfl, trivial⟩ (same)
  · obtain rfl : k = ks.length := by omega
    rw [List.take_length] at he
    subst he
    by_cases h3 : x.kind = 3
    · have hb2 : decide ((ks.length : Int) = 0) = b := by
        rw [← hb, h3]
        cases ks <;> simp
        omega
      refine h_exit ?_
      refine q_thenE ?_
      refine q_thenE ?_
      refine q_blockE ?_
      refine q_then ?_
      refine h_seq ?_
      refine h_reg ?_
      refine h_op (r_move rfl) ?_
      refine h_op (r_field rfl) ?_
      refine h_op (r_field rfl) ?_
      refine h_op (r_loadc rfl) ?_
      refine h_op (r_bool (r_neq rfl rfl) (show _ = false by simp [h3])) ?_
      refine h_op (r_move rfl) ?_
      refine h_op (r_move rfl) ?_
      refine h_op (r_len rfl) ?_
      refine h_op (r_bool (r_eql rfl rfl) hb2) ?_
      refine h_op (r_pick rfl rfl) ?_
      refine h_op (r_assign rfl) ?_
      refine h_op (r_assign rfl) ?_
      refine h_nil ?_
      refine q_then ?_
      refine h_ret ?_
      refine q_blockR ?_
      refine q_thenR ?_
      exact h_ret2 rfl rfl rfl fun w s => ⟨(A', c'), rfl, (same w s).res (List.Sublist.refl _) (by simp [Fa.wr])⟩
    · obtain rfl : b = true := by rw [← hb]; simp [h3]
      refine h_exit ?_
      refine q_thenE ?_
      refine q_thenE ?_
      refine q_blockE ?_
      refine q_then ?_
      refine h_seq ?_
      refine h_reg ?_
      refine h_op (r_move rfl) ?_
      refine h_op (r_field rfl) ?_
      refine h_op (r_field rfl) ?_
      refine h_op (r_loadc rfl) ?_
      refine h_op (r_bool (r_neq rfl rfl) (show _ = true by simp [h3])) ?_
      refine h_op (r_move rfl) ?_
      refine h_opOff ?_
      refine h_opOff ?_
      refine h_opOff ?_
      refine h_op (r_pick rfl rfl) ?_
      refine h_op (r_assign rfl) ?_
      refine h_op (r_assign rfl) ?_
      refine h_nil ?_
      refine q_then ?_
      refine h_ret ?_
      refine q_blockR ?_
      refine q_thenR ?_
      exact h_ret2 rfl rfl rfl fun w s => ⟨(A', c'), rfl, (same w s).res (List.Sublist.refl _) (by simp [Fa.wr])⟩
theorem ends_none (l r : Sub) (B : Option Addr) (cc d : Nat) (out : List (Item × Nat)) (A : Option Addr) (c : Nat) : Spec Tryz.prog 205 [.slice A out.length c, .iface (Sub.two l r).tag (Sub.two l r).val, .slice B 0 cc, .int .i64 (d : Int)].toArray [.zone false h] [.own (.slice A out.length c) out.length 250 98 (endC out)] (fun u : Option Addr × Nat => .tuple #[.slice u.1 out.length u.2, .bool false]) (fun u => [.own (.slice u.1 out.length u.2) out.length 250 98 (endC out)]) := by
  refine spec_of Tryz.func205 rfl (n := 79) rfl rfl ?_
  intro W
  change H _ _ _ _ (argsEnv 0 [.slice A out.length c, .iface 232 (.agg [.iface l.tag l.val, .iface r.tag r.val].toArray), .slice B 0 cc, .int .i64 (d : Int)]) _ _
  refine h_seq ?_
  refine h_reg ?_
  refine h_op (r_assign rfl) ?_
  refine h_op (r_assign rfl) ?_
  refine h_nil ?_
  refine q_then ?_
  refine h_seq ?_
  refine h_seq ?_
  refine h_reg ?_
  refine h_op (r_move rfl) ?_
  refine h_nil ?_
  refine q_then ?_
  refine h_block ?_
  refine h_seq ?_
  refine h_reg ?_
  refine h_op (r_as2 rfl) ?_
  refine h_op (r_extract rfl rfl) ?_
  refine h_op (r_extract rfl rfl) ?_
  refine h_nil ?_
  refine q_then ?_
  refine h_condT rfl ?_
  refine h_seq ?_
  refine h_reg ?_
  refine h_opX (x_alloc) fun g10 => ?_
  refine h_opS (s_storer rfl rfl) ?_
  refine h_nil ?_
  refine q_then ?_
  refine h_seq ?_
  refine h_seq ?_
  refine h_reg ?_
  refine h_op (r_move rfl) ?_
  refine h_op (r_len rfl) ?_
  refine h_op (r_bool (r_eql rfl rfl) (show _ = true from rfl)) ?_
  refine h_nil ?_
  refine q_then ?_
  refine h_condT rfl ?_
  refine h_seq ?_
  refine h_reg ?_
  refine h_op (r_move rfl) ?_
  refine h_op (r_assign rfl) ?_
  refine h_op (r_assign rfl) ?_
  refine h_nil ?_
  refine q_then ?_
  refine h_ret ?_
  refine q_thenR ?_
  refine q_blockR ?_
  refine q_thenR ?_
  exact h_ret2 rfl rfl rfl fun w s => ⟨(A, c), rfl, (same w s).res (List.Sublist.refl _) (by simp [Fa.wr])⟩
/-- what a call of ends brings -/
def EndsS (t : Sub) : Prop := ∀ (ks : List B32) (B : Option Addr) (cc d : Nat), RdZ h B (dgs ks) → ks.length ≤ cc → ks.length ≤ 100000 → ks.Pairwise ltK → AlikeK ks d → d + t.ht ≤ 256 → ∀ (out : List (Item × Nat)) (A : Option Addr) (c : Nat), out.length + ks.length ≤ 1000000 →
  Spec Tryz.prog 205 [.slice A out.length c, .iface t.tag t.val, .slice B ks.length cc, .int .i64 (d : Int)].toArray [.zone false h] [.own (.slice A out.length c) out.length 250 98 (endC out)] (fun u : Option Addr × Nat => .tuple #[.slice u.1 (out ++ (endsM t ks d).1).length u.2, .bool (endsM t ks d).2]) (fun u => [.own (.slice u.1 (out ++ (endsM t ks d).1).length u.2) (out ++ (endsM t ks d).1).length 250 98 (endC (out ++ (endsM t ks d).1))])
theorem ends_two (l r : Sub) (ihl : EndsS h l) (ihr : EndsS h r) (ks : List B32) (B : Option Addr) (cc d m : Nat) (hB : RdZ h B (dgs ks)) (hcc : ks.length ≤ cc) (hks : ks.length ≤ 100000) (hne : ks.length ≠ 0) (ho : ks.Pairwise ltK) (ha : AlikeK ks d) (hd : d + (Sub.two l r).ht ≤ 256) (hm : m ≤ ks.length) (hp : ∀ j, j < ks.length → bitAt (ks.getD j zB32) d = decide (m ≤ j)) (h1 : ks.take m = keysB ks d false) (h2 : ks.drop m = keysB ks d true) (out : List (Item × Nat)) (A : Option Addr) (c : Nat) (hsz : out.length + ks.length ≤ 1000000) (e1 e2 : List (Item × Nat)) (b1 b2 : Bool) (he1 : endsM l (keysB ks d false) (d + 1) = (e1, b1)) (he2 : endsM r (keysB ks d true) (d + 1) = (e2, b2)) :
    Spec Tryz.prog 205 [.slice A out.length c, .iface (Sub.two l r).tag (Sub.two l r).val, .slice B ks.length cc, .int .i64 (d : Int)].toArray [.zone false h] [.own (.slice A out.length c) out.length 250 98 (endC out)] (fun u : Option Addr × Nat => .tuple #[.slice u.1 (out ++ if b1 then e1 ++ e2 else e1).length u.2, .bool (b1 && b2)]) (fun u => [.own (.slice u.1 (out ++ if b1 then e1 ++ e2 else e1).length u.2) (out ++ if b1 then e1 ++ e2 else e1).length 250 98 (endC (out ++ if b1 then e1 ++ e2 else e1))]) := by
  have hht : d + (max l.ht r.ht + 1) ≤ 256 := hd
  have h0 : 0 < (dgs ks).length := by rw [dgs_len]; omega
  obtain ⟨b, o, rfl, -⟩ := hB.at_ 0 _ (List.getElem?_eq_getElem h0)
  have hlm : (ks.take m).length = m := by rw [List.length_take, Nat.min_eq_left hm]
  have hle1 := endsM_len l (keysB ks d false) (d + 1)
  rw [he1, ← h1, hlm] at hle1
  dsimp only at hle1
  have hL := ihl (ks.take m) (some ⟨b, o, none⟩) m (d + 1) (dgs_takeZ hB m) (by omega) (by omega) (by rw [h1]; exact keysB_ord ho _) (by rw [h1]; exact keysB_alike ha _) (by omega) out A c (by omega)
  have hR := ihr (ks.drop m) (cutA (some ⟨b, o, none⟩) cc m 32) (cc - m) (d + 1) (dgs_dropZ hB hm hcc) (by rw [List.length_drop]; omega) (by rw [List.length_drop]; omega) (by rw [h2]; exact keysB_ord ho _) (by rw [h2]; exact keysB_alike ha _) (by omega) (out ++ e1)
  rw [hlm, h1, he1] at hL
  rw [List.length_drop] at hR
  simp only [h2, he2] at hR
  dsimp only at hL
  have hS := Split_s ks (some ⟨b, o, none⟩) cc d m (by omega) (by omega) hm hp
  refine spec_of Tryz.func205 rfl (n := 79) rfl rfl ?_
  intro W
  change H _ _ _ _ (argsEnv 0 [.slice A out.length c, .iface 232 (.agg [.iface l.tag l.val, .iface r.tag r.val].toArray), .slice (some ⟨b, o, none⟩) ks.length cc, .int .i64 (d : Int)]) _ _
  refine h_seq ?_
  refine h_reg ?_
  refine h_op (r_assign rfl) ?_
  refine h_op (r_assign rfl) ?_
  refine h_nil ?_
  refine q_then ?_
  refine h_seq ?_
  refine h_seq ?_
  refine h_reg ?_
  refine h_op (r_move rfl) ?_
  refine h_nil ?_
  refine q_then ?_
  refine h_block ?_
  refine h_seq ?_
  refine h_reg ?_
  refine h_op (r_as2 rfl) ?_
  refine h_op (r_extract rfl rfl) ?_
  refine h_op (r_extract rfl rfl) ?_
  refine h_nil ?_
  refine q_then ?_
  refine h_condT rfl ?_
  refine h_seq ?_
  refine h_reg ?_
  refine h_opX (x_alloc) fun g10 => ?_
  refine h_opS (s_storer rfl rfl) ?_
  refine h_nil ?_
  refine q_then ?_
  refine h_seq ?_
  refine h_seq ?_
  refine h_reg ?_
  refine h_op (r_move rfl) ?_
  refine h_op (r_len rfl) ?_
  refine h_op (r_bool (r_eql rfl rfl) (decide_eq_false (by omega))) ?_
  refine h_nil ?_
  refine q_then ?_
  refine h_condF rfl ?_
  refine h_skip ?_
  refine q_then ?_
  refine h_seq ?_
  refine h_reg ?_
  refine h_op (r_move rfl) ?_
  refine h_op (r_move rfl) ?_
  refine h_call (hS.comes) rfl rfl rfl fun _ => ?_
  refine h_op (r_assign rfl) ?_
  refine h_nil ?_
  refine q_then ?_
  refine h_seq ?_
  refine ha_start [.zone false h, .blk g10 [.iface l.tag l.val, .iface r.tag r.val] 232] [] mixed (same) ?_
  refine ha_takeP 0 rfl (r_move rfl) ?_
  refine ha_takeP 1 rfl (r_idxA rfl rfl) ?_
  refine ha_take 2 rfl (r_loadc rfl) ?_
  refine ha_takeP 3 rfl (r_move rfl) ?_
  refine ha_takeP 4 rfl (r_move rfl) ?_
  refine ha_takeP 5 rfl (r_move rfl) ?_
  refine ha_takeP 6 rfl (r_slHM rfl rfl rfl) ?_
  refine ha_takeP 7 rfl (r_move rfl) ?_
  refine ha_takeP 8 rfl (r_add rfl rfl) ?_
  refine ha_one 9 ?_
  refine ho_C 9 rfl (hL.comes) rfl rfl rfl (fun xx => same) fun ⟨A36, c36⟩ => ?_
  refine ha_takeP 10 rfl (r_move rfl) ?_
  refine ha_takeP 11 rfl (r_extract rfl rfl) ?_
  refine ha_takeP 12 rfl (r_extract rfl rfl) ?_
  refine ha_takeP 13 rfl (r_assign rfl) ?_
  refine ha_takeP 14 rfl (r_assign rfl) ?_
  refine ha_done (by kernel_rfl) ?_
  refine q_then ?_
  cases b1
  · refine h_seq ?_
    refine h_seq ?_
    refine h_reg ?_
    refine h_op (r_move rfl) ?_
    refine h_op (r_not rfl) ?_
    refine h_nil ?_
    refine q_then ?_
    refine h_condT rfl ?_
    refine h_seq ?_
    refine h_reg ?_
    refine h_op (r_move rfl) ?_
    refine h_op (r_assign rfl) ?_
    refine h_op (r_assign rfl) ?_
    refine h_nil ?_
    refine q_then ?_
    refine h_ret ?_
    refine q_thenR ?_
    refine q_blockR ?_
    refine q_thenR ?_
    rw [if_neg Bool.false_ne_true]
    exact h_ret2 rfl rfl rfl fun w s => ⟨(A36, c36), rfl, (same w s).res (List.Sublist.refl _) (by simp [Fa.wr])⟩
  · refine h_seq ?_
    refine h_seq ?_
    refine h_reg ?_
    refine h_op (r_move rfl) ?_
    refine h_op (r_not rfl) ?_
    refine h_nil ?_
    refine q_then ?_
    refine h_condF rfl ?_
    refine h_skip ?_
    refine q_then ?_
    refine h_seq ?_
    rw [if_pos rfl, ← List.append_assoc]
    refine ha_start [.zone false h, .blk g10 [.iface l.tag l.val, .iface r.tag r.val] 232] [] mixed (same) ?_
    refine ha_takeP 0 rfl (r_move rfl) ?_
    refine ha_takeP 1 rfl (r_idxA rfl rfl) ?_
    refine ha_take 2 rfl (r_loadc rfl) ?_
    refine ha_takeP 3 rfl (r_move rfl) ?_
    refine ha_takeP 4 rfl (r_move rfl) ?_
    refine ha_takeP 5 rfl (r_slL rfl rfl) ?_
    refine ha_takeP 6 rfl (r_move rfl) ?_
    refine ha_takeP 7 rfl (r_add rfl rfl) ?_
    refine ha_one 8 ?_
    refine ho_C 8 rfl ((hR A36 c36 (by rw [List.length_append]; omega)).comes) rfl rfl rfl (fun xx => same) fun ⟨A50, c50⟩ => ?_
    refine ha_takeP 9 rfl (r_extract rfl rfl) ?_
    refine ha_takeP 10 rfl (r_extract rfl rfl) ?_
    refine ha_takeP 11 rfl (r_assign rfl) ?_
    refine ha_takeP 12 rfl (r_assign rfl) ?_
    refine ha_done (by kernel_rfl) ?_
    refine q_then ?_
    refine h_ret ?_
    refine q_blockR ?_
    refine q_thenR ?_
    exact h_ret2 rfl rfl rfl fun w s => ⟨(A50, c50), rfl, (same w s).res (List.Sublist.refl _) (by simp [Fa.wr])⟩
theorem ends_s : ∀ t : Sub, EndsS h t
  | .one x => fun ks B cc d _ _ hks _ _ _ out A c ho => ends_one h x ks B cc d hks out A c ho _ rfl
  | .two l r => fun ks B cc d hB hcc hks hord hal hd out A c ho => by
    cases ks with
    | nil =>
      have h1 : endsM (.two l r) [] d = ([], false) := by unfold endsM; rfl
      rw [h1, List.append_nil]
      exact ends_none h l r B cc d out A c
    | cons x ks =>
      obtain ⟨m, m1, m2, m3, m4⟩ := split_at hord hal
      have h1 : endsM (.two l r) (x :: ks) d = (if (endsM l (keysB (x :: ks) d false) (d + 1)).2 then (endsM l (keysB (x :: ks) d false) (d + 1)).1 ++ (endsM r (keysB (x :: ks) d true) (d + 1)).1 else (endsM l (keysB (x :: ks) d false) (d + 1)).1, (endsM l (keysB (x :: ks) d false) (d + 1)).2 && (endsM r (keysB (x :: ks) d true) (d + 1)).2) := by
        conv => lhs; unfold endsM
        cases (endsM l (keysB (x :: ks) d false) (d + 1)).2 <;> simp
      rw [h1]
      exact ends_two h l r (ends_s l) (ends_s r) (x :: ks) B cc d m hB hcc hks (by simp) hord hal hd m1 m2 m3 m4 out A c ho _ _ _ _ rfl rfl
end
/-! Ends -/
section
variable (h : Zh) (l : List Item) (A : Option Addr) (c : Nat) [hr : RdZ h A (its l)] (hc : l.length ≤ c) (hl : l.length ≤ 1000000) (ks : List B32) (B : Option Addr) (cc : Nat) [hB : RdZ h B (dgs ks)]
include hc hl
theorem Ends_s (t : Sub) (hp : parseM l = .ok t) (hcc : ks.length ≤ cc) (hk : ks.length ≤ 100000) (he : keysE ks = 0) (es : List (Item × Nat)) (b : Bool) (hE : endsM t ks 0 = (es, b)) : Spec Tryz.prog 153 [.slice A l.length c, .slice B ks.length cc].toArray [.zone false h] [] (fun u : Option Addr × Nat => .tuple (if b then #[.slice u.1 es.length u.2, .int .i64 0] else #[.slice none 0 0, .int .i64 12])) (fun u => if b then [.own (.slice u.1 es.length u.2) es.length 250 98 (endC es)] else []) := by
  have hP := parse_s h l A c hc hl
  rw [hp] at hP
  obtain ⟨h1, h2, h3⟩ := keysE_ok he
  have hK := mKeys_s ks B cc (by omega)
  rw [he] at hK
  have hht := (parse_flat hp).2.2
  have hA := ends_s h t ks B cc 0 hB hcc hk h3 (fun _ _ _ _ i hi => absurd hi (by omega)) (by omega) [] none 0 (by simp; omega)
  rw [hE] at hA
  simp only [List.nil_append, List.length_nil] at hA
  refine spec_of Tryz.func153 rfl (n := 31) rfl rfl ?_
  intro W
  refine h_seq ?_
  refine h_reg ?_
  refine h_op (r_assign rfl) ?_
  refine h_op (r_assign rfl) ?_
  refine h_nil ?_
  refine q_then ?_
  refine h_seq ?_
  refine h_reg ?_
  refine h_op (r_move rfl) ?_
  refine h_call (hP.comes) rfl rfl rfl fun _ => ?_
  refine h_op (r_move rfl) ?_
  refine h_op (r_extract rfl rfl) ?_
  refine h_op (r_extract rfl rfl) ?_
  refine h_op (r_assign rfl) ?_
  refine h_op (r_assign rfl) ?_
  refine h_nil ?_
  refine q_then ?_
  refine h_seq ?_
  refine h_seq ?_
  refine h_reg ?_
  refine h_op (r_move rfl) ?_
  refine h_op (r_eql rfl rfl) ?_
  refine h_nil ?_
  refine q_then ?_
  refine h_yes rfl (rfl) ?_
  refine h_reg ?_
  refine h_op (r_move rfl) ?_
  refine h_call (hK.comes) rfl rfl rfl fun _ => ?_
  refine h_op (r_assign rfl) ?_
  refine h_nil ?_
  refine q_then ?_
  refine h_seq ?_
  refine h_seq ?_
  refine h_reg ?_
  refine h_op (r_move rfl) ?_
  refine h_op (r_neq rfl rfl) ?_
  refine h_nil ?_
  refine q_then ?_
  refine h_no rfl ((fun h => h rfl)) ?_
  refine h_skip ?_
  refine q_then ?_
  refine h_seq ?_
  refine h_reg ?_
  refine h_op (r_move rfl) ?_
  refine h_op (r_move rfl) ?_
  refine h_nil_own 250 98 (xs := endC []) rfl ?_
  refine h_call (hA.comes) rfl rfl rfl fun ⟨A25, c25⟩ => ?_
  cases b
  · refine h_op (r_move rfl) ?_
    refine h_op (r_extract rfl rfl) ?_
    refine h_op (r_extract rfl rfl) ?_
    refine h_op (r_assign rfl) ?_
    refine h_op (r_assign rfl) ?_
    refine h_nil ?_
    refine q_then ?_
    refine h_seq ?_
    refine h_seq ?_
    refine h_reg ?_
    refine h_op (r_move rfl) ?_
    refine h_op (r_not rfl) ?_
    refine h_nil ?_
    refine q_then ?_
    refine h_condT rfl ?_
    refine h_seq ?_
    refine h_reg ?_
    refine h_op (r_assign rfl) ?_
    refine h_op (r_assign rfl) ?_
    refine h_nil ?_
    refine q_then ?_
    refine h_ret ?_
    refine q_thenR ?_
    exact h_ret2 rfl rfl rfl fun w s => ⟨(none, 0), rfl, s.res (List.nil_sublist _) (by simp)⟩
  · refine h_op (r_move rfl) ?_
    refine h_op (r_extract rfl rfl) ?_
    refine h_op (r_extract rfl rfl) ?_
    refine h_op (r_assign rfl) ?_
    refine h_op (r_assign rfl) ?_
    refine h_nil ?_
    refine q_then ?_
    refine h_seq ?_
    refine h_seq ?_
    refine h_reg ?_
    refine h_op (r_move rfl) ?_
    refine h_op (r_not rfl) ?_
    refine h_nil ?_
    refine q_then ?_
    refine h_condF rfl ?_
    refine h_skip ?_
    refine q_then ?_
    refine h_seq ?_
    refine h_reg ?_
    refine h_op (r_move rfl) ?_
    refine h_op (r_assign rfl) ?_
    refine h_op (r_assign rfl) ?_
    refine h_nil ?_
    refine q_then ?_
    refine h_ret ?_
    exact h_ret2 rfl rfl rfl fun w s => ⟨(A25, c25), rfl, (same (L' := [.own (.slice A25 es.length c25) es.length 250 98 (endC es)]) w s).res (List.Sublist.refl _) (by simp [Fa.wr])⟩
end
end Go.Proofs.YtjhocljhhpkiiaaGreatDoor
/- U80 -/
namespace Go.Proofs.YtjhocljhhpkiiaaGreatDoor
set_option linter.unusedSimpArgs false
set_option linter.unusedVariables false
open Go.RowKit
/-- rows of bytes in the zone -/
def SegsZ (h : Zh) (xs : List Seg) (ls : List (List UInt8)) : Prop := xs.map (fun x => x.2.2) = ls ∧ ∀ x ∈ xs, (∃ g, x.1 = some ⟨g, 0, none⟩) ∧ RdZ h x.1 (bc x.2.2)
theorem SegsZ.len {h : Zh} {xs : List Seg} {ls : List (List UInt8)} (x : SegsZ h xs ls) : xs.length = ls.length := by rw [← x.1, List.length_map]
theorem SegsZ.snoc {h h' : Zh} (hl : LeZ h h') {xs : List Seg} {ls : List (List UInt8)} (x : SegsZ h xs ls) {g c : Nat} {b : List UInt8} (hr : RdZ h' (some ⟨g, 0, none⟩) (bc b)) : SegsZ h' (xs ++ [(some ⟨g, 0, none⟩, c, b)]) (ls ++ [b]) := by
  refine ⟨by rw [List.map_append, x.1]; rfl, fun y hy => ?_⟩
  rcases List.mem_append.1 hy with hy | hy
  · exact ⟨(x.2 y hy).1, (x.2 y hy).2.mono hl⟩
  · rw [List.mem_singleton.1 hy]
    exact ⟨⟨g, rfl⟩, hr⟩
theorem svs_app1 (xs : List Seg) (x : Seg) : svs xs ++ [sv x] = svs (xs ++ [x]) := by simp [svs]
def Sub.pres (n : Nat) (key : B32) (t : Sub) (d : Nat) : List (List UInt8) := (t.ways key d).map (preS n)
theorem pres_one (n : Nat) (key : B32) (x : Item) (d : Nat) : (Sub.one x).pres n key d = [preI x] := rfl
theorem pres_two (n : Nat) (key : B32) (l r : Sub) (d : Nat) : (Sub.two l r).pres n key d = preN (dgS n l) (dgS n r) :: if bitAt key d then r.pres n key (d + 1) else l.pres n key (d + 1) := by
  unfold Sub.pres
  rw [Sub.ways]
  cases bitAt key d <;> rfl
theorem pres_len (n : Nat) (key : B32) (t : Sub) (d i : Nat) : (t.pres n key d).length = (t.way key d i).length := by unfold Sub.pres; rw [List.length_map, ways_len]
section
variable (h : Zh) [hT : RdZ h (some ⟨1, 0, none⟩) hashT] (n : Nat) (hn : n ≤ 256) (gh gc k : Nat) (hk : k ≤ 1000000000) (l : List Item) (A : Option Addr) (c : Nat) [hr : RdZ h A (its l)] (hc : l.length ≤ c) (hl : l.length ≤ 1000000) (key : B32)
include hc hl
include hn hk
theorem mPre_k (t : Sub) (hp : parseM l = .ok t) (b : Bool) (hb : ((t.endI key 0).1.kind == 3) = b) : Spec Tryz.prog 91 [.pointer (some ⟨gh, 0, none⟩), .slice A l.length c, .agg key.cells.toArray].toArray [HR gh gc n] [.zone true h, CN gc k] (fun u : {x : Zh × Nat × Nat × List Seg × Nat // LeZ h x.1 ∧ (b = false → SegsZ x.1 x.2.2.2.1 (t.pres n key 0)) ∧ x.2.2.2.2 ≤ k + 256000000} => .tuple (if b then #[.slice none 0 0, .int .i64 12] else #[.slice (some ⟨u.1.2.1, 0, none⟩) (t.pres n key 0).length u.1.2.2.1, .int .i64 0])) (fun u => .zone true u.1.1 :: CN gc u.1.2.2.2.2 :: if b then [] else [.own (.slice (some ⟨u.1.2.1, 0, none⟩) (t.pres n key 0).length u.1.2.2.1) (t.pres n key 0).length 23 1 (svs u.1.2.2.2.1)]) := by
  have hP := parse_s h l A c hc hl
  rw [hp] at hP
  have hco := readM_cost 256 l t [] (parse_ok hp).1
  have hco2 : t.cost ≤ 1000000 := by rw [List.length_nil] at hco; omega
  have hht := (parse_flat hp).2.2
  have hV := hp
  refine spec_of Tryz.func91 rfl (n := 51) rfl rfl ?_
  intro W
  refine h_seq ?_
  refine h_reg ?_
  refine h_opX (x_box rfl) fun g5 => ?_
  refine h_op (r_assign rfl) ?_
  refine h_op (r_assign rfl) ?_
  refine h_nil ?_
  refine q_then ?_
  refine h_seq ?_
  refine h_reg ?_
  refine h_op (r_move rfl) ?_
  refine h_call (hP.comes) rfl rfl rfl fun _ => ?_
  refine h_op (r_move rfl) ?_
  refine h_op (r_extract rfl rfl) ?_
  refine h_op (r_extract rfl rfl) ?_
  refine h_op (r_assign rfl) ?_
  refine h_op (r_assign rfl) ?_
  refine h_nil ?_
  refine q_then ?_
  refine h_seq ?_
  refine h_seq ?_
  refine h_reg ?_
  refine h_op (r_move rfl) ?_
  refine h_op (r_neq rfl rfl) ?_
  refine h_nil ?_
  refine q_then ?_
  refine h_no rfl ((fun h => h rfl)) ?_
  refine h_skip ?_
  refine q_then ?_
  refine h_seq ?_
  refine h_reg ?_
  refine h_op (r_assign rfl) ?_
  refine h_nil ?_
  refine q_then ?_
  refine h_seq ?_
  refine h_reg ?_
  refine h_op (r_assign rfl) ?_
  refine h_nil ?_
  refine q_then ?_
  refine h_block ?_
  refine h_nil_own 23 1 (xs := svs ([] : List Seg)) rfl ?_
  refine h_loop (fun (s : Sub × Nat × Zh × List Seg × Option Addr × Nat × Nat) => LeZ h s.2.2.1 ∧ SegsZ s.2.2.1 s.2.2.2.1 (s.2.2.2.1.map fun x => x.2.2) ∧ t.pres n key 0 = (s.2.2.2.1.map fun x => x.2.2) ++ s.1.pres n key s.2.1 ∧ t.endI key 0 = s.1.endI key s.2.1 ∧ s.2.1 + s.1.ht ≤ 256 ∧ s.1.cost ≤ 1000000 ∧ s.2.2.2.2.2.2 ≤ k + s.2.1 * 1000000 ∧ s.2.2.2.1.length = s.2.1) (fun (s : Sub × Nat × Zh × List Seg × Option Addr × Nat × Nat) => [(0, .pointer (some ⟨gh, 0, none⟩)), (5, .pointer (some ⟨g5, 0, none⟩)), (8, .iface s.1.tag s.1.val), (10, .slice s.2.2.2.2.1 s.2.2.2.1.length s.2.2.2.2.2.1), (11, .int .i64 (s.2.1 : Int))]) (fun (s : Sub × Nat × Zh × List Seg × Option Addr × Nat × Nat) => [.zone true s.2.2.1, .own (.slice s.2.2.2.2.1 s.2.2.2.1.length s.2.2.2.2.2.1) s.2.2.2.1.length 23 1 (svs s.2.2.2.1), CN gc s.2.2.2.2.2.2, .blk g5 key.cells 35, HR gh gc n]) (fun (s : Sub × Nat × Zh × List Seg × Option Addr × Nat × Nat) => s.1.sz) (t, 0, h, [], none, 0, k) (⟨LeZ.refl h, ⟨rfl, fun x hx => by cases hx⟩, rfl, rfl, by dsimp only; omega, hco2, by dsimp only; omega, rfl⟩) ⟨rfl, rfl, rfl, rfl, rfl, trivial⟩ (same) ?_
  rintro ⟨s, d, z, xs, B, c', k'⟩ ⟨hle, hsz, hpr, hen, hd, hcs, hkk, hxl⟩
  dsimp only at hle hsz hpr hen hd hcs hkk hxl ⊢
  have hd9 : d ≤ 256 := by omega
  have hTz : RdZ z (some ⟨1, 0, none⟩) hashT := hT.mono hle
  rcases s with x | ⟨s1, s2⟩
  · rw [pres_one] at hpr
    have hen' : t.endI key 0 = (x, d) := hen
    change H _ _ _ _ ([(0, _), (5, _), (8, .iface 235 (.agg x.cells.toArray)), (10, _), (11, _)]) _ _
    refine h_seq ?_
    refine h_block ?_
    refine h_seq ?_
    refine h_reg ?_
    refine h_op (r_move rfl) ?_
    refine h_nil ?_
    refine q_then ?_
    refine h_block ?_
    refine h_seq ?_
    refine h_reg ?_
    refine h_op (r_as2n rfl) ?_
    refine h_op (r_extract rfl rfl) ?_
    refine h_op (r_extract rfl rfl) ?_
    refine h_nil ?_
    refine q_then ?_
    refine h_condF rfl ?_
    refine h_seq ?_
    refine h_reg ?_
    refine h_op (r_as2 rfl) ?_
    refine h_op (r_extract rfl rfl) ?_
    refine h_op (r_extract rfl rfl) ?_
    refine h_nil ?_
    refine q_then ?_
    refine h_condT rfl ?_
    refine h_seq ?_
    refine h_reg ?_
    refine h_opX (x_alloc) fun g13 => ?_
    refine h_opS (s_storer rfl rfl) ?_
    refine h_nil ?_
    refine q_then ?_
    refine h_seq ?_
    refine h_seq ?_
    refine h_reg ?_
    refine h_op (r_field rfl) ?_
    refine h_op (r_field rfl) ?_
    refine h_op (r_loadc rfl) ?_
    refine h_op (r_eql rfl rfl) ?_
    refine h_nil ?_
    refine q_then ?_
    by_cases h3 : x.kind = 3
    · obtain rfl : b = true := by rw [← hb, hen']; simp [h3]
      refine h_yes rfl (h3) ?_
      refine h_seq ?_
      refine h_reg ?_
      refine h_op (r_assign rfl) ?_
      refine h_op (r_assign rfl) ?_
      refine h_nil ?_
      refine q_then ?_
      refine h_ret ?_
      refine q_thenR ?_
      refine q_blockR ?_
      refine q_blockR ?_
      refine q_thenR ?_
      refine q_thenR ?_
      refine q_blockR ?_
      exact h_ret2 rfl rfl rfl fun w s => ⟨⟨(z, 0, 0, [], k'), hle, (fun h => by cases h), by dsimp only; omega⟩, rfl, (same (L' := [.zone true z, CN gc k']) w s).res (List.Sublist.refl _) (by simp [Fa.wr])⟩
    · obtain rfl : b = false := by rw [← hb, hen']; simp [h3]
      have hpl : (t.pres n key 0).length = xs.length + 1 := by rw [hpr, List.length_append, List.length_map]; rfl
      refine h_no rfl (h3) ?_
      refine h_skip ?_
      refine q_then ?_
      refine h_seq ?_
      refine h_reg ?_
      refine h_op (r_move rfl) ?_
      refine h_op (r_loadr rfl) ?_
      refine h_call ((epre_s x).comes) rfl rfl rfl fun ⟨g48, c48⟩ => ?_
      refine h_opX (x_bsl rfl rfl) fun g49 => ?_
      refine h_opX (x_app rfl rfl (k := 1)) fun ⟨g50, c50⟩ => ?_
      refine h_op (r_assign rfl) ?_
      refine h_op (r_assign rfl) ?_
      refine h_nil ?_
      refine q_then ?_
      refine h_ret ?_
      refine q_blockR ?_
      refine q_blockR ?_
      refine q_thenR ?_
      refine q_thenR ?_
      refine q_blockR ?_
      dsimp only
      rw [← hpl]
      change H _ _ _ _ _ (.own _ _ _ _ (svs xs ++ [sv (some ⟨g48, 0, none⟩, c48, preI x)]) :: _) _
      rw [svs_app1]
      refine h_freezeO (.slice (some ⟨g48, 0, none⟩) (preI x).length c48) fun z2 B2 c2 e2 hle2 hlen2 hnil2 hz2 hr2 => ?_
      injection e2 with e2 _ e3
      subst e2 e3
      exact h_ret2 rfl rfl rfl fun w s => ⟨⟨(z2, g50, c50, xs ++ [(some ⟨g48, 0, none⟩, c48, preI x)], k'), hle.trans hz2, (fun _ => by rw [hpr]; exact hsz.snoc hz2 hr2), by dsimp only; omega⟩, rfl, (same (L' := [.zone true z2, CN gc k', .own (.slice (some ⟨g50, 0, none⟩) (t.pres n key 0).length c50) (t.pres n key 0).length 23 1 (svs (xs ++ [(some ⟨g48, 0, none⟩, c48, preI x)]))]) w s).res (List.Sublist.refl _) (by simp [Fa.wr])⟩
  · have hht2 : d + (max s1.ht s2.ht + 1) ≤ 256 := hd
    have hcs2 : s1.cost + s2.cost + 1 ≤ 1000000 := hcs
    have hd3 : d * 1000000 ≤ 256 * 1000000 := Nat.mul_le_mul_right _ (by omega)
    have hPP := ppre_s n gh gc s1 s2 (dig_s n hn gh gc s1) (dig_s n hn gh gc s2) k' (by omega)
    rw [pres_two] at hpr
    replace hen : t.endI key 0 = if bitAt key d then s2.endI key (d + 1) else s1.endI key (d + 1) := hen
    have hB := Bit_s key d (by omega)
    have hq1 := s1.sz_pos
    have hq2 := s2.sz_pos
    change H _ _ _ _ ([(0, _), (5, _), (8, .iface 232 (.agg [.iface s1.tag s1.val, .iface s2.tag s2.val].toArray)), (10, _), (11, _)]) _ _
    rw [show (Sub.two s1 s2).val = .agg [.iface s1.tag s1.val, .iface s2.tag s2.val].toArray from rfl] at hPP
    refine h_seq ?_
    refine h_block ?_
    refine h_seq ?_
    refine h_reg ?_
    refine h_op (r_move rfl) ?_
    refine h_nil ?_
    refine q_then ?_
    refine h_block ?_
    refine h_seq ?_
    refine h_reg ?_
    refine h_op (r_as2 rfl) ?_
    refine h_op (r_extract rfl rfl) ?_
    refine h_op (r_extract rfl rfl) ?_
    refine h_nil ?_
    refine q_then ?_
    refine h_condT rfl ?_
    refine h_seq ?_
    refine h_reg ?_
    refine h_opX (x_alloc) fun g12 => ?_
    refine h_opS (s_storer rfl rfl) ?_
    refine h_nil ?_
    refine q_then ?_
    refine h_seq ?_
    refine h_reg ?_
    refine h_op (r_move rfl) ?_
    refine h_op (r_loadr rfl) ?_
    refine h_op (r_move rfl) ?_
    refine h_call (hPP.comes) rfl rfl rfl fun ⟨g31, c31⟩ => ?_
    refine h_opX (x_bsl rfl rfl) fun g32 => ?_
    refine h_opX (x_app rfl rfl (k := 1)) fun ⟨g33, c33⟩ => ?_
    refine h_op (r_assign rfl) ?_
    refine h_nil ?_
    refine q_then ?_
    dsimp only
    change H _ _ _ _ _ (.own _ _ _ _ (svs xs ++ [sv (some ⟨g31, 0, none⟩, c31, preN (dgS n s1) (dgS n s2))]) :: _) _
    rw [svs_app1]
    refine h_freezeO (.slice (some ⟨g31, 0, none⟩) (preN (dgS n s1) (dgS n s2)).length c31) fun z2 B2 c2 e2 hle2 hlen2 hnil2 hz2 hr2 => ?_
    injection e2 with e2 _ e3
    subst e2 e3
    have hlx : xs.length + 1 = (xs ++ [((some ⟨g31, 0, none⟩, c31, preN (dgS n s1) (dgS n s2)) : Seg)]).length := by rw [List.length_append]; rfl
    have hsn := hsz.snoc hz2 (c := c31) hr2
    have hmp : (xs.map fun x : Seg => x.2.2) ++ [preN (dgS n s1) (dgS n s2)] = (xs ++ [((some ⟨g31, 0, none⟩, c31, preN (dgS n s1) (dgS n s2)) : Seg)]).map fun x : Seg => x.2.2 := by rw [List.map_append]; rfl
    rw [hmp] at hsn
    rw [hlx]
    generalize hxs2 : xs ++ [((some ⟨g31, 0, none⟩, c31, preN (dgS n s1) (dgS n s2)) : Seg)] = xs2 at *
    cases hbit : bitAt key d
    · rw [show bitN key d = 0 by unfold bitN; rw [hbit]; rfl] at hB
      rw [hbit, if_neg (by simp)] at hpr hen
      refine h_reg ?_
      refine h_op (r_loadr rfl) ?_
      refine h_op (r_move rfl) ?_
      refine h_call (hB.comes) rfl rfl rfl fun _ => ?_
      refine h_op (r_idxA rfl rfl (m := 0)) ?_
      refine h_op (r_loadc rfl) ?_
      refine h_op (r_assign rfl) ?_
      refine h_nil ?_
      refine q_block ?_
      refine q_block ?_
      refine q_then ?_
      refine h_reg ?_
      refine h_op (r_move rfl) ?_
      refine h_op (r_add rfl rfl) ?_
      refine h_op (r_assign rfl) ?_
      refine h_nil ?_
      exact h_back (s1, d + 1, z2, xs2, some ⟨g33, 0, none⟩, c33, k' + s1.cost + s2.cost) (⟨hle.trans hz2, hsn, by dsimp only; rw [hpr, ← hmp, List.append_assoc]; rfl, hen, by dsimp only; omega, by dsimp only; omega, by dsimp only; omega, by dsimp only; omega⟩) ((show s1.sz < s1.sz + s2.sz + 1 by omega)) ⟨rfl, rfl, rfl, rfl, aI rfl (by dsimp only; omega), trivial⟩ (same)
    · rw [show bitN key d = 1 by unfold bitN; rw [hbit]; rfl] at hB
      rw [hbit, if_pos rfl] at hpr hen
      refine h_reg ?_
      refine h_op (r_loadr rfl) ?_
      refine h_op (r_move rfl) ?_
      refine h_call (hB.comes) rfl rfl rfl fun _ => ?_
      refine h_op (r_idxA rfl rfl (m := 1)) ?_
      refine h_op (r_loadc rfl) ?_
      refine h_op (r_assign rfl) ?_
      refine h_nil ?_
      refine q_block ?_
      refine q_block ?_
      refine q_then ?_
      refine h_reg ?_
      refine h_op (r_move rfl) ?_
      refine h_op (r_add rfl rfl) ?_
      refine h_op (r_assign rfl) ?_
      refine h_nil ?_
      exact h_back (s2, d + 1, z2, xs2, some ⟨g33, 0, none⟩, c33, k' + s1.cost + s2.cost) (⟨hle.trans hz2, hsn, by dsimp only; rw [hpr, ← hmp, List.append_assoc]; rfl, hen, by dsimp only; omega, by dsimp only; omega, by dsimp only; omega, by dsimp only; omega⟩) ((show s2.sz < s1.sz + s2.sz + 1 by omega)) ⟨rfl, rfl, rfl, rfl, aI rfl (by dsimp only; omega), trivial⟩ (same)
end
end Go.Proofs.YtjhocljhhpkiiaaGreatDoor
/- U141 -/
namespace Go.Proofs.YtjhocljhhpkiiaaGreatDoor
set_option linter.unusedSimpArgs false
set_option linter.unusedVariables false
open Go.RowKit
/-- the preimage of a subtree's digest -/
def preT (n : Nat) : Tr → List UInt8
  | .nil => preE
  | .leaf k v => preL (leafOf n k v)
  | .node l r => preN (dgT n l) (dgT n r)
theorem preT_dg (n : Nat) (t : Tr) : dgT n t = sumB n (preT n t) := by cases t <;> rfl
theorem preT_len (n : Nat) (t : Tr) : (preT n t).length ≤ 65 := by
  cases t with
  | nil => show preE.length ≤ 65; decide
  | leaf k v => show (preL _).length ≤ 65; rw [preL_len]; exact Nat.le_refl _
  | node l r => show (preN _ _).length ≤ 65; rw [preN_len]; exact Nat.le_refl _
/-- the pointers on a way -/
def wayL (h : Zh) (key : B32) (p : Option Addr) (N : Nat) : List (Option Addr) := (List.range N).map (wayQ h key p)
theorem wayL_len (h : Zh) (key : B32) (p : Option Addr) (N : Nat) : (wayL h key p N).length = N := by simp [wayL]
theorem wayL_at (h : Zh) (key : B32) (p : Option Addr) {N i : Nat} (hi : i < N) : (wayL h key p N)[i]? = some (wayQ h key p i) := by unfold wayL; rw [List.getElem?_map, List.getElem?_range hi]; rfl
theorem wayL_succ (h : Zh) (key : B32) (p : Option Addr) (i : Nat) : ptrs (wayL h key p i) ++ [.pointer (wayQ h key p i)] = ptrs (wayL h key p (i + 1)) := by unfold wayL ptrs; rw [List.range_succ, List.map_append, List.map_append]; rfl
theorem FWay_s (n : Nat) (h : Zh) (t : Tr) (p : Option Addr) [ht : TrZ n h t p] (key : B32) (D : Nat) (hD : WayTo key t D) : Spec Tryz.prog 72 [.pointer p, .agg key.cells.toArray].toArray [.zone false h] [] (fun u : Option Addr × Nat => .slice u.1 (D + 1) u.2) (fun u => [.own (.slice u.1 (D + 1) u.2) (D + 1) 26 1 (ptrs (wayL h key p (D + 1)))]) := by
  have hle := hD.le
  refine spec_of Tryz.func72 rfl (n := 18) rfl rfl ?_
  intro W
  refine h_seq ?_
  refine h_reg ?_
  refine h_opX (x_box rfl) fun g3 => ?_
  refine h_op (r_assign rfl) ?_
  refine h_nil ?_
  refine q_then ?_
  refine h_seq ?_
  refine h_reg ?_
  refine h_opX (x_alloc) fun g5 => ?_
  refine h_nil ?_
  refine q_then ?_
  refine h_seq ?_
  refine h_seq ?_
  refine h_reg ?_
  refine h_op (r_move rfl) ?_
  refine h_op (r_loadr rfl) ?_
  refine h_call ((way_s p key).comes) rfl rfl rfl fun ⟨g1, g2⟩ => ?_
  dsimp only
  refine h_nil ?_
  refine q_then ?_
  refine h_block ?_
  refine h_nil_own 26 1 (xs := ptrs (wayL h key p 0)) rfl ?_
  refine h_range (way_it n h t p key D hD g1 g2) rfl (fun pre mm => ∃ A c, mm = [.blk g5 [.slice A pre.length c] 133, .own (.slice A pre.length c) pre.length 26 1 (ptrs (wayL h key p pre.length))]) [.blk g5 [.slice none 0 0] 133, .own (.slice none 0 0) 0 26 1 (ptrs (wayL h key p 0))] [.zone false h] (by rintro pre mm ⟨A, c, rfl⟩ f hf; simp only [List.mem_cons, List.not_mem_nil, or_false] at hf; rcases hf with rfl | rfl <;> rfl) ⟨none, 0, rfl⟩ rfl (fun _ => rfl) ?_ ?_
  · intro ll rr pre i post mm W1 hr hrp hxs hJ
    obtain ⟨A, c, rfl⟩ := hJ
    have hpre : pre = List.range i ∧ i < D + 1 := range_mid hxs
    obtain ⟨rfl, hi⟩ := hpre
    rw [List.length_range]
    simp only [List.nil_append, List.cons_append]
    refine h_reg ?_
    refine h_op (r_assign rfl) ?_
    refine h_nil ?_
    refine q_then ?_
    refine h_begin hr ?_
    refine h_block ?_
    refine h_reg ?_
    refine h_op (r_loadc rfl) ?_
    refine h_op (r_move rfl) ?_
    refine h_opX (x_bsl rfl rfl) fun g15 => ?_
    refine h_opX (x_app rfl rfl (k := 1)) fun ⟨g16, c16⟩ => ?_
    refine h_opS (s_store rfl rfl rfl) ?_
    refine h_nil ?_
    refine q_block ?_
    dsimp only
    rw [wayL_succ h key p i]
    exact h_endround [.blk g5 [.slice (some ⟨g16, 0, none⟩) (i + 1) c16] 133, .own (.slice (some ⟨g16, 0, none⟩) (i + 1) c16) (i + 1) 26 1 (ptrs (wayL h key p (i + 1)))] hr hrp ⟨some ⟨g16, 0, none⟩, c16, by rw [List.length_append, List.length_range, List.length_singleton]⟩ (by intro f hf; simp only [List.mem_cons, List.not_mem_nil, or_false] at hf; rcases hf with rfl | rfl <;> rfl)
  · intro bb mm hJ
    obtain ⟨A, c, rfl⟩ := hJ
    rw [List.length_range]
    refine q_block ?_
    refine q_then ?_
    simp only [List.nil_append, List.cons_append]
    refine h_seq ?_
    refine h_reg ?_
    refine h_op (r_loadc rfl) ?_
    refine h_op (r_assign rfl) ?_
    refine h_nil ?_
    refine q_then ?_
    refine h_ret ?_
    refine h_mark ?_
    exact h_ret1 rfl rfl fun w s => ⟨(A, c), rfl, (same w s).res (List.Sublist.refl _) (by simp [Fa.wr])⟩
section
variable (n : Nat) (hn : n ≤ 256) (h : Zh) [hT : RdZ h (some ⟨1, 0, none⟩) hashT] (gh gc k : Nat) (hk : k ≤ 100000000000)
include hn hk
theorem xPre_s (t : Tr) (p : Option Addr) [ht : TrZ n h t p] : Spec Tryz.prog 73 [.pointer (some ⟨gh, 0, none⟩), .pointer p].toArray [HR gh gc n, .zone false h] [CN gc k] (fun u : {u : Nat × Nat × Nat // u.2.2 ≤ k + 2} => .slice (some ⟨u.1.1, 0, none⟩) (preT n t).length u.1.2.1) (fun u => [.own (.slice (some ⟨u.1.1, 0, none⟩) (preT n t).length u.1.2.1) (preT n t).length 5 1 (bc (preT n t)), CN gc u.1.2.2]) := by
  have hK := Kind_s n h t p
  have hLf := Leaf_s n h t p
  have hLe := Left_s n h t p
  have hRi := Right_s n h t p
  rcases t with _ | ⟨kk, v⟩ | ⟨l, r⟩
  · refine spec_of Tryz.func73 rfl (n := 24) rfl rfl ?_
    intro W
    refine h_seq ?_
    refine h_reg ?_
    refine h_op (r_assign rfl) ?_
    refine h_nil ?_
    refine q_then ?_
    refine h_seq ?_
    refine h_seq ?_
    refine h_reg ?_
    refine h_op (r_move rfl) ?_
    refine h_call (hK.comes) rfl rfl rfl fun _ => ?_
    refine h_nil ?_
    refine q_then ?_
    refine h_block ?_
    refine h_seq ?_
    refine h_reg ?_
    refine h_op (r_bool (r_eql rfl rfl) (show _ = false from rfl)) ?_
    refine h_op (r_assign rfl) ?_
    refine h_nil ?_
    refine q_then ?_
    refine h_condF rfl ?_
    refine h_seq ?_
    refine h_reg ?_
    refine h_op (r_bool (r_eql rfl rfl) (show _ = false from rfl)) ?_
    refine h_op (r_assign rfl) ?_
    refine h_nil ?_
    refine q_then ?_
    refine h_condF rfl ?_
    refine h_skip ?_
    refine q_block ?_
    refine q_then ?_
    refine h_seq ?_
    refine h_reg ?_
    refine h_call (pEmpty_s.comes) rfl rfl rfl fun ⟨g23, c23⟩ => ?_
    refine h_op (r_assign rfl) ?_
    refine h_nil ?_
    refine q_then ?_
    refine h_ret ?_
    exact h_ret1 rfl rfl fun w s => ⟨⟨(g23, c23, k), by dsimp only; omega⟩, rfl, (same (L' := [.own (.slice (some ⟨g23, 0, none⟩) 1 c23) 1 5 1 (bc preE), CN gc k]) w s).res (List.Sublist.refl _) (by simp [Fa.wr])⟩
  · refine spec_of Tryz.func73 rfl (n := 24) rfl rfl ?_
    intro W
    refine h_seq ?_
    refine h_reg ?_
    refine h_op (r_assign rfl) ?_
    refine h_nil ?_
    refine q_then ?_
    refine h_seq ?_
    refine h_seq ?_
    refine h_reg ?_
    refine h_op (r_move rfl) ?_
    refine h_call (hK.comes) rfl rfl rfl fun _ => ?_
    refine h_nil ?_
    refine q_then ?_
    refine h_block ?_
    refine h_seq ?_
    refine h_reg ?_
    refine h_op (r_bool (r_eql rfl rfl) (show _ = true from rfl)) ?_
    refine h_op (r_assign rfl) ?_
    refine h_nil ?_
    refine q_then ?_
    refine h_condT rfl ?_
    refine h_seq ?_
    refine h_reg ?_
    refine h_op (r_move rfl) ?_
    refine h_call (hLf.comes) rfl rfl rfl fun _ => ?_
    refine h_call ((pLeaf_s (leafOf n kk v)).comes) rfl rfl rfl fun ⟨g11, c11⟩ => ?_
    refine h_op (r_assign rfl) ?_
    refine h_nil ?_
    refine q_then ?_
    refine h_ret ?_
    refine q_blockR ?_
    refine q_thenR ?_
    exact h_ret1 rfl rfl fun w s => ⟨⟨(g11, c11, k), by dsimp only; omega⟩, rfl, (same (L' := [.own (.slice (some ⟨g11, 0, none⟩) (preL (leafOf n kk v)).length c11) (preL (leafOf n kk v)).length 5 1 (bc (preL (leafOf n kk v))), CN gc k]) w s).res (List.Sublist.refl _) (by simp [Fa.wr])⟩
  · have hl := TrZ.left ht
    have hr := TrZ.right ht
    refine spec_of Tryz.func73 rfl (n := 24) rfl rfl ?_
    intro W
    refine h_seq ?_
    refine h_reg ?_
    refine h_op (r_assign rfl) ?_
    refine h_nil ?_
    refine q_then ?_
    refine h_seq ?_
    refine h_seq ?_
    refine h_reg ?_
    refine h_op (r_move rfl) ?_
    refine h_call (hK.comes) rfl rfl rfl fun _ => ?_
    refine h_nil ?_
    refine q_then ?_
    refine h_block ?_
    refine h_seq ?_
    refine h_reg ?_
    refine h_op (r_bool (r_eql rfl rfl) (show _ = false from rfl)) ?_
    refine h_op (r_assign rfl) ?_
    refine h_nil ?_
    refine q_then ?_
    refine h_condF rfl ?_
    refine h_seq ?_
    refine h_reg ?_
    refine h_op (r_bool (r_eql rfl rfl) (show _ = true from rfl)) ?_
    refine h_op (r_assign rfl) ?_
    refine h_nil ?_
    refine q_then ?_
    refine h_condT rfl ?_
    refine h_seq ?_
    refine h_reg ?_
    refine h_op (r_move rfl) ?_
    refine h_op (r_move rfl) ?_
    refine h_call (hLe.comes) rfl rfl rfl fun _ => ?_
    refine h_call ((Digest_s n hn gh gc k (by omega) h l (subP h false p)).comes) rfl rfl rfl fun _ => ?_
    refine h_op (r_move rfl) ?_
    refine h_op (r_move rfl) ?_
    refine h_call (hRi.comes) rfl rfl rfl fun _ => ?_
    refine h_call ((Digest_s n hn gh gc (k + if l.kind = 0 then 1 else 0) (by split <;> omega) h r (subP h true p)).comes) rfl rfl rfl fun _ => ?_
    refine h_call ((pNode_s (dgT n l) (dgT n r)).comes) rfl rfl rfl fun ⟨g22, c22⟩ => ?_
    refine h_op (r_assign rfl) ?_
    refine h_nil ?_
    refine q_then ?_
    refine h_ret ?_
    refine q_blockR ?_
    refine q_thenR ?_
    exact h_ret1 rfl rfl fun w s => ⟨⟨(g22, c22, (k + if l.kind = 0 then 1 else 0) + if r.kind = 0 then 1 else 0), by dsimp only; split <;> split <;> omega⟩, rfl, (same (L' := [.own (.slice (some ⟨g22, 0, none⟩) (preN (dgT n l) (dgT n r)).length c22) (preN (dgT n l) (dgT n r)).length 5 1 (bc (preN (dgT n l) (dgT n r))), CN gc ((k + if l.kind = 0 then 1 else 0) + if r.kind = 0 then 1 else 0)]) w s).res (List.Sublist.refl _) (by simp [Fa.wr])⟩
/-- the preimages on a way -/
def wayPre (n : Nat) (key : B32) (t : Tr) (N : Nat) : List (List UInt8) := (List.range N).map fun i => preT n (wayK key t i)
omit hn hk hT in
theorem wayPre_len (n : Nat) (key : B32) (t : Tr) (N : Nat) : (wayPre n key t N).length = N := by simp [wayPre]
omit hn hk hT in
theorem wayPre_succ (n : Nat) (key : B32) (t : Tr) (N : Nat) : wayPre n key t (N + 1) = wayPre n key t N ++ [preT n (wayK key t N)] := by unfold wayPre; rw [List.range_succ, List.map_append]; rfl
omit hk in
theorem xWay_s (hk2 : k ≤ 10000000000) (t : Tr) (p : Option Addr) [ht : TrZ n h t p] (key : B32) (D : Nat) (hD : WayTo key t D) : Spec Tryz.prog 21 [.pointer (some ⟨gh, 0, none⟩), .pointer p, .agg key.cells.toArray].toArray [HR gh gc n] [.zone true h, CN gc k] (fun u : {u : Zh × Option Addr × Nat × List Seg × Nat // LeZ h u.1 ∧ SegsZ u.1 u.2.2.2.1 (wayPre n key t (D + 1)) ∧ u.2.2.2.2 ≤ k + 1000} => .slice u.1.2.1 (D + 1) u.1.2.2.1) (fun u => [.zone true u.1.1, .own (.slice u.1.2.1 (D + 1) u.1.2.2.1) (D + 1) 23 1 (svs u.1.2.2.2.1), CN gc u.1.2.2.2.2]) := by
  have hle := hD.le
  have hW := FWay_s n h t p key D hD
  have hlen := wayL_len h key p (D + 1)
  have hat := fun i (hi : i < D + 1) => wayL_at h key p hi
  refine spec_of Tryz.func21 rfl (n := 26) rfl rfl ?_
  intro W
  refine h_seq ?_
  refine h_reg ?_
  refine h_opX (x_box rfl) fun g5 => ?_
  refine h_op (r_assign rfl) ?_
  refine h_nil ?_
  refine q_then ?_
  refine h_seq ?_
  refine h_reg ?_
  refine h_op (r_assign rfl) ?_
  refine h_nil ?_
  refine q_then ?_
  refine h_seq ?_
  refine h_seq ?_
  refine h_reg ?_
  refine h_op (r_move rfl) ?_
  refine h_op (r_loadr rfl) ?_
  refine h_call (hW.comes) rfl rfl rfl fun ⟨A12, c12⟩ => ?_
  dsimp only
  refine h_pure (φ := ∃ g, A12 = some ⟨g, 0, none⟩) (fun w s => s.ownSome (N := D + 1) (c := c12) (by omega)) ?_
  rintro ⟨g12, rfl⟩
  refine h_op (r_len rfl) ?_
  refine h_op (r_move rfl) ?_
  refine h_nil ?_
  refine q_then ?_
  refine h_block ?_
  refine h_nil_own 23 1 (xs := svs ([] : List Seg)) rfl ?_
  refine h_loop (fun (s : Zh × List Seg × Option Addr × Nat × Nat) => LeZ h s.1 ∧ s.2.1.length ≤ D + 1 ∧ SegsZ s.1 s.2.1 (wayPre n key t s.2.1.length) ∧ s.2.2.2.2 ≤ k + 2 * s.2.1.length) (fun (s : Zh × List Seg × Option Addr × Nat × Nat) => [(14, .int .i64 (s.2.1.length : Int)), (13, .int .i64 ((D + 1 : Nat) : Int)), (12, .slice (some ⟨g12, 0, none⟩) (D + 1) c12), (7, .slice s.2.2.1 s.2.1.length s.2.2.2.1), (0, .pointer (some ⟨gh, 0, none⟩))]) (fun (s : Zh × List Seg × Option Addr × Nat × Nat) => [.zone true s.1, .own (.slice (some ⟨g12, 0, none⟩) (D + 1) c12) (D + 1) 26 1 (ptrs (wayL h key p (D + 1))), .own (.slice s.2.2.1 s.2.1.length s.2.2.2.1) s.2.1.length 23 1 (svs s.2.1), CN gc s.2.2.2.2, HR gh gc n]) (fun (s : Zh × List Seg × Option Addr × Nat × Nat) => D + 1 - s.2.1.length) (h, [], none, 0, k) (⟨LeZ.refl h, Nat.zero_le _, ⟨rfl, fun x hx => by cases hx⟩, Nat.le_add_right _ _⟩) ⟨rfl, rfl, rfl, rfl, rfl, trivial⟩ (same) ?_
  rintro ⟨z, xs, B, c', k'⟩ ⟨hz, hxl, hsz, hk'⟩
  dsimp only at hz hxl hsz hk' ⊢
  refine h_seq ?_
  refine h_reg ?_
  refine h_op (r_lss rfl rfl) ?_
  refine h_nil ?_
  refine q_then ?_
  refine h_seq ?_
  refine h_cond rfl (fun hlt => ?_) (fun hlt => ?_)
  · have hi : xs.length < D + 1 := by omega
    have hTz : RdZ z (some ⟨1, 0, none⟩) hashT := hT.mono hz
    have htz : TrZ n z (wayK key t xs.length) (wayQ h key p xs.length) := ⟨(wayK_ok ht.ok key xs.length).mono hz⟩
    have hP := xPre_s n hn z gh gc k' (by omega) (wayK key t xs.length) (wayQ h key p xs.length)
    refine h_skip ?_
    refine q_then ?_
    refine h_seq ?_
    refine h_block ?_
    refine h_seq ?_
    refine h_reg ?_
    refine h_op (r_idx rfl rfl) ?_
    refine h_op (r_nth rfl (ptrs_get (hat xs.length hi))) ?_
    refine h_op (r_assign rfl) ?_
    refine h_nil ?_
    refine q_then ?_
    refine h_reg ?_
    refine h_op (r_move rfl) ?_
    refine h_op (r_move rfl) ?_
    refine h_op (r_move rfl) ?_
    refine h_call (hP.comes) rfl rfl rfl fun ⟨⟨g21, c21, k1⟩, hk1⟩ => ?_
    dsimp only at hk1 ⊢
    refine h_opX (x_bsl rfl rfl) fun g22 => ?_
    refine h_opX (x_app rfl rfl (k := 1)) fun ⟨g23, c23⟩ => ?_
    refine h_op (r_assign rfl) ?_
    refine h_nil ?_
    refine q_block ?_
    refine q_then ?_
    refine h_reg ?_
    refine h_op (r_add rfl rfl) ?_
    refine h_op (r_move rfl) ?_
    refine h_nil ?_
    dsimp only
    change H _ _ _ _ _ (.own _ _ _ _ (svs xs ++ [sv (some ⟨g21, 0, none⟩, c21, preT n (wayK key t xs.length))]) :: _) _
    rw [svs_app1]
    refine h_freezeO (.slice (some ⟨g21, 0, none⟩) (preT n (wayK key t xs.length)).length c21) fun z2 B2 c2 e2 hle2 hlen2 hnil2 hz2 hr2 => ?_
    injection e2 with e2 _ e3
    subst e2 e3
    have hlx : xs.length + 1 = (xs ++ [((some ⟨g21, 0, none⟩, c21, preT n (wayK key t xs.length)) : Seg)]).length := by rw [List.length_append]; rfl
    have hsn := hsz.snoc hz2 (c := c21) hr2
    rw [← wayPre_succ] at hsn
    exact h_back (z2, xs ++ [((some ⟨g21, 0, none⟩, c21, preT n (wayK key t xs.length)) : Seg)], some ⟨g23, 0, none⟩, c23, k1) (⟨hz.trans hz2, by dsimp only; rw [← hlx]; omega, by dsimp only; rw [← hlx]; exact hsn, by dsimp only; rw [← hlx]; omega⟩) ((by dsimp only; rw [← hlx]; omega)) ⟨aI rfl (by dsimp only; rw [← hlx]; omega), rfl, rfl, by dsimp only; rw [← hlx]; rfl, rfl, trivial⟩ ((fun w s => by dsimp only; rw [← hlx]; exact same w s))
  · have hx : xs.length = D + 1 := by omega
    rw [hx] at hsz
    rw [hx]
    refine h_exit ?_
    refine q_thenE ?_
    refine q_thenE ?_
    refine q_blockE ?_
    refine q_then ?_
    refine h_seq ?_
    refine h_reg ?_
    refine h_op (r_move rfl) ?_
    refine h_op (r_assign rfl) ?_
    refine h_nil ?_
    refine q_then ?_
    refine h_ret ?_
    exact h_ret1 rfl rfl fun w s => ⟨⟨(z, B, c', xs, k'), hz, hsz, by dsimp only; omega⟩, rfl, (same (L' := [.zone true z, .own (.slice B (D + 1) c') (D + 1) 23 1 (svs xs), CN gc k']) w s).res (List.Sublist.refl _) (by simp [Fa.wr])⟩
/-- Collide -/
theorem xCollide_s (x y : List UInt8) (X Y : Option Addr) (cx cy : Nat) (hX : X = none → x.length = 0 ∧ cx = 0) (hY : Y = none → y.length = 0 ∧ cy = 0) (hx : x.length ≤ 100000000) (hy : y.length ≤ 100000000) : Spec Tryz.prog 28 [.pointer (some ⟨gh, 0, none⟩), .slice X x.length cx, .slice Y y.length cy].toArray [HR gh gc n, .rd X (bc x), .rd Y (bc y), .zone false h] [CN gc k] (fun u : {u : Nat // u ≤ k + 2} => .bool (!decide (x = y) && decide (sumB n x = sumB n y))) (fun u => [CN gc u.1]) := by
  refine spec_of Tryz.func28 rfl (n := 20) rfl rfl ?_
  intro W
  refine h_seq ?_
  refine h_reg ?_
  refine h_op (r_assign rfl) ?_
  refine h_nil ?_
  refine q_then ?_
  refine h_seq ?_
  refine h_reg ?_
  refine h_op (r_move rfl) ?_
  refine h_op (r_move rfl) ?_
  refine h_call ((bEqual_s x y X Y cx cy).comes) rfl rfl rfl fun _ => ?_
  by_cases he : x = y
  · rw [decide_eq_true he]
    refine h_op (r_not rfl) ?_
    refine h_op (r_move rfl) ?_
    refine h_opOff ?_
    refine h_opOff ?_
    refine h_opOff ?_
    refine h_opOff ?_
    refine h_opOff ?_
    refine h_opOff ?_
    refine h_opOff ?_
    refine h_op (r_pick rfl rfl) ?_
    refine h_op (r_assign rfl) ?_
    refine h_nil ?_
    refine q_then ?_
    refine h_ret ?_
    exact h_ret1 rfl rfl fun w s => ⟨⟨k, by omega⟩, rfl, (same (L' := [CN gc k]) w s).res (List.Sublist.refl _) (by simp [Fa.wr])⟩
  · rw [decide_eq_false he]
    refine h_op (r_not rfl) ?_
    refine h_op (r_move rfl) ?_
    refine h_op (r_move rfl) ?_
    refine h_op (r_move rfl) ?_
    refine h_call ((HSum_s n hn gh gc k (by omega) x X cx hX (by omega)).comes) rfl rfl rfl fun _ => ?_
    refine h_op (r_move rfl) ?_
    refine h_op (r_move rfl) ?_
    refine h_call ((HSum_s n hn gh gc (k + 1) (by omega) y Y cy hY (by omega)).comes) rfl rfl rfl fun _ => ?_
    refine h_op (r_bool (r_eqr rfl rfl) rfl) ?_
    refine h_op (r_pick rfl rfl) ?_
    refine h_op (r_assign rfl) ?_
    refine h_nil ?_
    refine q_then ?_
    refine h_ret ?_
    exact h_ret1 rfl rfl fun w s => ⟨⟨k + 1 + 1, by omega⟩, rfl, (same (L' := [CN gc (k + 1 + 1)]) w s).res (List.Sublist.refl _) (by simp [Fa.wr])⟩
end
end Go.Proofs.YtjhocljhhpkiiaaGreatDoor
