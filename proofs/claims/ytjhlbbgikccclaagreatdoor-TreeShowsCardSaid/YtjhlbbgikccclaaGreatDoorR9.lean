/- Trees of maps that are changed: plain; Keys in order, by their bits: plain; Keys in order, split at a depth: plain; The leaves of a map's tree in order; changes of a map: plain; The reference's depths and expansion; The reference's check; The reference: parts of bytes, decoding of proofs; verify.Check, Accepts; The reference's Supports; The reference's expansion; slices.Reverse; fold.Preimages; fold.Preimages; Rows of one's own, one by one: plain; The reference's preimages and steps; The reference's steps; rows of digests that are the same; The reference's checks of claims; Keys compared and checked; What mverify's checks of claims compute: plain; The reference's check; law18.Short; mverify: fail, first over claims and over keys, Claims; mverify: Claims; The reference: claims' form, keys; slices.Equal of keys; Multiproofs: the subtrees that items describe: plain; The items of a tree for some keys: plain; multi: the subtree that items begin with; multi: parse, Check; multi: the digest of a subtree; multiproofs: the reference's Skip; multiproofs: the reference's Check; multiproofs: Root; the reference's Digest and Preimage; Multiproofs as the flat lists of their subtrees: plain; key.Split; multi.add; The reference's view of the keys below a prefix; heights, sizes: plain; Deferred calls of closures: the defer statement, and the call behind the function's body; remove.At: its deferred function; remove.At, remove.Remove; key.Of; tree.New, entry, fail, start (joined texts: E36 E15 E16 E37 U23 U26 U97 U96 U45r U23e U21 U22 U24p U24 U25 U98 U69 E29 U99 U119 U120 U125 E14 E17 U62 U63 U64 U65 U66 U67 E18 U70 U71 E19 N23 U160 U161 U162) -/
import Derived.Test.YtjhlbbgikccclaaGreatDoorR8
import Derived.DefersIn
set_option linter.all false
/- E36 -/
namespace Go.Proofs.YtjhlbbgikccclaaGreatDoor
open Go.RowKit
theorem mkF_perm : ∀ (f : Nat) {m m' : List En} (d : Nat), m.Perm m' → mkF f m d = mkF f m' d
 | 0, _, _, _, _ => rfl
 | f + 1, m, m', d, h => by
  have hl := h.length_eq
  match m, m', h, hl with
  | [], [], _, _ => rfl
  | [], _ :: _, _, hl => simp at hl
  | _ :: _, [], _, hl => simp at hl
  | [e], [e'], h, _ =>
   obtain rfl : e = e' := by simpa using h
   rfl
  | [_], _ :: _ :: _, _, hl => simp at hl
  | _ :: _ :: _, [_], _, hl => simp at hl
  | a :: b :: l, a' :: b' :: l', h, _ =>
   have h0 : (part (a :: b :: l) d false).Perm (part (a' :: b' :: l') d false) := h.filter _
   have h1 : (part (a :: b :: l) d true).Perm (part (a' :: b' :: l') d true) := h.filter _
   show Tr.node (mkF f (part (a :: b :: l) d false) (d + 1)) (mkF f (part (a :: b :: l) d true) (d + 1)) = Tr.node (mkF f (part (a' :: b' :: l') d false) (d + 1)) (mkF f (part (a' :: b' :: l') d true) (d + 1))
   rw [mkF_perm f (d + 1) h0, mkF_perm f (d + 1) h1]
theorem mkT_perm {m m' : List En} (h : m.Perm m') (d : Nat) : mkT m d = mkT m' d := mkF_perm _ d h
theorem join_mkT {m : List En} {d : Nat} (hd : d < 256) : joinT (mkT (part m d false) (d + 1)) (mkT (part m d true) (d + 1)) = mkT m d := by
 match m with
 | [] =>
  show joinT (mkT [] (d + 1)) (mkT [] (d + 1)) = _
  rw [mkT_nil, mkT_nil]
  rfl
 | [e] =>
  cases hb : bitAt e.key d
  ·rw [show part [e] d false = [e] by simp [part, hb], show part [e] d true = [] by simp [part, hb], mkT_one e (by omega), mkT_nil, mkT_one e (by omega)]
   rfl
  ·rw [show part [e] d false = [] by simp [part, hb], show part [e] d true = [e] by simp [part, hb], mkT_one e (by omega), mkT_nil, mkT_one e (by omega)]
   rfl
 | e :: f :: l =>
  have hl := part_len (e :: f :: l) d
  rw [mkT_two (m := e :: f :: l) (by simp) (by omega)]
  unfold joinT
  rw [mkT_kind _ (by omega), mkT_kind _ (by omega)]
  simp only [List.length_cons] at hl
  rw [if_neg (by omega), if_neg (by omega)]
theorem part_append (X Y : List En) (d : Nat) (b : Bool) : part (X ++ Y) d b = part X d b ++ part Y d b := List.filter_append ..
theorem part_all {X : List En} {d : Nat} {b : Bool} (h : ∀ e ∈ X, bitAt e.key d = b) : part X d b = X := List.filter_eq_self.2 fun e he => by rw [h e he]; exact beq_self_eq_true b
theorem part_none {X : List En} {d : Nat} {b : Bool} (h : ∀ e ∈ X, bitAt e.key d = !b) : part X d b = [] := List.filter_eq_nil_iff.2 fun e he => by rw [h e he]; cases b <;> decide
theorem jn_mkT {X Y : List En} {key : B32} {d : Nat} (hd : d < 256) (hx : ∀ e ∈ X, bitAt e.key d = bitAt key d) (hy : ∀ e ∈ Y, bitAt e.key d = !bitAt key d) : jnK key d (mkT X (d + 1)) (mkT Y (d + 1)) = mkT (X ++ Y) d := by
 rw [← join_mkT (m := X ++ Y) hd, part_append, part_append]
 unfold jnK
 cases hb : bitAt key d
 ·rw [if_neg (by simp)]
  rw [hb] at hx hy
  rw [part_all hx, part_none (b := true) (fun e he => hx e he), part_none (b := false) (fun e he => hy e he), part_all (b := true) (fun e he => hy e he), List.append_nil, List.nil_append]
 ·rw [if_pos rfl]
  rw [hb] at hx hy
  rw [part_all hx, part_none (b := false) (fun e he => hx e he), part_none (b := true) (fun e he => hy e he), part_all (b := false) (fun e he => hy e he), List.append_nil, List.nil_append]
def offM (key : B32) (m : List En) : Nat → List En
 | 0 => []
 | i + 1 => sibM key m i ++ offM key m i
theorem part_perm (m : List En) (d : Nat) (b : Bool) : (part m d b ++ part m d (!b)).Perm m := by
 have h := List.filter_append_perm (fun e : En => bitAt e.key d == b) m
 have e : part m d (!b) = m.filter fun e => !(bitAt e.key d == b) := by
  unfold part
  congr 1
  funext e
  cases bitAt e.key d <;> cases b <;> rfl
 rw [e]
 exact h
theorem off_perm (key : B32) (m : List En) : ∀ i, (atM key m i ++ offM key m i).Perm m
 | 0 => by rw [atM, offM, List.append_nil]
 | i + 1 => by
  have h := part_perm (atM key m i) i (bitAt key i)
  rw [atM, offM, ← List.append_assoc]
  exact (h.append_right _).trans (off_perm key m i)
theorem up_mkT {m : List En} {key : B32} {D : Nat} (w : WayM key m D) : ∀ i, i ≤ D → ∀ Y : List En, (∀ e ∈ Y, ∀ j, j < i → bitAt e.key j = bitAt key j) → upD key (mkT m 0) i (mkT Y i) = mkT (Y ++ offM key m i) 0
 | 0, _, Y, _ => by rw [upD, offM, List.append_nil]
 | i + 1, hi, Y, hY => by
  have hle := w.way.le
  have hj := jn_mkT (X := Y) (Y := sibM key m i) (key := key) (d := i) (by omega) (fun e he => hY e he i (by omega)) (fun e he => (part_mem.1 he).2)
  rw [upD, w.sib i (by omega), hj, up_mkT w i (by omega) (Y ++ sibM key m i) (fun e he j hj => (List.mem_append.1 he).elim (fun h => hY e h j (by omega)) fun h => (atM_bits (part_mem.1 h).1).2 j hj), offM, List.append_assoc]
theorem upN_mkT {X : List En} {key : B32} : ∀ j d, d + j ≤ 256 → (∀ e ∈ X, ∀ i, d ≤ i → i < d + j → bitAt e.key i = bitAt key i) → upN key d j (mkT X (d + j)) = mkT X d
 | 0, d, _, _ => rfl
 | j + 1, d, hd, h => by
  have h1 : upN key d (j + 1) (mkT X (d + (j + 1))) = upN key d j (jnK key (d + j) (mkT X (d + j + 1)) .nil) := rfl
  have h2 := jn_mkT (X := X) (Y := []) (key := key) (d := d + j) (by omega) (fun e he => h e he (d + j) (by omega) (by omega)) (fun e he => by cases he)
  rw [mkT_nil, List.append_nil] at h2
  rw [h1, h2]
  exact upN_mkT j d (by omega) fun e he i h3 h4 => h e he i h3 (by omega)
theorem com_below {a b : B32} {i : Nat} (h : i < common a b) : bitAt a i = bitAt b i := by
 unfold common at h
 cases hf : (List.range 256).find? (fun i => bitAt a i ^^ bitAt b i) with
 | none =>
  rw [hf] at h
  have := List.find?_eq_none.1 hf i (by simpa using h)
  simpa using this
 | some m =>
  rw [hf] at h
  rw [List.find?_range_eq_some] at hf
  have := hf.2.2 i (by simpa using h)
  simpa using this
theorem common_ne {a b : B32} (h : a ≠ b) : bitAt a (common a b) ≠ bitAt b (common a b) := fun e => by
 have hlt := common_lt h
 have h1 : common a b + 1 ≤ common a b := common_ge (by omega) fun i hi => by
  rcases Nat.lt_or_ge i (common a b) with h2 | h2
  ·exact com_below h2
  ·obtain rfl : i = common a b := by omega
   exact e
 omega
theorem pair_mkT {a b : En} (hne : a.key ≠ b.key) {d : Nat} (hs : ∀ i, i < d → bitAt a.key i = bitAt b.key i) : pairT (.leaf a.key a.val) (.leaf b.key b.val) d = mkT [a, b] d := by
 have hlt := common_lt hne
 have hge : d ≤ common a.key b.key := common_ge (by
  rcases Nat.lt_or_ge 256 d with h | h
  ·exact absurd (bits_ext fun i hi => hs i (by omega)) hne
  ·exact h) hs
 have hd := common_ne hne
 unfold pairT
 show upN a.key d (common a.key b.key - d) (jnK a.key (common a.key b.key) (.leaf a.key a.val) (.leaf b.key b.val)) = _
 have h1 := jn_mkT (X := [a]) (Y := [b]) (key := a.key) (d := common a.key b.key) hlt (fun e he => by rw [List.mem_singleton.1 he]) (fun e he => by rw [List.mem_singleton.1 he]; revert hd; cases bitAt a.key (common a.key b.key) <;> cases bitAt b.key (common a.key b.key) <;> simp)
 rw [mkT_one a (by omega), mkT_one b (by omega)] at h1
 rw [h1]
 have h2 := upN_mkT (X := [a] ++ [b]) (key := a.key) (common a.key b.key - d) d (by omega) (fun e he i h3 h4 => by
  rcases List.mem_append.1 he with h | h
  ·rw [List.mem_singleton.1 h]
  ·rw [List.mem_singleton.1 h]
   exact (com_below (by omega)).symm)
 rw [show d + (common a.key b.key - d) = common a.key b.key by omega] at h2
 exact h2
theorem insE_perm (e : En) : ∀ l : List En, (insE e l).Perm (e :: l)
 | [] => .refl _
 | f :: l => by
  unfold insE
  split
  ·exact .refl _
  ·exact ((insE_perm e l).cons f).trans (.swap e f l)
theorem putM_perm (m : List En) (e : En) : (putM m e).Perm (e :: remK m e.key) := insE_perm e _
theorem remK_append (X Y : List En) (k : B32) : remK (X ++ Y) k = remK X k ++ remK Y k := List.filter_append ..
theorem remK_none {m : List En} {k : B32} (h : ∀ e ∈ m, e.key ≠ k) : remK m k = m := List.filter_eq_self.2 fun e he => decide_eq_true (h e he)
theorem remK_perm {m m' : List En} (h : m.Perm m') (k : B32) : (remK m k).Perm (remK m' k) := h.filter _
theorem off_key {m : List En} {key : B32} : ∀ i, ∀ e ∈ offM key m i, e.key ≠ key
 | 0, e, he => by cases he
 | i + 1, e, he => by
  rcases List.mem_append.1 he with h | h
  ·intro hk
   have := (part_mem.1 h).2
   rw [hk] at this
   cases hb : bitAt key i <;> rw [hb] at this <;> cases this
  ·exact off_key i e h
theorem putT_mkT {m : List En} {D : Nat} {e : En} (w : WayM e.key m D) : putT e.key e.val (mkT m 0) D = mkT (putM m e) 0 := by
 have hle := w.way.le
 have hp := off_perm e.key m D
 have hoff := off_key (m := m) (key := e.key) D
 have hrem := remK_perm hp e.key
 rw [remK_append, remK_none hoff] at hrem
 unfold putT
 rw [w.on D (Nat.le_refl _)]
 rcases end_get w.last with ⟨h1, h2⟩ | ⟨f, h1, hb, ⟨hk, h2⟩ | ⟨hk, h2⟩⟩
 ·rw [h1] at hrem ⊢
  rw [mkT_nil]
  have hu := up_mkT w D (Nat.le_refl _) [e] fun x hx j hj => by rw [List.mem_singleton.1 hx]
  rw [mkT_one e hle] at hu
  exact hu.trans (mkT_perm ((hrem.cons e).trans (putM_perm m e).symm) 0)
 ·rw [h1] at hrem ⊢
  rw [mkT_one f hle]
  dsimp only
  rw [if_pos hk]
  have hu := up_mkT w D (Nat.le_refl _) [e] fun x hx j hj => by rw [List.mem_singleton.1 hx]
  rw [mkT_one e hle] at hu
  rw [show remK [f] e.key = [] by simp [remK, hk]] at hrem
  exact hu.trans (mkT_perm ((hrem.cons e).trans (putM_perm m e).symm) 0)
 ·rw [h1] at hrem ⊢
  rw [mkT_one f hle]
  dsimp only
  rw [if_neg hk, pair_mkT hk hb]
  have hu := up_mkT w D (Nat.le_refl _) [f, e] fun x hx j hj => by
   rcases List.mem_cons.1 hx with rfl | h
   ·exact hb j hj
   ·rw [List.mem_singleton.1 h]
  rw [show remK [f] e.key = [f] by simp [remK, hk]] at hrem
  refine hu.trans (mkT_perm ?_ 0)
  exact (List.Perm.swap e f _).trans ((hrem.cons e).trans (putM_perm m e).symm)
theorem remK_part (m : List En) (k : B32) (d : Nat) (b : Bool) : part (remK m k) d b = remK (part m d b) k := by
 unfold part remK
 rw [List.filter_filter, List.filter_filter]
 congr 1
 funext e
 exact Bool.and_comm _ _
theorem remK_off {m : List En} {k : B32} {d : Nat} {b : Bool} (hb : bitAt k d = !b) : remK (part m d b) k = part m d b := remK_none fun e he hk => by
 have := (part_mem.1 he).2
 rw [hk, hb] at this
 cases b <;> cases this
end Go.Proofs.YtjhlbbgikccclaaGreatDoor
/- E15 -/
namespace Go.Proofs.YtjhlbbgikccclaaGreatDoor
open Go.RowKit
theorem byte_lt_bits (x y : UInt8) (h : x < y) : ∃ j, j < 8 ∧ (∀ i, i < j → bbit x i = bbit y i) ∧ bbit x j = false ∧ bbit y j = true := by
 have key : ∀ n m : Fin 256, n.val < m.val → ((List.range 8).any fun j => ((List.range j).all fun i => bbit (UInt8.ofNat n.val) i == bbit (UInt8.ofNat m.val) i) && !bbit (UInt8.ofNat n.val) j && bbit (UInt8.ofNat m.val) j) = true := by decide +kernel
 have h2 := key ⟨x.toNat, x.toNat_lt⟩ ⟨y.toNat, y.toNat_lt⟩ (UInt8.lt_iff_toNat_lt.1 h)
 simp only [UInt8.ofNat_toNat, List.any_eq_true, List.mem_range, Bool.and_eq_true, List.all_eq_true, beq_iff_eq, Bool.not_eq_true'] at h2
 obtain ⟨j, hj, ⟨h3, h4⟩, h5⟩ := h2
 exact ⟨j, hj, h3, h4, h5⟩
theorem cmpL_lt : ∀ (a b : List UInt8), cmpL a b < 0 → ∃ k, k < a.length ∧ k < b.length ∧ (∀ i, i < k → a.getD i 0 = b.getD i 0) ∧ a.getD k 0 < b.getD k 0
 | [], b, h => by unfold cmpL at h; omega
 | x :: a, [], h => by unfold cmpL at h; omega
 | x :: a, y :: b, h => by
  unfold cmpL at h
  by_cases h1 : x < y
  ·exact ⟨0, by simp, by simp, fun i hi => by omega, by simpa using h1⟩
  ·rw [if_neg h1] at h
   by_cases h2 : y < x
   ·rw [if_pos h2] at h; omega
   ·rw [if_neg h2] at h
    obtain ⟨k, k1, k2, k3, k4⟩ := cmpL_lt a b h
    have e : x = y := UInt8.le_antisymm (UInt8.not_lt.1 h2) (UInt8.not_lt.1 h1)
    refine ⟨k + 1, by simp; omega, by simp; omega, fun i hi => ?_, by simpa using k4⟩
    cases i with
    | zero => simpa using e
    | succ i => simpa using k3 i (by omega)
theorem cmpB_bits {a b : B32} (h : cmpB a b < 0) : ∃ i, i < 256 ∧ (∀ j, j < i → bitAt a j = bitAt b j) ∧ bitAt a i = false ∧ bitAt b i = true := by
 obtain ⟨k, k1, _, k3, k4⟩ := cmpL_lt a.1 b.1 h
 obtain ⟨j, hj, h1, h2, h3⟩ := byte_lt_bits _ _ k4
 have ha := a.2
 refine ⟨8 * k + j, by omega, fun i hi => ?_, ?_, ?_⟩
 ·unfold bitAt
  by_cases hk : i / 8 < k
  ·rw [k3 _ hk]
  ·have e : i / 8 = k := by omega
   rw [e]
   exact h1 _ (by omega)
 ·unfold bitAt
  rw [show (8 * k + j) / 8 = k by omega, show (8 * k + j) % 8 = j by omega]
  exact h2
 ·unfold bitAt
  rw [show (8 * k + j) / 8 = k by omega, show (8 * k + j) % 8 = j by omega]
  exact h3
end Go.Proofs.YtjhlbbgikccclaaGreatDoor
/- E16 -/
namespace Go.Proofs.YtjhlbbgikccclaaGreatDoor
open Go.RowKit
def ltK (a b : B32) : Prop := ∃ i, i < 256 ∧ (∀ j, j < i → bitAt a j = bitAt b j) ∧ bitAt a i = false ∧ bitAt b i = true
theorem ltK_trans {a b c : B32} (h : ltK a b) (h' : ltK b c) : ltK a c := by
 obtain ⟨i, i1, i2, i3, i4⟩ := h
 obtain ⟨j, j1, j2, j3, j4⟩ := h'
 rcases Nat.lt_trichotomy i j with hij | rfl | hij
 ·exact ⟨i, i1, fun k hk => (i2 k hk).trans (j2 k (by omega)), i3, (j2 i hij) ▸ i4⟩
 ·rw [i4] at j3; cases j3
 ·exact ⟨j, j1, fun k hk => (i2 k (by omega)).trans (j2 k hk), (i2 j hij).trans j3, j4⟩
def AlikeK (l : List B32) (d : Nat) : Prop := ∀ a ∈ l, ∀ b ∈ l, ∀ i, i < d → bitAt a i = bitAt b i
theorem ltK_bit {a b : B32} {d : Nat} (h : ltK a b) (ha : ∀ i, i < d → bitAt a i = bitAt b i) (hb : bitAt a d = true) : bitAt b d = true := by
 obtain ⟨i, i1, i2, i3, i4⟩ := h
 rcases Nat.lt_trichotomy i d with hid | rfl | hid
 ·rw [ha i hid, i4] at i3; cases i3
 ·rw [hb] at i3; cases i3
 ·rw [← i2 d hid]; exact hb
theorem split_at : ∀ {l : List B32} {d : Nat}, l.Pairwise ltK → AlikeK l d → ∃ m, m ≤ l.length ∧ (∀ j, j < l.length → bitAt (l.getD j zB32) d = decide (m ≤ j)) ∧ l.take m = l.filter (fun k => bitAt k d == false) ∧ l.drop m = l.filter (fun k => bitAt k d == true)
 | [], _, _, _ => ⟨0, Nat.le_refl _, fun j hj => by simp at hj, rfl, rfl⟩
 | a :: l, d, ho, ha => by
  obtain ⟨h1, h2⟩ := List.pairwise_cons.1 ho
  have hal : AlikeK l d := fun x hx y hy => ha x (List.mem_cons_of_mem _ hx) y (List.mem_cons_of_mem _ hy)
  cases hb : bitAt a d
  ·obtain ⟨m, m1, m2, m3, m4⟩ := split_at h2 hal
   refine ⟨m + 1, by simp; omega, fun j hj => ?_, ?_, ?_⟩
   ·cases j with
    | zero => simpa using hb
    | succ j =>
     have := m2 j (by simpa using hj)
     rw [List.getD_cons_succ, this]
     exact decide_eq_decide.2 ⟨fun h => by omega, fun h => by omega⟩
   ·rw [List.take_succ_cons, m3, List.filter_cons_of_pos (by simp [hb])]
   ·rw [List.drop_succ_cons, m4, List.filter_cons_of_neg (by simp [hb])]
  ·have hall : ∀ x ∈ l, bitAt x d = true := fun x hx => ltK_bit (h1 x hx) (ha a (List.mem_cons_self ..) x (List.mem_cons_of_mem _ hx)) hb
   refine ⟨0, Nat.zero_le _, fun j hj => ?_, ?_, ?_⟩
   ·cases j with
    | zero => simpa using hb
    | succ j =>
     have hj' : j < l.length := by simpa using hj
     rw [List.getD_cons_succ, List.getD_eq_getElem?_getD, List.getElem?_eq_getElem hj', Option.getD_some, hall _ (List.getElem_mem hj')]
     simp
   ·rw [List.take_zero, List.filter_cons_of_neg (by simp [hb])]
    symm
    rw [List.filter_eq_nil_iff]
    intro x hx
    simp [hall x hx]
   ·rw [List.drop_zero, List.filter_cons_of_pos (by simp [hb])]
    congr 1
    symm
    rw [List.filter_eq_self]
    intro x hx
    simp [hall x hx]
end Go.Proofs.YtjhlbbgikccclaaGreatDoor
/- E37 -/
namespace Go.Proofs.YtjhlbbgikccclaaGreatDoor
open Go.RowKit
def Tr.lv : Tr → List (B32 × List UInt8)
 | .nil => []
 | .leaf k v => [(k, v)]
 | .node l r => l.lv ++ r.lv
theorem part_cut : ∀ {m : List En} {d : Nat}, (m.map En.key).Pairwise ltK → (∀ e ∈ m, ∀ f ∈ m, ∀ i, i < d → bitAt e.key i = bitAt f.key i) → part m d false ++ part m d true = m
 | [], _, _, _ => rfl
 | e :: m, d, ho, ha => by
  rw [List.map_cons] at ho
  obtain ⟨h1, h2⟩ := List.pairwise_cons.1 ho
  have ih := part_cut (m := m) (d := d) h2 fun x hx y hy => ha x (List.mem_cons_of_mem _ hx) y (List.mem_cons_of_mem _ hy)
  cases hb : bitAt e.key d
  ·rw [show part (e :: m) d false = e :: part m d false by simp [part, hb], show part (e :: m) d true = part m d true by simp [part, hb], List.cons_append, ih]
  ·have hall : ∀ f ∈ e :: m, bitAt f.key d = true := fun f hf => by
    rcases List.mem_cons.1 hf with rfl | hf'
    ·exact hb
    ·exact ltK_bit (h1 _ (List.mem_map_of_mem hf')) (fun i hi => ha e (List.mem_cons_self ..) f hf i hi) hb
   rw [part_none (b := false) (fun f hf => by rw [hall f hf]; rfl), part_all hall, List.nil_append]
theorem ord_part {m : List En} (ho : (m.map En.key).Pairwise ltK) (d : Nat) (b : Bool) : ((part m d b).map En.key).Pairwise ltK := ho.sublist ((List.filter_sublist).map _)
theorem lv_mkT {m : List En} {d : Nat} (hd : d ≤ 256) (ha : Alike m d) (ho : (m.map En.key).Pairwise ltK) : (mkT m d).lv = m.map fun e => (e.key, e.val) := by
 refine parts_ind (p := fun m d => (m.map En.key).Pairwise ltK → (mkT m d).lv = m.map fun e => (e.key, e.val)) (fun d _ => by rw [mkT_nil]; rfl) (fun e d h _ => by rw [mkT_one e h]; rfl) (fun m d ha hm hd i1 i2 ho => ?_) 256 m d (by omega) hd ha ho
 rw [mkT_two hm (by omega)]
 show (mkT (part m d false) (d + 1)).lv ++ (mkT (part m d true) (d + 1)).lv = _
 rw [i1 (ord_part ho d false), i2 (ord_part ho d true), ← List.map_append, part_cut ho ha.same]
structure Chg where
 e : En
 del : Bool
abbrev Chg.key (c : Chg) : B32 := c.e.key
def partC (l : List Chg) (d : Nat) (b : Bool) : List Chg := l.filter fun c => bitAt c.key d == b
def hasC (l : List Chg) (k : B32) : Bool := l.any fun c => decide (c.key = k)
def applyC (m : List En) (l : List Chg) : List En := (m.filter fun e => !hasC l e.key) ++ (l.filter fun c => !c.del).map Chg.e
theorem applyC_nil (m : List En) : applyC m [] = m := by
 unfold applyC hasC
 simp
theorem hasC_part (l : List Chg) (d : Nat) (k : B32) : hasC (partC l d (bitAt k d)) k = hasC l k := by
 unfold hasC partC
 rw [List.any_filter]
 congr 1
 funext c
 by_cases h : c.key = k
 ·rw [h, decide_eq_true rfl, beq_self_eq_true]; rfl
 ·rw [decide_eq_false h, Bool.and_false]
theorem applyC_part (m : List En) (l : List Chg) (d : Nat) (b : Bool) : part (applyC m l) d b = applyC (part m d b) (partC l d b) := by
 unfold applyC
 rw [part_append]
 congr 1
 ·unfold part
  rw [List.filter_filter, List.filter_filter]
  apply List.filter_congr
  intro e _
  by_cases h : bitAt e.key d = b
  ·rw [h, beq_self_eq_true, Bool.true_and, Bool.and_true, ← h, hasC_part]
  ·rw [show (bitAt e.key d == b) = false by simpa using h, Bool.false_and, Bool.and_false]
 ·unfold part partC
  rw [List.filter_map, List.filter_filter, List.filter_filter]
  congr 1
  apply List.filter_congr
  intro c _
  exact Bool.and_comm _ _
theorem join_applyC {m : List En} {l : List Chg} {d : Nat} (hd : d < 256) : joinT (mkT (applyC (part m d false) (partC l d false)) (d + 1)) (mkT (applyC (part m d true) (partC l d true)) (d + 1)) = mkT (applyC m l) d := by
 rw [← applyC_part, ← applyC_part]
 exact join_mkT hd
end Go.Proofs.YtjhlbbgikccclaaGreatDoor
/- U23 -/
namespace Go.Proofs.YtjhlbbgikccclaaGreatDoor
open Go.RowKit
end Go.Proofs.YtjhlbbgikccclaaGreatDoor
/- U26 -/
namespace Go.Proofs.YtjhlbbgikccclaaGreatDoor
open Go.RowKit
end Go.Proofs.YtjhlbbgikccclaaGreatDoor
/- U97 -/
namespace Go.Proofs.YtjhlbbgikccclaaGreatDoor
open Go.RowKit
def fillP (f : Nat → UInt8) (k : Nat) : List UInt8 := (List.range k).map f ++ List.replicate (32 - k) 0
theorem fillP_len (f : Nat → UInt8) {k : Nat} (h : k ≤ 32) : (fillP f k).length = 32 := by simp [fillP]; omega
theorem fillP_set (f : Nat → UInt8) {k : Nat} (h : k < 32) : (fillP f k).set k (f k) = fillP f (k + 1) := by
 unfold fillP
 rw [List.set_append_right _ _ (by simp), show 32 - k = (32 - (k + 1)) + 1 by omega, List.replicate_succ]
 simp only [List.length_map, List.length_range, Nat.sub_self, List.set_cons_zero]
 rw [List.range_succ, List.map_append, List.append_assoc]
 rfl
theorem fillP_all (l : List UInt8) (o : Nat) : fillP (fun j => l.getD (o + j) 0) 32 = (b32At l o).1 := by
 show (List.range 32).map _ ++ List.replicate 0 0 = _
 rw [List.replicate_zero, List.append_nil]
 rfl
theorem rOf_s (l : List UInt8) (A : Option Addr) (c : Nat) (hl : l.length = 32) : Spec Tryz.prog 38 [.slice A l.length c].toArray [.rd A (bc l)] [] (fun _ : Unit => .agg (keyOf l).cells.toArray) (fun _ => []) := by
 have hko : (b32At l 0) = keyOf l := by
  have h1 := b32At_drop (l := l) (o := 0) (by omega)
  rw [List.drop_zero, List.drop_of_length_le (by omega), List.append_nil] at h1
  unfold keyOf
  rw [dif_pos hl]
  exact Subtype.ext h1.symm
 rw [← hko]
 refine spec_of Tryz.func38 rfl (n := 16) rfl rfl ?_
 intro W
 refine h_pure (φ := ∃ b o, A = some ⟨b, o, none⟩) (fun w s => Rd.some (s.ok (.rd A (bc l)) (by simp)) (by rw [bc_length]; omega)) ?_
 rintro ⟨b, o, rfl⟩
 refine yR ?_
 refine h_opX (x_alloc) fun g2 => ?_
 refine yN ?_
 refine yR ?_
 refine h_opX (x_alloc) fun g3 => ?_
 refine yN ?_
 refine h_seq ?_
 refine yR ?_
 refine yS rfl ?_
 refine yN ?_
 refine h_block ?_
 change H _ _ _ _ _ (.blk g3 (bc (fillP (fun j => l.getD (0 + j) 0) 0)) _ :: _) _
 refine h_loop (fun (k : Nat) => k ≤ 32) (fun (k : Nat) => [(4, .int .i64 (k : Int)), (3, .pointer (some ⟨g3, 0, none⟩)), (2, .pointer (some ⟨g2, 0, none⟩)), (0, .slice (some ⟨b, o, none⟩) l.length c)]) (fun (k : Nat) => [.blk g3 (bc (fillP (fun j => l.getD (0 + j) 0) k)) 34, .blk g2 zB32.cells 34, .rd (some ⟨b, o, none⟩) (bc l)]) (fun (k : Nat) => 32 - k) 0 ((show 0 ≤ 32 by omega)) ⟨rfl, rfl, rfl, rfl, trivial⟩ (same) ?_
 rintro k hk
 refine h_seq ?_
 refine yR ?_
 refine yM rfl ?_
 refine h_op (r_lss rfl rfl) ?_
 refine yN ?_
 refine h_cond rfl (fun hlt => ?_) (fun hlt => ?_)
 ·have hfl := fillP_len (fun j => l.getD (0 + j) 0) (k := k) hk
  refine h_skip ?_
  refine q_then ?_
  refine h_seq ?_
  refine h_block ?_
  refine h_reg ?_
  refine yM rfl ?_
  refine yM rfl ?_
  refine yM rfl ?_
  refine h_op (r_idx rfl rfl) ?_
  refine h_op (r_nth rfl (bc_at' (l := l) (i := k) (by omega))) ?_
  refine h_op (r_idxA rfl rfl) ?_
  refine h_opS (s_setB rfl rfl) ?_
  refine h_nil ?_
  refine q_block ?_
  refine q_then ?_
  refine h_reg ?_
  refine yM rfl ?_
  refine h_op (r_add rfl rfl) ?_
  refine yS rfl ?_
  refine h_nil ?_
  change H _ _ _ _ _ (.blk g3 (bc ((fillP (fun j => l.getD (0 + j) 0) k).set k (l.getD k 0))) _ :: _) _
  rw [show l.getD k 0 = l.getD (0 + k) 0 by rw [Nat.zero_add], fillP_set (fun j => l.getD (0 + j) 0) (by omega)]
  exact h_back (k + 1) ((show k + 1 ≤ 32 by omega)) ((show 32 - (k + 1) < 32 - k by omega)) ⟨rfl, rfl, rfl, rfl, trivial⟩ (same)
 ·obtain rfl : k = 32 := by omega
  rw [fillP_all]
  change H _ _ _ _ _ (.blk g3 (b32At l 0).cells _ :: _) _
  refine h_exit ?_
  refine q_thenE ?_
  refine q_thenE ?_
  refine q_blockE ?_
  refine q_then ?_
  refine yR ?_
  refine h_op (r_loadr rfl) ?_
  refine h_opS (s_storer rfl rfl) ?_
  refine yN ?_
  refine h_ret ?_
  exact h_ret1 rfl (rv_row rfl) fun w s => ⟨(), rfl, s.res (List.nil_sublist _) (by simp)⟩
end Go.Proofs.YtjhlbbgikccclaaGreatDoor
/- U96 -/
namespace Go.Proofs.YtjhlbbgikccclaaGreatDoor
open Go.RowKit
theorem r_ifnn {P : Program} {n : Nat} {D : List Deferred} {E : Env} {L : List Fa} {T T' : TypeId} {t : Nat} {u : TypeId} {v : Value} [hT : TIf P T] (hx : ev E (.tmp t) = some (.iface u v)) : Runs0 P n D E L (.binOp .neq T (.tmp t) (.const .nilIface) T') (.bool true) := fun a w ka s o ho =>
 run_bin ho (ka.ev hx) (v := .nilIface) rfl rfl (run_neq_held_nil w T u v hT.und)
theorem r_nilnn {P : Program} {n : Nat} {D : List Deferred} {E : Env} {L : List Fa} {T T' : TypeId} {t : Nat} [hT : TIf P T] (hx : ev E (.tmp t) = some .nilIface) : Runs0 P n D E L (.binOp .neq T (.tmp t) (.const .nilIface) T') (.bool false) := fun a w ka s o ho =>
 run_bin ho (ka.ev hx) (v := .nilIface) rfl rfl (run_neq_nil_nil w T hT.und)
end Go.Proofs.YtjhlbbgikccclaaGreatDoor
/- U45r -/
namespace Go.Proofs.YtjhlbbgikccclaaGreatDoor
open Go.RowKit
end Go.Proofs.YtjhlbbgikccclaaGreatDoor
/- U23e -/
namespace Go.Proofs.YtjhlbbgikccclaaGreatDoor
open Go.RowKit
end Go.Proofs.YtjhlbbgikccclaaGreatDoor
/- U21 -/
namespace Go.Proofs.YtjhlbbgikccclaaGreatDoor
open Go.RowKit
end Go.Proofs.YtjhlbbgikccclaaGreatDoor
/- U22 -/
namespace Go.Proofs.YtjhlbbgikccclaaGreatDoor
open Go.RowKit
def ownsOf : List Seg → List Fa
 | [] => []
 | x :: l => .own (sv x) x.2.2.length 5 1 (bc x.2.2) :: ownsOf l
theorem ownsOf_wr (xs : List Seg) : ∀ f ∈ ownsOf xs, f.wr = true := by
 induction xs with
 | nil => intro f hf; cases hf
 | cons x l ih => intro f hf; rcases List.mem_cons.1 hf with rfl | h; rfl; exact ih f h
def SegsOk (ys : List Seg) (ls : List (List UInt8)) : Prop := ys.map (fun x => x.2.2) = ls ∧ ∀ x ∈ ys, ∃ g, x.1 = some ⟨g, 0, none⟩
theorem SegsOk.len {ys : List Seg} {ls : List (List UInt8)} (h : SegsOk ys ls) : ys.length = ls.length := by rw [← h.1, List.length_map]
end Go.Proofs.YtjhlbbgikccclaaGreatDoor
/- U24p -/
namespace Go.Proofs.YtjhlbbgikccclaaGreatDoor
open Go.RowKit
theorem SegsOk.cons {xs : List Seg} {l : List UInt8} {ls : List (List UInt8)} (h : SegsOk xs (l :: ls)) : ∃ g c xs', xs = (some ⟨g, 0, none⟩, c, l) :: xs' ∧ SegsOk xs' ls := by
 obtain ⟨h1, h2⟩ := h
 cases xs with
 | nil => cases h1
 | cons x xs' =>
  rw [List.map_cons] at h1
  injection h1 with h3 h4
  obtain ⟨g, hg⟩ := h2 x (List.mem_cons_self ..)
  obtain ⟨A, c, l'⟩ := x
  simp only at h3 hg
  subst h3 hg
  exact ⟨g, c, xs', rfl, h4, fun y hy => h2 y (List.mem_cons_of_mem _ hy)⟩
instance (priority := 5) (N M : List Fa) : App N M (N ++ M) := ⟨rfl⟩
theorem SegsOk.at {xs : List Seg} {ls : List (List UInt8)} (h : SegsOk xs ls) {i : Nat} {l : List UInt8} (hl : ls[i]? = some l) : ∃ g c, xs[i]? = some (some ⟨g, 0, none⟩, c, l) := by
 rw [← h.1, List.getElem?_map] at hl
 obtain ⟨x, hx, e⟩ := Option.map_eq_some_iff.1 hl
 obtain ⟨g, hg⟩ := h.2 x (List.mem_of_getElem? hx)
 obtain ⟨A, c, l'⟩ := x
 simp only at e hg
 subst e hg
 exact ⟨g, c, hx⟩
end Go.Proofs.YtjhlbbgikccclaaGreatDoor
/- U24 -/
namespace Go.Proofs.YtjhlbbgikccclaaGreatDoor
open Go.RowKit
end Go.Proofs.YtjhlbbgikccclaaGreatDoor
/- U25 -/
namespace Go.Proofs.YtjhlbbgikccclaaGreatDoor
open Go.RowKit
end Go.Proofs.YtjhlbbgikccclaaGreatDoor
/- U98 -/
namespace Go.Proofs.YtjhlbbgikccclaaGreatDoor
open Go.RowKit
end Go.Proofs.YtjhlbbgikccclaaGreatDoor
/- U69 -/
namespace Go.Proofs.YtjhlbbgikccclaaGreatDoor
open Go.RowKit
instance iU69_1 : TCmp Tryz.prog 229 := ⟨fun args w => run_callFunc_extern Tryz.func229 (by kernel_rfl) (by kernel_rfl) (by kernel_rfl) (by kernel_rfl) args w⟩
theorem compare_eq : ∀ (a b : List UInt8), a.length = b.length → Lib.compareBytes a b = cmpL a b
 | [], [], _ => rfl
 | [], _ :: _, h => by cases h
 | _ :: _, [], h => by cases h
 | x :: a, y :: b, h => by
  unfold Lib.compareBytes cmpL
  rw [compare_eq a b (by simpa using h)]
theorem bCompare_s (a b : List UInt8) (hab : a.length = b.length) (A B : Option Addr) (c c' : Nat) : Spec Tryz.prog 158 [.slice A a.length c, .slice B b.length c'].toArray [.rd A (bc a), .rd B (bc b)] [] (fun _ : Unit => .int .i64 (cmpL a b)) (fun _ => []) := by
 rw [← compare_eq a b hab]
 refine spec_of Tryz.func158 rfl (n := 8) rfl rfl ?_
 intro W
 refine yR ?_
 refine yS rfl ?_
 refine yN ?_
 refine yR ?_
 refine yM rfl ?_
 refine yM rfl ?_
 refine h_op (r_cmp rfl rfl) ?_
 refine yS rfl ?_
 refine yN ?_
 refine h_ret ?_
 exact h_ret1 rfl rfl fun w s => ⟨(), rfl, s.res (List.nil_sublist _) (by simp)⟩
theorem kCompare_s (a b : B32) : Spec Tryz.prog 102 [.agg a.cells.toArray, .agg b.cells.toArray].toArray [] [] (fun _ : Unit => .int .i64 (cmpB a b)) (fun _ => []) := by
 have ha := a.2
 have hb := b.2
 have hC := fun A B => bCompare_s a.1 b.1 (by omega) A B 32 32
 rw [ha, hb] at hC
 refine spec_of Tryz.func102 rfl (n := 8) rfl rfl ?_
 intro W
 refine yR ?_
 refine h_opX (x_box rfl) fun g2 => ?_
 refine h_opX (x_box rfl) fun g3 => ?_
 refine yS rfl ?_
 refine yN ?_
 refine h_seq ?_
 refine ha_start [.blk g2 a.cells 34, .blk g3 b.cells 34] [] mixed (same) ?_
 refine ha_takeP 0 rfl (r_slA rfl) ?_
 refine ha_takeP 1 rfl (r_slA rfl) ?_
 refine ha_one 2 ?_
 refine ho_C 2 rfl ((hC (some ⟨g2, 0, none⟩) (some ⟨g3, 0, none⟩)).comes (hr := inferInstanceAs (Rds _ [.rd (some ⟨g2, 0, none⟩) a.cells, .rd (some ⟨g3, 0, none⟩) b.cells]))) rfl rfl rfl (fun xx => same) fun _ => ?_
 refine ha_takeP 3 rfl (r_assign rfl) ?_
 refine ha_done (by kernel_rfl) ?_
 refine q_then ?_
 refine h_ret ?_
 exact h_ret1 rfl rfl fun w s => ⟨(), rfl, s.res (List.nil_sublist _) (by simp)⟩
def chkK : List B32 → Int
 | a :: b :: l => if cmpB a b = 0 then 9 else if 0 < cmpB a b then 8 else chkK (b :: l)
 | _ => 0
theorem kCheck_s (l : List B32) (A : Option Addr) (c : Nat) (hl : l.length ≤ 1000000000) : Spec Tryz.prog 165 [.slice A l.length c].toArray [.rd A (dgs l)] [] (fun _ : Unit => .int .i64 (chkK l)) (fun _ => []) := by
 refine spec_of Tryz.func165 rfl (n := 27) rfl rfl ?_
 intro W
 refine yR ?_
 refine yS rfl ?_
 refine yN ?_
 refine h_seq ?_
 refine yR ?_
 refine yS rfl ?_
 refine yN ?_
 refine h_block ?_
 refine h_loop (fun (k : Nat) => 1 ≤ k ∧ (k = 1 ∨ k ≤ l.length) ∧ chkK l = chkK (l.drop (k - 1))) (fun (k : Nat) => [(3, .int .i64 (k : Int)), (0, .slice A l.length c)]) (fun (k : Nat) => [.rd A (dgs l)]) (fun (k : Nat) => l.length - k) 1 (⟨Nat.le_refl _, .inl rfl, rfl⟩) ⟨rfl, rfl, trivial⟩ (same) ?_
 rintro k ⟨hk1, hk2, he⟩
 refine h_seq ?_
 refine yR ?_
 refine yM rfl ?_
 refine yM rfl ?_
 refine h_op (r_len rfl) ?_
 refine h_op (r_lss rfl rfl) ?_
 refine yN ?_
 refine h_cond rfl (fun hlt => ?_) (fun hlt => ?_)
 ·obtain ⟨j, rfl⟩ : ∃ j, k = j + 1 := ⟨k - 1, by omega⟩
  have hj : j + 1 < l.length := by omega
  have hd : l.drop j = l.getD j zB32 :: l.drop (j + 1) := by rw [List.drop_eq_getElem_cons (by omega), List.getD_eq_getElem?_getD, List.getElem?_eq_getElem (by omega)]; rfl
  have hd2 : l.drop (j + 1) = l.getD (j + 1) zB32 :: l.drop (j + 1 + 1) := by rw [List.drop_eq_getElem_cons hj, List.getD_eq_getElem?_getD, List.getElem?_eq_getElem hj]; rfl
  rw [Nat.add_sub_cancel, hd, hd2, chkK, ← hd2] at he
  refine h_pure (φ := ∃ b o, A = some ⟨b, o, none⟩) (fun w s => Rd.some (s.ok (.rd A (dgs l)) (by simp)) (by rw [dgs_len]; omega)) ?_
  rintro ⟨b, o, rfl⟩
  have h1 := dgs_at (l := l) (k := j) (by omega)
  have h2 := dgs_at (l := l) (k := j + 1) hj
  refine h_skip ?_
  refine q_then ?_
  refine h_seq ?_
  refine h_block ?_
  refine h_seq ?_
  refine ha_start [.rd (some ⟨b, o, none⟩) (dgs l)] [] mixed (same) ?_
  refine ha_takeP 0 rfl (r_move rfl) ?_
  refine ha_takeP 1 rfl (r_move rfl) ?_
  refine ha_takeP 2 rfl (r_subN rfl rfl (m := j) (hm := by omega)) ?_
  refine ha_takeP 3 rfl (r_idx rfl rfl) ?_
  refine ha_take 4 rfl (r_nthr rfl (out := (l.getD j zB32).cells) (B32.cells_length _) h1) ?_
  refine ha_takeP 5 rfl (r_move rfl) ?_
  refine ha_takeP 6 rfl (r_move rfl) ?_
  refine ha_takeP 7 rfl (r_idx rfl rfl) ?_
  refine ha_take 8 rfl (r_nthr rfl (out := (l.getD (j + 1) zB32).cells) (B32.cells_length _) h2) ?_
  refine ha_one 9 ?_
  refine ho_C 9 rfl ((kCompare_s (l.getD j zB32) (l.getD (j + 1) zB32)).comes) rfl rfl rfl (fun xx => same) fun _ => ?_
  refine ha_takeP 10 rfl (r_assign rfl) ?_
  refine ha_done (by kernel_rfl) ?_
  refine q_then ?_
  refine h_block ?_
  refine yR ?_
  refine yM rfl ?_
  refine h_op (r_eql rfl rfl) ?_
  refine yS rfl ?_
  refine yN ?_
  refine h_cond rfl (fun h3 => ?_) (fun h3 => ?_)
  ·rw [if_pos h3] at he
   rw [he]
   refine yR ?_
   refine yS rfl ?_
   refine yN ?_
   refine h_ret ?_
   refine q_blockR ?_
   refine q_blockR ?_
   refine q_thenR ?_
   refine q_thenR ?_
   refine q_blockR ?_
   refine q_thenR ?_
   exact h_ret1 rfl rfl fun w s => ⟨(), rfl, s.res (List.nil_sublist _) (by simp)⟩
  ·rw [if_neg h3] at he
   refine yR ?_
   refine yM rfl ?_
   refine h_op (r_gtr rfl rfl) ?_
   refine yS rfl ?_
   refine yN ?_
   refine h_cond rfl (fun h4 => ?_) (fun h4 => ?_)
   ·rw [if_pos h4] at he
    rw [he]
    refine yR ?_
    refine yS rfl ?_
    refine yN ?_
    refine h_ret ?_
    refine q_blockR ?_
    refine q_blockR ?_
    refine q_thenR ?_
    refine q_thenR ?_
    refine q_blockR ?_
    refine q_thenR ?_
    exact h_ret1 rfl rfl fun w s => ⟨(), rfl, s.res (List.nil_sublist _) (by simp)⟩
   ·rw [if_neg h4] at he
    refine h_skip ?_
    refine q_block ?_
    refine q_block ?_
    refine q_then ?_
    refine h_reg ?_
    refine yM rfl ?_
    refine h_op (r_add rfl rfl) ?_
    refine yS rfl ?_
    refine h_nil ?_
    exact h_back (j + 1 + 1) (⟨by omega, .inr (by omega), he⟩) (by omega) ⟨rfl, rfl, trivial⟩ (same)
 ·have h0 : chkK l = 0 := by
   rw [he]
   have hlen : (l.drop (k - 1)).length ≤ 1 := by rw [List.length_drop]; omega
   match l.drop (k - 1), hlen with
   | [], _ => rfl
   | [_], _ => rfl
   | _ :: _ :: _, h => simp at h
  rw [h0]
  refine h_exit ?_
  refine q_thenE ?_
  refine q_thenE ?_
  refine q_blockE ?_
  refine q_then ?_
  refine yR ?_
  refine yS rfl ?_
  refine yN ?_
  refine h_ret ?_
  exact h_ret1 rfl rfl fun w s => ⟨(), rfl, s.res (List.nil_sublist _) (by simp)⟩
end Go.Proofs.YtjhlbbgikccclaaGreatDoor
/- E29 -/
namespace Go.Proofs.YtjhlbbgikccclaaGreatDoor
open Go.RowKit
structure CB where
 c : Claim
 kb : List UInt8
 vb : List UInt8
def zCB : CB := ⟨zClaim, [], []⟩
def CB.cells (x : CB) : List Value := x.c.cells
def cbs (l : List CB) : List Value := l.flatMap CB.cells
theorem cbs_len (l : List CB) : (cbs l).length = l.length * 3 := by
 unfold cbs
 induction l with
 | nil => rfl
 | cons x l ih => rw [List.flatMap_cons, List.length_append, ih, List.length_cons]; show x.c.cells.length + _ = _; rw [Claim.cells_length]; omega
theorem CB.cells_length (x : CB) : x.cells.length = 3 := Claim.cells_length _
theorem cbs_at {l : List CB} {k : Nat} {x : CB} (h : l[k]? = some x) : ∀ j v, x.c.cells[j]? = some v → (cbs l)[k * 3 + j]? = some v := by
 induction l generalizing k with
 | nil => simp at h
 | cons y l ih =>
  intro j v hv
  show (y.c.cells ++ cbs l)[k * 3 + j]? = some v
  cases k with
  | zero =>
   obtain rfl : y = x := by simpa using h
   rw [Nat.zero_mul, Nat.zero_add, List.getElem?_append_left (List.getElem?_eq_some_iff.1 hv).1]
   exact hv
  | succ k =>
   rw [List.getElem?_append_right (by rw [Claim.cells_length]; omega), Claim.cells_length, show (k + 1) * 3 + j - 3 = k * 3 + j by omega]
   exact ih (by simpa using h) j v hv
def ClsZ (h : Zh) (l : List CB) : Prop := ∀ x ∈ l, SlZ h x.c.key x.kb ∧ SlZ h x.c.value x.vb
theorem ClsZ.mono {h h' : Zh} (hl : LeZ h h') {l : List CB} (hc : ClsZ h l) : ClsZ h' l := fun x hx => ⟨(hc x hx).1.mono hl, (hc x hx).2.mono hl⟩
theorem ClsZ.get {h : Zh} {l : List CB} (hc : ClsZ h l) {k : Nat} (hk : k < l.length) : SlZ h (l.getD k zCB).c.key (l.getD k zCB).kb ∧ SlZ h (l.getD k zCB).c.value (l.getD k zCB).vb := by
 rw [List.getD_eq_getElem?_getD, List.getElem?_eq_getElem hk]
 exact hc _ (List.getElem_mem hk)
theorem getD_get {α : Type} {l : List α} {k : Nat} (z : α) (hk : k < l.length) : l[k]? = some (l.getD k z) := by
 rw [List.getD_eq_getElem?_getD, List.getElem?_eq_getElem hk]; rfl
theorem firstF_zero (code : Nat → Int) : ∀ m i, firstF code m i = none → ∀ j, i ≤ j → j < i + m → code j = 0
 | 0, _, _, _, _, _ => by omega
 | m + 1, i, h, j, h1, h2 => by
  unfold firstF at h
  split at h
  ·rename_i h0
   by_cases e : j = i
   ·rw [e]; exact h0
   ·exact firstF_zero code m (i + 1) h j (by omega) (by omega)
  ·cases h
end Go.Proofs.YtjhlbbgikccclaaGreatDoor
/- U99 -/
namespace Go.Proofs.YtjhlbbgikccclaaGreatDoor
open Go.RowKit
end Go.Proofs.YtjhlbbgikccclaaGreatDoor
/- U119 -/
namespace Go.Proofs.YtjhlbbgikccclaaGreatDoor
open Go.RowKit
end Go.Proofs.YtjhlbbgikccclaaGreatDoor
/- U120 -/
namespace Go.Proofs.YtjhlbbgikccclaaGreatDoor
open Go.RowKit
end Go.Proofs.YtjhlbbgikccclaaGreatDoor
/- U125 -/
namespace Go.Proofs.YtjhlbbgikccclaaGreatDoor
open Go.RowKit
theorem cmpL_eq : ∀ {a b : List UInt8}, a.length = b.length → (cmpL a b = 0 ↔ a = b)
 | [], [], _ => by simp [cmpL]
 | [], _ :: _, h => by cases h
 | _ :: _, [], h => by cases h
 | x :: a, y :: b, h => by
  have ih := cmpL_eq (a := a) (b := b) (by simpa using h)
  unfold cmpL
  by_cases h1 : x < y
  ·rw [if_pos h1]
   refine ⟨fun h => absurd h (by decide), fun h => ?_⟩
   injection h with h _
   subst h
   exact absurd h1 (UInt8.lt_irrefl x)
  ·rw [if_neg h1]
   by_cases h2 : y < x
   ·rw [if_pos h2]
    refine ⟨fun h => absurd h (by decide), fun h => ?_⟩
    injection h with h _
    subst h
    exact absurd h2 (UInt8.lt_irrefl x)
   ·rw [if_neg h2, ih]
    have hxy : x = y := UInt8.le_antisymm (UInt8.not_lt.1 h2) (UInt8.not_lt.1 h1)
    subst hxy
    simp
theorem cmpB_eq {a b : B32} : cmpB a b = 0 ↔ a = b := (cmpL_eq (by rw [a.2, b.2])).trans ⟨fun h => Subtype.ext h, fun h => congrArg Subtype.val h⟩
end Go.Proofs.YtjhlbbgikccclaaGreatDoor
/- E14 -/
namespace Go.Proofs.YtjhlbbgikccclaaGreatDoor
open Go.RowKit
inductive Sub where
 | one (x : Item)
 | two (l r : Sub)
def readM : Nat → List Item → Option (Sub × List Item)
 | _, [] => none
 | 0, x :: rest => if x.kind = 2 then none else some (.one x, rest)
 | d + 1, x :: rest => if x.kind = 2 then (readM d rest).bind fun p => (readM d p.2).bind fun q => some (.two p.1 q.1, q.2) else some (.one x, rest)
def kindOk (x : Item) : Bool := decide (0 ≤ x.kind) && decide (x.kind ≤ 3)
def cleanItem (x : Item) : Bool := (x.kind == 3 || decide (x.digest = zB32)) && (x.kind == 1 || decide (x.leaf = zLeaf))
def skipI (l : List Item) (r : Option (Sub × List Item)) : Int := match r with | none => -1 | some p => (l.length : Int) - p.2.length
end Go.Proofs.YtjhlbbgikccclaaGreatDoor
/- E17 -/
namespace Go.Proofs.YtjhlbbgikccclaaGreatDoor
open Go.RowKit
end Go.Proofs.YtjhlbbgikccclaaGreatDoor
/- U62 -/
namespace Go.Proofs.YtjhlbbgikccclaaGreatDoor
open Go.RowKit
def Sub.tag : Sub → TypeId
 | .one _ => 270
 | .two _ _ => 266
def Sub.val : Sub → Value
 | .one x => .agg x.cells.toArray
 | .two l r => .agg #[.iface l.tag l.val, .iface r.tag r.val]
end Go.Proofs.YtjhlbbgikccclaaGreatDoor
/- U63 -/
namespace Go.Proofs.YtjhlbbgikccclaaGreatDoor
open Go.RowKit
end Go.Proofs.YtjhlbbgikccclaaGreatDoor
/- U64 -/
namespace Go.Proofs.YtjhlbbgikccclaaGreatDoor
open Go.RowKit
end Go.Proofs.YtjhlbbgikccclaaGreatDoor
/- U65 -/
namespace Go.Proofs.YtjhlbbgikccclaaGreatDoor
open Go.RowKit
end Go.Proofs.YtjhlbbgikccclaaGreatDoor
/- U66 -/
namespace Go.Proofs.YtjhlbbgikccclaaGreatDoor
open Go.RowKit
end Go.Proofs.YtjhlbbgikccclaaGreatDoor
/- U67 -/
namespace Go.Proofs.YtjhlbbgikccclaaGreatDoor
open Go.RowKit
end Go.Proofs.YtjhlbbgikccclaaGreatDoor
/- E18 -/
namespace Go.Proofs.YtjhlbbgikccclaaGreatDoor
open Go.RowKit
abbrev innerI : Item := ⟨2, zB32, zLeaf⟩
def Sub.flat : Sub → List Item
 | .one x => [x]
 | .two l r => innerI :: (l.flat ++ r.flat)
def Sub.ht : Sub → Nat
 | .one _ => 0
 | .two l r => max l.ht r.ht + 1
def Sub.ok : Sub → Prop
 | .one x => x.kind ≠ 2 ∧ kindOk x = true ∧ cleanItem x = true
 | .two l r => l.ok ∧ r.ok
def Sub.sz : Sub → Nat
 | .one _ => 1
 | .two l r => l.sz + r.sz + 1
theorem Sub.flat_len : ∀ t : Sub, t.flat.length = t.sz
 | .one _ => rfl
 | .two l r => by
  show (l.flat ++ r.flat).length + 1 = _
  rw [List.length_append, l.flat_len, r.flat_len]
  rfl
theorem Sub.sz_pos : ∀ t : Sub, 0 < t.sz
 | .one _ => Nat.one_pos
 | .two _ _ => Nat.succ_pos _
theorem read_flat : ∀ (t : Sub) (d : Nat) (rest : List Item), t.ok → t.ht ≤ d → readM d (t.flat ++ rest) = some (t, rest)
 | .one x, d, rest, ho, _ => by
  show readM d (x :: rest) = _
  cases d <;> (unfold readM; rw [if_neg ho.1])
 | .two l r, 0, rest, ho, hd => absurd hd (by simp [Sub.ht])
 | .two l r, d + 1, rest, ho, hd => by
  have hd' : max l.ht r.ht + 1 ≤ d + 1 := hd
  show readM (d + 1) (innerI :: ((l.flat ++ r.flat) ++ rest)) = _
  unfold readM
  rw [if_pos rfl, List.append_assoc, read_flat l d _ ho.1 (by omega)]
  simp only [Option.bind_some]
  rw [read_flat r d _ ho.2 (by omega)]
  rfl
def Sub.way (k : B32) : Sub → Nat → Nat → List Nat
 | .one _, _, i => [i]
 | .two l r, d, i => i :: if bitAt k d then r.way k (d + 1) (i + 1 + l.sz) else l.way k (d + 1) (i + 1)
end Go.Proofs.YtjhlbbgikccclaaGreatDoor
/- U70 -/
namespace Go.Proofs.YtjhlbbgikccclaaGreatDoor
open Go.RowKit
theorem splitF_s (l : List B32) (A : Option Addr) (c i j g2 g3 : Nat) (hj : j < l.length) (hi : i < 256) : Spec Tryz.prog 247 [.int .i64 (j : Int), .pointer (some ⟨g2, 0, none⟩), .pointer (some ⟨g3, 0, none⟩)].toArray [.rd (some ⟨g2, 0, none⟩) [.slice A l.length c], .rd (some ⟨g3, 0, none⟩) [.int .i64 (i : Int)], .rd A (dgs l)] [] (fun _ : Unit => .bool (bitAt (l.getD j zB32) i)) (fun _ => []) := by
 have h1 := dgs_at hj
 refine spec_of Tryz.func247 rfl (n := 12) rfl rfl ?_
 intro W
 refine h_pure (φ := ∃ b o, A = some ⟨b, o, none⟩) (fun w s => Rd.some (s.ok (.rd A (dgs l)) (by simp)) (by rw [dgs_len]; omega)) ?_
 rintro ⟨b, o, rfl⟩
 refine yR ?_
 refine yS rfl ?_
 refine yN ?_
 refine h_seq ?_
 refine ha_start [.rd (some ⟨g2, 0, none⟩) [.slice (some ⟨b, o, none⟩) l.length c], .rd (some ⟨g3, 0, none⟩) [.int .i64 (i : Int)], .rd (some ⟨b, o, none⟩) (dgs l)] [] mixed (same) ?_
 refine ha_take 0 rfl (r_loadc rfl) ?_
 refine ha_takeP 1 rfl (r_move rfl) ?_
 refine ha_takeP 2 rfl (r_idx rfl rfl) ?_
 refine ha_take 3 rfl (r_nthr rfl (out := (l.getD j zB32).cells) (B32.cells_length _) h1) ?_
 refine ha_take 4 rfl (r_loadc rfl) ?_
 refine ha_one 5 ?_
 refine ho_C 5 rfl ((Bit_s (l.getD j zB32) i hi).comes) rfl rfl rfl (fun xx => same) fun _ => ?_
 refine ha_takeP 6 rfl (r_bool (r_eql rfl rfl) (bitN_one (l.getD j zB32) i)) ?_
 refine ha_takeP 7 rfl (r_assign rfl) ?_
 refine ha_done (by kernel_rfl) ?_
 refine q_then ?_
 refine h_ret ?_
 exact h_ret1 rfl rfl fun w s => ⟨(), rfl, s.res (List.nil_sublist _) (by simp)⟩
theorem half (a : Nat) (h : a < 18446744073709551616) : (((BitVec.ofNat 64 a) >>> 1).toNat : Int) = ((a / 2 : Nat) : Int) := by
 rw [BitVec.toNat_ushiftRight, BitVec.toNat_ofNat, Nat.mod_eq_of_lt (by omega), Nat.shiftRight_eq_div_pow]
theorem Search_s (l : List B32) (A : Option Addr) (c i g2 g3 m : Nat) (hi : i < 256) (hl : l.length ≤ 1000000) (hm : m ≤ l.length) (hp : ∀ j, j < l.length → bitAt (l.getD j zB32) i = decide (m ≤ j)) : Spec Tryz.prog 246 [.int .i64 (l.length : Int), .func (.func 247) #[] [.pointer (some ⟨g2, 0, none⟩), .pointer (some ⟨g3, 0, none⟩)].toArray].toArray [.rd (some ⟨g2, 0, none⟩) [.slice A l.length c], .rd (some ⟨g3, 0, none⟩) [.int .i64 (i : Int)], .rd A (dgs l)] [] (fun _ : Unit => .int .i64 (m : Int)) (fun _ => []) := by
 refine spec_of Tryz.func246 rfl (n := 26) rfl rfl ?_
 intro W
 refine yR ?_
 refine yS rfl ?_
 refine yN ?_
 refine yR ?_
 refine yM rfl ?_
 refine yS rfl ?_
 refine yS rfl ?_
 refine yN ?_
 refine h_seq ?_
 refine h_block ?_
 refine h_loop (fun (s : Nat × Nat) => s.1 ≤ m ∧ m ≤ s.2 ∧ s.2 ≤ l.length) (fun (s : Nat × Nat) => [(5, .int .i64 (s.1 : Int)), (6, .int .i64 (s.2 : Int)), (1, .func (.func 247) #[] [.pointer (some ⟨g2, 0, none⟩), .pointer (some ⟨g3, 0, none⟩)].toArray)]) (fun (s : Nat × Nat) => [.rd (some ⟨g2, 0, none⟩) [.slice A l.length c], .rd (some ⟨g3, 0, none⟩) [.int .i64 (i : Int)], .rd A (dgs l)]) (fun (s : Nat × Nat) => s.2 - s.1) (0, l.length) (⟨Nat.zero_le _, hm, Nat.le_refl _⟩) ⟨rfl, rfl, rfl, trivial⟩ (same) ?_
 rintro ⟨a, b⟩ ⟨h1, h2, h3⟩
 dsimp only at h1 h2 h3 ⊢
 refine h_seq ?_
 refine yR ?_
 refine yM rfl ?_
 refine yM rfl ?_
 refine h_op (r_lss rfl rfl) ?_
 refine yN ?_
 refine h_cond rfl (fun hlt => ?_) (fun hlt => ?_)
 ·have hh : (a + b) / 2 < l.length := by omega
  have hb := splitF_s l A c i ((a + b) / 2) g2 g3 hh hi
  rw [hp _ hh] at hb
  refine h_skip ?_
  refine q_then ?_
  refine h_block ?_
  refine yR ?_
  refine yM rfl ?_
  refine yM rfl ?_
  refine h_op (r_int (r_add rfl rfl) (show _ = ((a + b : Nat) : Int) by omega)) ?_
  refine h_op (r_cNW rfl) ?_
  refine h_op (r_int (r_shr rfl rfl) (half (a + b) (by omega))) ?_
  refine h_op (r_cN rfl (IntWalk.i64_in _ (by omega))) ?_
  refine yS rfl ?_
  refine yN ?_
  refine yR ?_
  refine yM rfl ?_
  refine yM rfl ?_
  by_cases hc : m ≤ (a + b) / 2
  ·rw [decide_eq_true hc] at hb
   refine h_call (hb.comes) rfl rfl rfl fun _ => ?_
   refine h_op (r_not rfl) ?_
   refine yN ?_
   refine h_condF rfl ?_
   refine h_reg ?_
   refine yM rfl ?_
   refine yS rfl ?_
   refine h_nil ?_
   refine q_block ?_
   exact h_back (a, (a + b) / 2) (⟨h1, hc, by dsimp only; omega⟩) ((show (a + b) / 2 - a < b - a by omega)) ⟨rfl, rfl, rfl, trivial⟩ (same)
  ·rw [decide_eq_false hc] at hb
   refine h_call (hb.comes) rfl rfl rfl fun _ => ?_
   refine h_op (r_not rfl) ?_
   refine yN ?_
   refine h_condT rfl ?_
   refine h_reg ?_
   refine yM rfl ?_
   refine h_op (r_add rfl rfl) ?_
   refine yS rfl ?_
   refine h_nil ?_
   refine q_block ?_
   exact h_back ((a + b) / 2 + 1, b) (⟨by dsimp only; omega, h2, h3⟩) ((show b - ((a + b) / 2 + 1) < b - a by omega)) ⟨aI rfl (by omega), rfl, rfl, trivial⟩ (same)
 ·obtain rfl : a = m := by omega
  refine h_exit ?_
  refine q_thenE ?_
  refine q_thenE ?_
  refine q_blockE ?_
  refine q_then ?_
  refine yR ?_
  refine yM rfl ?_
  refine yS rfl ?_
  refine yN ?_
  refine h_ret ?_
  exact h_ret1 rfl rfl fun w s => ⟨(), rfl, s.res (List.nil_sublist _) (by simp)⟩
theorem Split_s (l : List B32) (A : Option Addr) (c i m : Nat) (hi : i < 256) (hl : l.length ≤ 1000000) (hm : m ≤ l.length) (hp : ∀ j, j < l.length → bitAt (l.getD j zB32) i = decide (m ≤ j)) : Spec Tryz.prog 173 [.slice A l.length c, .int .i64 (i : Int)].toArray [.rd A (dgs l)] [] (fun _ : Unit => .int .i64 (m : Int)) (fun _ => []) := by
 refine spec_of Tryz.func173 rfl (n := 9) rfl rfl ?_
 intro W
 refine yR ?_
 refine h_opX (x_box1 rfl) fun g2 => ?_
 refine h_opX (x_box1 rfl) fun g3 => ?_
 refine yS rfl ?_
 refine yN ?_
 refine yR ?_
 refine h_op (r_loadc rfl) ?_
 refine h_op (r_len rfl) ?_
 refine h_op (r_func rfl rfl) ?_
 refine h_call ((Search_s l A c i g2 g3 m hi hl hm hp).comes) rfl rfl rfl fun _ => ?_
 refine yS rfl ?_
 refine yN ?_
 refine h_ret ?_
 exact h_ret1 rfl rfl fun w s => ⟨(), rfl, s.res (List.nil_sublist _) (by simp)⟩
end Go.Proofs.YtjhlbbgikccclaaGreatDoor
/- U71 -/
namespace Go.Proofs.YtjhlbbgikccclaaGreatDoor
open Go.RowKit
def Tr.ht : Tr → Nat
 | .node l r => max l.ht r.ht + 1
 | _ => 0
def Tr.sz : Tr → Nat
 | .node l r => l.sz + r.sz + 1
 | _ => 1
end Go.Proofs.YtjhlbbgikccclaaGreatDoor
/- E19 -/
namespace Go.Proofs.YtjhlbbgikccclaaGreatDoor
open Go.RowKit
theorem ltK_of {a b : B32} (h : cmpB a b < 0) : ltK a b := cmpB_bits h
theorem mkT_ht {m : List En} {d : Nat} (hd : d ≤ 256) (ha : Alike m d) : d + (mkT m d).ht ≤ 256 :=
 parts_ind (p := fun m d => d ≤ 256 → d + (mkT m d).ht ≤ 256) (fun d hd => by rw [mkT_nil]; exact hd) (fun e d h _ => by rw [mkT_one e h]; exact h)
  (fun m d _ hm hd i1 i2 _ => by rw [mkT_two hm (by omega)]; show d + (max _ _ + 1) ≤ _; have := i1 (by omega); have := i2 (by omega); omega) 256 m d (by omega) hd ha hd
end Go.Proofs.YtjhlbbgikccclaaGreatDoor
/- N23 -/
namespace Go.Proofs.YtjhlbbgikccclaaGreatDoor
open Go.RowKit
def SpecD (P : Program) (f : FuncId) (args : Array Value) (R A : List Fa) {τ : Type} (v : τ → Value) (N : τ → List Fa) : Prop :=
 ∀ w, Fx w A → Reads w A R → CallsDIn (FR none) 0 P f args .returning w fun e u' w' => u' = .returning ∧ ∃ x, e = .returned (v x) ∧ Rx A w w' (N x)
def ComesD (P : Program) (A : List Fa) (W : World) (L : List Fa) (f : FuncId) (args : Array Value) {τ : Type} (v : τ → Value) (L' : τ → List Fa) : Prop := ∀ w, Sx A W w L → CallsDIn (FR none) 0 P f args .returning w fun e u' w' => u' = .returning ∧ ∃ x, e = .returned (v x) ∧ Sx A W w' (L' x)
section
variable {A : List Fa} {W : World} {n : Nat} {D : List Deferred} {E : Env} {L : List Fa} {P : Program} {Q : Exit → Act → World → Prop} {ops : Array Oper} {rest : List Oper} {ty : TypeId} {pos : String} {af : Array Edge} {g : Option (Nat × Bool)}
theorem SpecD.comes {f : FuncId} {args : Array Value} {R A' M : List Fa} {τ : Type} {v : τ → Value} {N L' : τ → List Fa} (hs : SpecD P f args R A' v N) [ht : Take A' L M] [hr : Rds M R] [hN : ∀ x, App (N x) M (L' x)] : ComesD P A W L f args v L' := fun w s => by
 have s2 := s.perm ht.perm
 refine (hs w (s2.toFx.sub (List.sublist_append_left _ _)) (s.reads ht.perm hr)).mono ?_
 rintro e u' w' ⟨rfl, x, rfl, hx⟩
 exact ⟨rfl, x, rfl, ((hN x).eq) ▸ s2.ret hx⟩
theorem specD_of {f : FuncId} {fn : Func} {c : Code} {args : List Value} {R A' L : List Fa} {τ : Type} {v : τ → Value} {N : τ → List Fa} (hf : P.funcs[f]? = some fn) (hb : fn.body = some c) (hn : fn.ntmps = n) (hl : Nat.ble args.length n = true) [hL : App A' R L]
  (h : ∀ W, H A' W n [] (argsEnv 0 args) L (c.wpIn (FR none) 0 P (bodyPost P fn fun e w' => ∃ x, e = .returned (v x) ∧ Rx A' W w' (N x)))) : SpecD P f args.toArray R A' v N := fun w hA hR => by
 have hl' : args.length ≤ n := by simpa using hl
 refine (callsDIn_of_wp hf hb trivial (h w _ w ⟨?_, rfl, fun t u ht => ?_⟩ (hL.eq ▸ Sx.start hA hR))).mono fun e u' w' ⟨h1, h2⟩ => ⟨h1, h2⟩
 ·simp only [hn, Array.size_append, List.size_toArray, Array.size_replicate]
  omega
 ·obtain ⟨_, h2⟩ := argsEnv_look args 0 t u ht
  have hlt : t < args.length := by
   obtain ⟨h3, _⟩ := List.getElem?_eq_some_iff.1 h2
   simpa using h3
  rw [Array.getElem?_append_left (by simpa using hlt)]
  simpa using h2
theorem h_retD {fn : Func} {R : Ending → World → Prop} (hf : fn.results = #[]) (hR : ∀ w, Sx A W w L → R (.returned (.tuple #[])) w) : H A W n [] E L (bodyPost P fn R .ret) := fun a w ka s => ⟨ka.defers, _, results_none hf _ _ _, hR w s⟩
theorem h_endD {fn : Func} {R : Ending → World → Prop} (h : H A W n D E L (bodyPost P fn R .ret)) : H A W n D E L (bodyPost P fn R .normal) := h
theorem h_defer {x : Operand} {l : List Operand} {ts : Array TypeId} {fv : Fn} {cap argv : List Value} (hx : ev E x = some (.func fv #[] cap.toArray)) (ha : evs E l = some argv)
  (k : H A W n ({ target := .fn fv cap.toArray, args := argv.toArray } :: D) E L (wpListIn (FR none) 0 P ops Q rest)) (hg : wn ops E g = some true := by exact rfl) : H A W n D E L (wpListIn (FR none) 0 P ops Q (⟨none, .defer ⟨.value x, l.toArray, ts⟩, ty, pos, af, g⟩ :: rest)) := fun a w ka s => by
 unfold wpListIn
 rw [wn_run ka hg, if_pos rfl]
 have he : (execOp a.eval (⟨none, .defer ⟨.value x, l.toArray, ts⟩, ty, pos, af, g⟩ : Oper)).run P w = .ok (.defer { target := .fn fv cap.toArray, args := argv.toArray }) w := by
  unfold execOp
  simp only [resolve, ka.ev hx, Deferred.ofValue, Sem.run_bind, Sem.run_pure, Result.andThen_ok]
  rw [List.map_toArray, ka.evs ha]
  simp
 refine ⟨fun _ _ => trivial, ?_⟩
 rw [show (Oper.semAt (FR none).round a.eval (⟨none, .defer ⟨.value x, l.toArray, ts⟩, ty, pos, af, g⟩ : Oper)).run P w = _ from he]
 exact k { a with defers := _ :: a.defers } w ⟨ka.size, by rw [ka.defers], ka.val⟩ s
theorem h_retDefer {fn : Func} {R : Ending → World → Prop} {f : FuncId} [he : Ent P f] {cap argv args : List Value} {τ : Type} {v : τ → Value} {L' : τ → List Fa} (hc : ComesD P A W L f args.toArray v L') (hargs : argv ++ cap = args)
  (k : ∀ x, H A W n D E (L' x) (bodyPostM (FR none) 0 P fn R .ret)) : H A W n ({ target := .fn (.func f) cap.toArray, args := argv.toArray } :: D) E L (bodyPostM (FR none) 0 P fn R .ret) := fun a w ka s => by
 show LeavesInM (FR none) 0 P fn a.tmps R a.defers .returning w
 rw [ka.defers]
 refine ⟨by simp, .inr ⟨(fun h => by cases h), _, _, f, args.toArray, rfl, ?_, fun _ _ => trivial, ?_⟩⟩
 ·show (callFunc f (argv.toArray ++ cap.toArray)).run P w = _
  rw [← hargs, show (argv.toArray ++ cap.toArray : Array Value) = (argv ++ cap).toArray by simp]
  exact he.ok _ _
 ·refine (hc w s).mono ?_
  rintro e u' w' ⟨rfl, x, rfl, hx⟩
  exact k x { a with defers := D } w' ⟨ka.size, rfl, ka.val⟩ hx
end
end Go.Proofs.YtjhlbbgikccclaaGreatDoor
/- U160 -/
namespace Go.Proofs.YtjhlbbgikccclaaGreatDoor
open Go.RowKit
theorem atD_yes (g8 g9 g5 : Nat) (p : Option Addr) (q : Option Addr) : SpecD Tryz.prog 225 [.pointer (some ⟨g9, 0, none⟩), .pointer (some ⟨g5, 0, none⟩), .pointer (some ⟨g8, 0, none⟩)].toArray [.rd (some ⟨g9, 0, none⟩) [.bool true]] [] (fun _ : Unit => .tuple #[]) (fun _ => []) := by
 refine specD_of Tryz.func225 rfl (n := 6) rfl rfl ?_
 intro W
 refine yR ?_
 refine h_op (r_loadc rfl) ?_
 refine h_op (r_not rfl) ?_
 refine yN ?_
 refine h_condF rfl ?_
 refine h_skip ?_
 refine h_endD ?_
 exact h_retD rfl fun w s => ⟨(), rfl, s.res (List.nil_sublist _) (by simp)⟩
theorem atD_no (g8 g9 g5 : Nat) (p : Option Addr) (q : Option Addr) : SpecD Tryz.prog 225 [.pointer (some ⟨g9, 0, none⟩), .pointer (some ⟨g5, 0, none⟩), .pointer (some ⟨g8, 0, none⟩)].toArray [.rd (some ⟨g9, 0, none⟩) [.bool false], .rd (some ⟨g5, 0, none⟩) [.pointer p]] [.blk g8 [.pointer q] 31] (fun _ : Unit => .tuple #[]) (fun _ => [.blk g8 [.pointer p] 31]) := by
 refine specD_of Tryz.func225 rfl (n := 6) rfl rfl ?_
 intro W
 refine yR ?_
 refine h_op (r_loadc rfl) ?_
 refine h_op (r_not rfl) ?_
 refine yN ?_
 refine h_condT rfl ?_
 refine h_reg ?_
 refine h_op (r_loadc rfl) ?_
 refine h_opS (s_store rfl rfl rfl) ?_
 refine h_nil ?_
 refine h_endD ?_
 exact h_retD rfl fun w s => ⟨(), rfl, (same (L' := [.blk g8 [.pointer p] 31]) w s).res (List.Sublist.refl _) (by simp [Fa.wr])⟩
end Go.Proofs.YtjhlbbgikccclaaGreatDoor
/- U161 -/
namespace Go.Proofs.YtjhlbbgikccclaaGreatDoor
open Go.RowKit
def hasK (m : List En) (key : B32) : Bool := m.any fun e => decide (e.key = key)
theorem hasK_part (m : List En) (d : Nat) (key : B32) : hasK (part m d (bitAt key d)) key = hasK m key := by
 unfold hasK part
 rw [List.any_filter]
 congr 1
 funext e
 by_cases h : e.key = key
 ·rw [h, decide_eq_true rfl, beq_self_eq_true]; rfl
 ·rw [decide_eq_false h, Bool.and_false]
theorem remK_has {m : List En} {key : B32} (h : hasK m key = false) : remK m key = m := remK_none fun e he hk => by
 have : hasK m key = true := List.any_eq_true.2 ⟨e, he, decide_eq_true hk⟩
 rw [h] at this
 cases this
theorem remK_alike {m : List En} {d : Nat} (h : Alike m d) (k : B32) : Alike (remK m k) d := ⟨h.nodup.sublist ((List.filter_sublist).map _), fun e he f hf i hi => h.same e (List.mem_filter.1 he).1 f (List.mem_filter.1 hf).1 i hi⟩
theorem remK_le (m : List En) (k : B32) : (remK m k).length ≤ m.length := List.length_filter_le _ _
theorem RemAt_s (n : Nat) (hn : n ≤ 256) (gh gc : Nat) (key : B32) {m : List En} {d : Nat} (hd : d ≤ 256) (ha : Alike m d) : m.length ≤ 1000000 → ∀ (h : Zh) (k : Nat) (p : Option Addr), RdZ h (some ⟨1, 0, none⟩) hashT → TrZ n h (mkT m d) p → k + 3 * (257 - d) ≤ 10000000000 →
  Spec Tryz.prog 151 [.pointer (some ⟨gh, 0, none⟩), .pointer p, .agg key.cells.toArray, .int .i64 (d : Int)].toArray [HR gh gc n] [.zone true h, CN gc k] (fun u : {u : Zh × Option Addr × Nat // LeZ h u.1 ∧ TrZ n u.1 (mkT (remK m key) d) u.2.1 ∧ u.2.2 ≤ k + 3 * (257 - d)} => .tuple #[.pointer u.1.2.1, .bool (hasK m key)]) (fun u => [.zone true u.1.1, CN gc u.1.2.2]) := by
 refine parts_ind (p := fun m d => m.length ≤ 1000000 → ∀ (h : Zh) (k : Nat) (p : Option Addr), RdZ h (some ⟨1, 0, none⟩) hashT → TrZ n h (mkT m d) p → k + 3 * (257 - d) ≤ 10000000000 →
  Spec Tryz.prog 151 [.pointer (some ⟨gh, 0, none⟩), .pointer p, .agg key.cells.toArray, .int .i64 (d : Int)].toArray [HR gh gc n] [.zone true h, CN gc k] (fun u : {u : Zh × Option Addr × Nat // LeZ h u.1 ∧ TrZ n u.1 (mkT (remK m key) d) u.2.1 ∧ u.2.2 ≤ k + 3 * (257 - d)} => .tuple #[.pointer u.1.2.1, .bool (hasK m key)]) (fun u => [.zone true u.1.1, CN gc u.1.2.2])) ?_ ?_ ?_ (256 - d) m d (Nat.le_refl _) hd ha
 ·intro d _ h k p hT ht hk
  rw [mkT_nil] at ht
  have hK := Kind_s n h .nil p
  refine spec_of Tryz.func151 rfl (n := 57) rfl rfl ?_
  intro W
  refine yR ?_
  refine h_opX (x_box1 rfl) fun g5 => ?_
  refine h_opX (x_box rfl) fun g6 => ?_
  refine h_opX (x_alloc) fun g8 => ?_
  refine h_opX (x_alloc) fun g9 => ?_
  refine yN ?_
  refine yR ?_
  refine h_op (r_func rfl rfl) ?_
  refine h_defer rfl rfl ?_
  refine yN ?_
  refine h_seq ?_
  refine yR ?_
  refine h_op (r_loadc rfl) ?_
  refine h_call (hK.comes) rfl rfl rfl fun _ => ?_
  refine yN ?_
  refine h_block ?_
  refine yR ?_
  refine h_op (r_bool (r_eql rfl rfl) (show _ = false from rfl)) ?_
  refine yS rfl ?_
  refine yN ?_
  refine h_condF rfl ?_
  refine yR ?_
  refine h_op (r_bool (r_eql rfl rfl) (show _ = false from rfl)) ?_
  refine yS rfl ?_
  refine yN ?_
  refine h_condF rfl ?_
  refine h_skip ?_
  refine q_block ?_
  refine q_then ?_
  refine h_seq ?_
  refine ha_start [.blk g8 [.pointer none] 31, .blk g9 [.bool false] 4] [] mixed (same) ?_
  refine ha_take 0 rfl (r_loadc rfl) ?_
  refine ha_take 1 rfl (r_loadc rfl) ?_
  refine ha_one 2 ?_
  refine ho_S 2 rfl (s_store rfl rfl rfl) (same) ?_
  refine ha_one 3 ?_
  refine ho_SL 3 rfl (s_store rfl rfl rfl) ?_
  refine q_then ?_
  refine h_ret ?_
  refine h_retDefer (atD_no g8 g9 g5 p none).comes rfl fun _ => ?_
  exact h_ret2 rfl (rv_cell rfl) (rv_cell rfl) fun w s => ⟨⟨(h, p, k), LeZ.refl h, by rw [show remK [] key = [] from rfl, mkT_nil]; exact ht, Nat.le_add_right _ _⟩, rfl, (same (L' := [.zone true h, CN gc k]) w s).res (List.Sublist.refl _) (by simp [Fa.wr])⟩
 ·intro e d hd _ h k p hT ht hk
  rw [mkT_one e hd] at ht
  have hK := Kind_s n h (.leaf e.key e.val) p
  have hLf := Leaf_s n h (.leaf e.key e.val) p
  have hhas : hasK [e] key = decide (e.key = key) := by simp [hasK]
  rw [hhas]
  by_cases hek : e.key = key
  ·have hrem : remK [e] key = [] := by simp [remK, hek]
   rw [decide_eq_true hek]
   refine spec_of Tryz.func151 rfl (n := 57) rfl rfl ?_
   intro W
   refine yR ?_
   refine h_opX (x_box1 rfl) fun g5 => ?_
   refine h_opX (x_box rfl) fun g6 => ?_
   refine h_opX (x_alloc) fun g8 => ?_
   refine h_opX (x_alloc) fun g9 => ?_
   refine yN ?_
   refine yR ?_
   refine h_op (r_func rfl rfl) ?_
   refine h_defer rfl rfl ?_
   refine yN ?_
   refine h_seq ?_
   refine yR ?_
   refine h_op (r_loadc rfl) ?_
   refine h_call (hK.comes) rfl rfl rfl fun _ => ?_
   refine yN ?_
   refine h_block ?_
   refine yR ?_
   refine h_op (r_bool (r_eql rfl rfl) (show _ = true from rfl)) ?_
   refine yS rfl ?_
   refine yN ?_
   refine h_condT rfl ?_
   refine h_seq ?_
   refine ha_start [.blk g5 [.pointer p] 31, .blk g6 key.cells 34] [] mixed (same) ?_
   refine ha_take 0 rfl (r_loadc rfl) ?_
   refine ha_take 3 rfl (r_loadr rfl) ?_
   refine ha_one 1 ?_
   refine ho_C 1 rfl (hLf.comes) rfl rfl rfl (fun xx => same) fun _ => ?_
   refine ha_takeP 2 rfl (r_fldr rfl) ?_
   refine ha_takeP 4 rfl (r_bool (r_eqr rfl rfl) (decide_eq_true hek)) ?_
   refine ha_one 5 ?_
   refine ho_S 5 rfl (s_store rfl rfl rfl) (same) ?_
   refine ha_one 6 ?_
   refine ho_SL 6 rfl (s_store rfl rfl rfl) ?_
   refine q_then ?_
   refine h_ret ?_
   refine q_blockR ?_
   refine q_thenR ?_
   refine h_retDefer (atD_yes g8 g9 g5 p none).comes rfl fun _ => ?_
   exact h_ret2 rfl (rv_cell rfl) (rv_cell rfl) fun w s => ⟨⟨(h, none, k), LeZ.refl h, by rw [hrem, mkT_nil]; exact ⟨rfl⟩, Nat.le_add_right _ _⟩, rfl, (same (L' := [.zone true h, CN gc k]) w s).res (List.Sublist.refl _) (by simp [Fa.wr])⟩
  ·have hrem : remK [e] key = [e] := by simp [remK, hek]
   rw [decide_eq_false hek]
   refine spec_of Tryz.func151 rfl (n := 57) rfl rfl ?_
   intro W
   refine yR ?_
   refine h_opX (x_box1 rfl) fun g5 => ?_
   refine h_opX (x_box rfl) fun g6 => ?_
   refine h_opX (x_alloc) fun g8 => ?_
   refine h_opX (x_alloc) fun g9 => ?_
   refine yN ?_
   refine yR ?_
   refine h_op (r_func rfl rfl) ?_
   refine h_defer rfl rfl ?_
   refine yN ?_
   refine h_seq ?_
   refine yR ?_
   refine h_op (r_loadc rfl) ?_
   refine h_call (hK.comes) rfl rfl rfl fun _ => ?_
   refine yN ?_
   refine h_block ?_
   refine yR ?_
   refine h_op (r_bool (r_eql rfl rfl) (show _ = true from rfl)) ?_
   refine yS rfl ?_
   refine yN ?_
   refine h_condT rfl ?_
   refine h_seq ?_
   refine ha_start [.blk g5 [.pointer p] 31, .blk g6 key.cells 34] [] mixed (same) ?_
   refine ha_take 0 rfl (r_loadc rfl) ?_
   refine ha_take 3 rfl (r_loadr rfl) ?_
   refine ha_one 1 ?_
   refine ho_C 1 rfl (hLf.comes) rfl rfl rfl (fun xx => same) fun _ => ?_
   refine ha_takeP 2 rfl (r_fldr rfl) ?_
   refine ha_takeP 4 rfl (r_bool (r_eqr rfl rfl) (decide_eq_false hek)) ?_
   refine ha_one 5 ?_
   refine ho_S 5 rfl (s_store rfl rfl rfl) (same) ?_
   refine ha_one 6 ?_
   refine ho_SL 6 rfl (s_store rfl rfl rfl) ?_
   refine q_then ?_
   refine h_ret ?_
   refine q_blockR ?_
   refine q_thenR ?_
   refine h_retDefer (atD_no g8 g9 g5 p none).comes rfl fun _ => ?_
   exact h_ret2 rfl (rv_cell rfl) (rv_cell rfl) fun w s => ⟨⟨(h, p, k), LeZ.refl h, by rw [hrem, mkT_one e hd]; exact ht, Nat.le_add_right _ _⟩, rfl, (same (L' := [.zone true h, CN gc k]) w s).res (List.Sublist.refl _) (by simp [Fa.wr])⟩
 ·intro m d ha hm hlt i1 i2 hml h k p hT ht hk
  have ht0 : TrZ n h (mkT m d) p := ht
  rw [mkT_two hm (by omega)] at ht
  have htl : TrZ n h (mkT (part m d false) (d + 1)) (subP h false p) := TrZ.left ht
  have htr : TrZ n h (mkT (part m d true) (d + 1)) (subP h true p) := TrZ.right ht
  have hK := Kind_s n h (.node (mkT (part m d false) (d + 1)) (mkT (part m d true) (d + 1))) p
  have hLe := Left_s n h (.node (mkT (part m d false) (d + 1)) (mkT (part m d true) (d + 1))) p
  have hRi := Right_s n h (.node (mkT (part m d false) (d + 1)) (mkT (part m d true) (d + 1))) p
  have hc0 := mkT_cnt (d := d + 1) (by omega) (ha.part false)
  have hc1 := mkT_cnt (d := d + 1) (by omega) (ha.part true)
  have hc2 := mkT_cnt (d := d + 1) (by omega) (remK_alike (ha.part false) key)
  have hc3 := mkT_cnt (d := d + 1) (by omega) (remK_alike (ha.part true) key)
  have hp0 := part_le m d false
  have hp1 := part_le m d true
  have hr0 := remK_le (part m d false) key
  have hr1 := remK_le (part m d true) key
  cases hb : bitAt key d
  ·have hBit := Bit_s key d hlt
   rw [show bitN key d = 0 by unfold bitN; rw [hb]; rfl] at hBit
   have hpk := hasK_part m d key
   rw [hb] at hpk
   have hoff : remK (part m d true) key = part m d true := remK_off (by rw [hb]; rfl)
   have hjn := join_mkT (m := remK m key) hlt
   rw [remK_part, remK_part, hoff] at hjn
   have hI := i1 (Nat.le_trans (part_le m d false) hml) h k (subP h false p) hT htl (by omega)
   rw [hpk] at hI
   obtain ⟨f, hf⟩ : ∃ f, hasK m key = f := ⟨_, rfl⟩
   rw [hf] at hI ⊢
   refine spec_of Tryz.func151 rfl (n := 57) rfl rfl ?_
   intro W
   refine yR ?_
   refine h_opX (x_box1 rfl) fun g5 => ?_
   refine h_opX (x_box rfl) fun g6 => ?_
   refine h_opX (x_alloc) fun g8 => ?_
   refine h_opX (x_alloc) fun g9 => ?_
   refine yN ?_
   refine yR ?_
   refine h_op (r_func rfl rfl) ?_
   refine h_defer rfl rfl ?_
   refine yN ?_
   refine h_seq ?_
   refine yR ?_
   refine h_op (r_loadc rfl) ?_
   refine h_call (hK.comes) rfl rfl rfl fun _ => ?_
   refine yN ?_
   refine h_block ?_
   refine yR ?_
   refine h_op (r_bool (r_eql rfl rfl) (show _ = false from rfl)) ?_
   refine yS rfl ?_
   refine yN ?_
   refine h_condF rfl ?_
   refine yR ?_
   refine h_op (r_bool (r_eql rfl rfl) (show _ = true from rfl)) ?_
   refine yS rfl ?_
   refine yN ?_
   refine h_condT rfl ?_
   refine h_seq ?_
   refine ha_start [.blk g5 [.pointer p] 31] [] mixed (same) ?_
   refine ha_take 0 rfl (r_loadc rfl) ?_
   refine ha_take 2 rfl (r_loadc rfl) ?_
   refine ha_one 1 ?_
   refine ho_C 1 rfl (hLe.comes) rfl rfl rfl (fun xx => same) fun _ => ?_
   refine ha_one 3 ?_
   refine ho_C 3 rfl (hRi.comes) rfl rfl rfl (fun xx => same) fun _ => ?_
   refine ha_takeP 4 rfl (r_assign rfl) ?_
   refine ha_takeP 5 rfl (r_assign rfl) ?_
   refine ha_done (by kernel_rfl) ?_
   refine q_then ?_
   refine h_seq ?_
   refine yR ?_
   refine h_op (r_loadr rfl) ?_
   refine yM rfl ?_
   refine h_call (hBit.comes) rfl rfl rfl fun _ => ?_
   refine h_op (r_bool (r_eql rfl rfl) (show _ = true from rfl)) ?_
   refine yN ?_
   refine h_condT rfl ?_
   refine h_reg ?_
   refine yM rfl ?_
   refine yM rfl ?_
   refine h_op (r_loadr rfl) ?_
   refine yM rfl ?_
   refine h_op (r_int (r_add rfl rfl) (show _ = ((d + 1 : Nat) : Int) by omega)) ?_
   refine h_call (hI.comes) rfl rfl rfl fun ⟨⟨h1, q, k1⟩, hle, htq, hk1⟩ => ?_
   dsimp only at hle htq hk1 ⊢
   cases f
   ·refine yM rfl ?_
    refine h_op (r_extract rfl rfl) ?_
    refine h_op (r_extract rfl rfl) ?_
    refine yS rfl ?_
    refine h_opS (s_store rfl rfl rfl) ?_
    refine yN ?_
    refine yR ?_
    refine h_op (r_loadc rfl) ?_
    refine yN ?_
    refine h_condF rfl ?_
    refine h_skip ?_
    refine q_block ?_
    refine q_then ?_
    refine h_seq ?_
    refine ha_start [.blk g8 [.pointer none] 31, .blk g9 [.bool false] 4] [] mixed (same) ?_
    refine ha_take 0 rfl (r_loadc rfl) ?_
    refine ha_take 1 rfl (r_loadc rfl) ?_
    refine ha_one 2 ?_
    refine ho_S 2 rfl (s_store rfl rfl rfl) (same) ?_
    refine ha_one 3 ?_
    refine ho_SL 3 rfl (s_store rfl rfl rfl) ?_
    refine q_then ?_
    refine h_ret ?_
    refine h_retDefer (atD_no g8 g9 g5 p none).comes rfl fun _ => ?_
    exact h_ret2 rfl (rv_cell rfl) (rv_cell rfl) fun w s => ⟨⟨(h1, p, k1), hle, by rw [remK_has hf]; exact ⟨ht0.ok.mono hle⟩, by dsimp only; omega⟩, rfl, (same (L' := [.zone true h1, CN gc k1]) w s).res (List.Sublist.refl _) (by simp [Fa.wr])⟩
   ·refine yM rfl ?_
    refine h_op (r_extract rfl rfl) ?_
    refine h_op (r_extract rfl rfl) ?_
    refine yS rfl ?_
    refine h_opS (s_store rfl rfl rfl) ?_
    refine yN ?_
    refine yR ?_
    refine h_op (r_loadc rfl) ?_
    refine yN ?_
    refine h_condT rfl ?_
    refine h_reg ?_
    refine yM rfl ?_
    refine yM rfl ?_
    refine yM rfl ?_
    have hjc := joinC_le (mkT (remK (part m d false) key) (d + 1)) (mkT (part m d true) (d + 1))
    refine h_call ((Join_s n hn gh gc k1 (by omega) h1 (ht := hT.mono hle) (mkT (remK (part m d false) key) (d + 1)) (mkT (part m d true) (d + 1)) q (subP h true p) (hr := ⟨htr.ok.mono hle⟩) (by omega)).comes) rfl rfl rfl fun ⟨⟨h2, r⟩, hle2, htr2⟩ => ?_
    dsimp only at hle2 htr2 ⊢
    rw [hjn] at htr2
    refine h_opS (s_store rfl rfl rfl) ?_
    refine h_nil ?_
    refine q_block ?_
    refine q_then ?_
    refine h_seq ?_
    refine ha_start [.blk g8 [.pointer r] 31, .blk g9 [.bool true] 4] [] mixed (same) ?_
    refine ha_take 0 rfl (r_loadc rfl) ?_
    refine ha_take 1 rfl (r_loadc rfl) ?_
    refine ha_one 2 ?_
    refine ho_S 2 rfl (s_store rfl rfl rfl) (same) ?_
    refine ha_one 3 ?_
    refine ho_SL 3 rfl (s_store rfl rfl rfl) ?_
    refine q_then ?_
    refine h_ret ?_
    refine h_retDefer (atD_yes g8 g9 g5 p none).comes rfl fun _ => ?_
    exact h_ret2 rfl (rv_cell rfl) (rv_cell rfl) fun w s => ⟨⟨(h2, r, k1 + joinC (mkT (remK (part m d false) key) (d + 1)) (mkT (part m d true) (d + 1))), hle.trans hle2, htr2, by dsimp only; omega⟩, rfl, (same (L' := [.zone true h2, CN gc (k1 + joinC (mkT (remK (part m d false) key) (d + 1)) (mkT (part m d true) (d + 1)))]) w s).res (List.Sublist.refl _) (by simp [Fa.wr])⟩
  ·have hBit := Bit_s key d hlt
   rw [show bitN key d = 1 by unfold bitN; rw [hb]; rfl] at hBit
   have hpk := hasK_part m d key
   rw [hb] at hpk
   have hoff : remK (part m d false) key = part m d false := remK_off (by rw [hb]; rfl)
   have hjn := join_mkT (m := remK m key) hlt
   rw [remK_part, remK_part, hoff] at hjn
   have hI := i2 (Nat.le_trans (part_le m d true) hml) h k (subP h true p) hT htr (by omega)
   rw [hpk] at hI
   obtain ⟨f, hf⟩ : ∃ f, hasK m key = f := ⟨_, rfl⟩
   rw [hf] at hI ⊢
   refine spec_of Tryz.func151 rfl (n := 57) rfl rfl ?_
   intro W
   refine yR ?_
   refine h_opX (x_box1 rfl) fun g5 => ?_
   refine h_opX (x_box rfl) fun g6 => ?_
   refine h_opX (x_alloc) fun g8 => ?_
   refine h_opX (x_alloc) fun g9 => ?_
   refine yN ?_
   refine yR ?_
   refine h_op (r_func rfl rfl) ?_
   refine h_defer rfl rfl ?_
   refine yN ?_
   refine h_seq ?_
   refine yR ?_
   refine h_op (r_loadc rfl) ?_
   refine h_call (hK.comes) rfl rfl rfl fun _ => ?_
   refine yN ?_
   refine h_block ?_
   refine yR ?_
   refine h_op (r_bool (r_eql rfl rfl) (show _ = false from rfl)) ?_
   refine yS rfl ?_
   refine yN ?_
   refine h_condF rfl ?_
   refine yR ?_
   refine h_op (r_bool (r_eql rfl rfl) (show _ = true from rfl)) ?_
   refine yS rfl ?_
   refine yN ?_
   refine h_condT rfl ?_
   refine h_seq ?_
   refine ha_start [.blk g5 [.pointer p] 31] [] mixed (same) ?_
   refine ha_take 0 rfl (r_loadc rfl) ?_
   refine ha_take 2 rfl (r_loadc rfl) ?_
   refine ha_one 1 ?_
   refine ho_C 1 rfl (hLe.comes) rfl rfl rfl (fun xx => same) fun _ => ?_
   refine ha_one 3 ?_
   refine ho_C 3 rfl (hRi.comes) rfl rfl rfl (fun xx => same) fun _ => ?_
   refine ha_takeP 4 rfl (r_assign rfl) ?_
   refine ha_takeP 5 rfl (r_assign rfl) ?_
   refine ha_done (by kernel_rfl) ?_
   refine q_then ?_
   refine h_seq ?_
   refine yR ?_
   refine h_op (r_loadr rfl) ?_
   refine yM rfl ?_
   refine h_call (hBit.comes) rfl rfl rfl fun _ => ?_
   refine h_op (r_bool (r_eql rfl rfl) (show _ = false from rfl)) ?_
   refine yN ?_
   refine h_condF rfl ?_
   refine h_reg ?_
   refine yM rfl ?_
   refine yM rfl ?_
   refine h_op (r_loadr rfl) ?_
   refine yM rfl ?_
   refine h_op (r_int (r_add rfl rfl) (show _ = ((d + 1 : Nat) : Int) by omega)) ?_
   refine h_call (hI.comes) rfl rfl rfl fun ⟨⟨h1, q, k1⟩, hle, htq, hk1⟩ => ?_
   dsimp only at hle htq hk1 ⊢
   cases f
   ·refine yM rfl ?_
    refine h_op (r_extract rfl rfl) ?_
    refine h_op (r_extract rfl rfl) ?_
    refine yS rfl ?_
    refine h_opS (s_store rfl rfl rfl) ?_
    refine yN ?_
    refine yR ?_
    refine h_op (r_loadc rfl) ?_
    refine yN ?_
    refine h_condF rfl ?_
    refine h_skip ?_
    refine q_block ?_
    refine q_then ?_
    refine h_seq ?_
    refine ha_start [.blk g8 [.pointer none] 31, .blk g9 [.bool false] 4] [] mixed (same) ?_
    refine ha_take 0 rfl (r_loadc rfl) ?_
    refine ha_take 1 rfl (r_loadc rfl) ?_
    refine ha_one 2 ?_
    refine ho_S 2 rfl (s_store rfl rfl rfl) (same) ?_
    refine ha_one 3 ?_
    refine ho_SL 3 rfl (s_store rfl rfl rfl) ?_
    refine q_then ?_
    refine h_ret ?_
    refine h_retDefer (atD_no g8 g9 g5 p none).comes rfl fun _ => ?_
    exact h_ret2 rfl (rv_cell rfl) (rv_cell rfl) fun w s => ⟨⟨(h1, p, k1), hle, by rw [remK_has hf]; exact ⟨ht0.ok.mono hle⟩, by dsimp only; omega⟩, rfl, (same (L' := [.zone true h1, CN gc k1]) w s).res (List.Sublist.refl _) (by simp [Fa.wr])⟩
   ·refine yM rfl ?_
    refine h_op (r_extract rfl rfl) ?_
    refine h_op (r_extract rfl rfl) ?_
    refine yS rfl ?_
    refine h_opS (s_store rfl rfl rfl) ?_
    refine yN ?_
    refine yR ?_
    refine h_op (r_loadc rfl) ?_
    refine yN ?_
    refine h_condT rfl ?_
    refine h_reg ?_
    refine yM rfl ?_
    refine yM rfl ?_
    refine yM rfl ?_
    have hjc := joinC_le (mkT (part m d false) (d + 1)) (mkT (remK (part m d true) key) (d + 1))
    refine h_call ((Join_s n hn gh gc k1 (by omega) h1 (ht := hT.mono hle) (mkT (part m d false) (d + 1)) (mkT (remK (part m d true) key) (d + 1)) (subP h false p) q (hl := ⟨htl.ok.mono hle⟩) (by omega)).comes) rfl rfl rfl fun ⟨⟨h2, r⟩, hle2, htr2⟩ => ?_
    dsimp only at hle2 htr2 ⊢
    rw [hjn] at htr2
    refine h_opS (s_store rfl rfl rfl) ?_
    refine h_nil ?_
    refine q_block ?_
    refine q_then ?_
    refine h_seq ?_
    refine ha_start [.blk g8 [.pointer r] 31, .blk g9 [.bool true] 4] [] mixed (same) ?_
    refine ha_take 0 rfl (r_loadc rfl) ?_
    refine ha_take 1 rfl (r_loadc rfl) ?_
    refine ha_one 2 ?_
    refine ho_S 2 rfl (s_store rfl rfl rfl) (same) ?_
    refine ha_one 3 ?_
    refine ho_SL 3 rfl (s_store rfl rfl rfl) ?_
    refine q_then ?_
    refine h_ret ?_
    refine h_retDefer (atD_yes g8 g9 g5 p none).comes rfl fun _ => ?_
    exact h_ret2 rfl (rv_cell rfl) (rv_cell rfl) fun w s => ⟨⟨(h2, r, k1 + joinC (mkT (part m d false) (d + 1)) (mkT (remK (part m d true) key) (d + 1))), hle.trans hle2, htr2, by dsimp only; omega⟩, rfl, (same (L' := [.zone true h2, CN gc (k1 + joinC (mkT (part m d false) (d + 1)) (mkT (remK (part m d true) key) (d + 1)))]) w s).res (List.Sublist.refl _) (by simp [Fa.wr])⟩
theorem xRemove_s (n : Nat) (hn : n ≤ 256) (gh gc : Nat) (key : B32) {m : List En} (ha : Alike m 0) (hml : m.length ≤ 1000000) (h : Zh) (k : Nat) (p : Option Addr) (hT : RdZ h (some ⟨1, 0, none⟩) hashT) (ht : TrZ n h (mkT m 0) p) (hk : k + 771 ≤ 10000000000) :
  Spec Tryz.prog 93 [.pointer (some ⟨gh, 0, none⟩), .pointer p, .agg key.cells.toArray].toArray [HR gh gc n] [.zone true h, CN gc k] (fun u : {u : Zh × Option Addr × Nat // LeZ h u.1 ∧ TrZ n u.1 (mkT (remK m key) 0) u.2.1 ∧ u.2.2 ≤ k + 771} => .tuple #[.pointer u.1.2.1, .bool (hasK m key)]) (fun u => [.zone true u.1.1, CN gc u.1.2.2]) := by
 have hR := RemAt_s n hn gh gc key (by decide : 0 ≤ 256) ha hml h k p hT ht (by omega)
 refine spec_of Tryz.func93 rfl (n := 14) rfl rfl ?_
 intro W
 refine yR ?_
 refine h_opX (x_box rfl) fun g5 => ?_
 refine yS rfl ?_
 refine yS rfl ?_
 refine yN ?_
 refine yR ?_
 refine yM rfl ?_
 refine yM rfl ?_
 refine h_op (r_loadr rfl) ?_
 refine h_call (hR.comes) rfl rfl rfl fun ⟨⟨h1, q, k1⟩, hle, htq, hk1⟩ => ?_
 dsimp only at hle htq hk1 ⊢
 refine h_op (r_extract rfl rfl) ?_
 refine h_op (r_extract rfl rfl) ?_
 refine yS rfl ?_
 refine yS rfl ?_
 refine yN ?_
 refine h_ret ?_
 exact h_ret2 rfl rfl rfl fun w s => ⟨⟨(h1, q, k1), hle, htq, by dsimp only; omega⟩, rfl, (same (L' := [.zone true h1, CN gc k1]) w s).res (List.Sublist.refl _) (by simp [Fa.wr])⟩
end Go.Proofs.YtjhlbbgikccclaaGreatDoor
/- U162 -/
namespace Go.Proofs.YtjhlbbgikccclaaGreatDoor
open Go.RowKit
theorem keyOf_bad {l : List UInt8} (h : ¬ l.length = 32) : keyOf l = zB32 := by unfold keyOf; rw [dif_neg h]
def entE (kn vn : Nat) : Int := if kn = 32 then (if 65535 < vn then 3 else 0) else 2
section
variable (h : Zh) (ks : Sl) (kb : List UInt8) [hK : SlZ h ks kb]
theorem KOf_s : Spec Tryz.prog 162 [.slice ks.A ks.n ks.c].toArray [.zone false h] [] (fun _ : Unit => .tuple #[.agg (keyOf kb).cells.toArray, .int .i64 (if kb.length = 32 then 0 else 2)]) (fun _ => []) := by
 have hkn := hK.len
 have hKr : RdZ h ks.A (bc kb) := hK.rd
 obtain ⟨kA, kn, kc⟩ := ks
 dsimp only at hkn hKr ⊢
 subst hkn
 by_cases hk : kb.length = 32
 ·rw [if_pos hk]
  have hKr2 : RdZ h kA (keyOf kb).cells := by rw [keyOf_cells hk]; exact hKr
  obtain ⟨bK, oK, rfl, -⟩ := hKr2.at_ 0 _ (List.getElem?_eq_getElem (by rw [B32.cells_length]; decide))
  refine spec_of Tryz.func162 rfl (n := 11) rfl rfl ?_
  intro W
  refine yR ?_
  refine h_opX (x_alloc) fun g2 => ?_
  refine yS rfl ?_
  refine yN ?_
  refine h_seq ?_
  refine yR ?_
  refine yM rfl ?_
  refine h_op (r_len rfl) ?_
  refine h_op (r_bool (r_neq rfl rfl) (decide_eq_false (show ¬ ¬ ((kb.length : Nat) : Int) = 32 by omega))) ?_
  refine yN ?_
  refine h_condF rfl ?_
  refine h_skip ?_
  refine q_then ?_
  refine yR ?_
  refine yM rfl ?_
  refine h_op (r_arr rfl (hm := by omega)) ?_
  refine h_op (r_loadr rfl) ?_
  refine h_opS (s_storer rfl rfl) ?_
  refine yS rfl ?_
  refine yN ?_
  refine h_ret ?_
  exact h_ret2 rfl (rv_row rfl) rfl fun w s => ⟨(), rfl, s.res (List.nil_sublist _) (by simp)⟩
 ·rw [if_neg hk, keyOf_bad hk]
  refine spec_of Tryz.func162 rfl (n := 11) rfl rfl ?_
  intro W
  refine yR ?_
  refine h_opX (x_alloc) fun g2 => ?_
  refine yS rfl ?_
  refine yN ?_
  refine h_seq ?_
  refine yR ?_
  refine yM rfl ?_
  refine h_op (r_len rfl) ?_
  refine h_op (r_bool (r_neq rfl rfl) (decide_eq_true (show ¬ ((kb.length : Nat) : Int) = 32 by omega))) ?_
  refine yN ?_
  refine h_condT rfl ?_
  refine yR ?_
  refine h_op (r_build (out := zB32.cells) rfl) ?_
  refine h_opS (s_storer rfl rfl) ?_
  refine yS rfl ?_
  refine yN ?_
  refine h_ret ?_
  refine q_thenR ?_
  exact h_ret2 rfl (rv_row rfl) rfl fun w s => ⟨(), rfl, s.res (List.nil_sublist _) (by simp)⟩
end
theorem TNew_s (n : Nat) (hn : n ≤ 256) : Spec Tryz.prog 31 [.int .i64 (n : Int)].toArray [] [] (fun u : Nat × Nat × Nat => .tuple #[.pointer (some ⟨u.1, 0, none⟩), .int .i64 0]) (fun u => [.blk u.1 [.pointer (some ⟨u.2.1, 0, none⟩), .pointer none] 113, .blk u.2.1 [.pointer (some ⟨u.2.2, 0, none⟩), .int .i64 (n : Int)] 170, .blk u.2.2 [.int .i64 0] 272]) := by
 refine spec_of Tryz.func31 rfl (n := 17) rfl rfl ?_
 intro W
 refine yR ?_
 refine yS rfl ?_
 refine yS rfl ?_
 refine yN ?_
 refine yR ?_
 refine yM rfl ?_
 refine h_call ((New_s n hn).comes) rfl rfl rfl fun ⟨gh, gc⟩ => ?_
 dsimp only
 refine yM rfl ?_
 refine h_op (r_extract rfl rfl) ?_
 refine h_op (r_extract rfl rfl) ?_
 refine yS rfl ?_
 refine yS rfl ?_
 refine yN ?_
 refine h_seq ?_
 refine yR ?_
 refine yM rfl ?_
 refine h_op (r_bool (r_neq rfl rfl) rfl) ?_
 refine yN ?_
 refine h_condF rfl ?_
 refine h_skip ?_
 refine q_then ?_
 refine yR ?_
 refine yM rfl ?_
 refine h_op (r_build rfl) ?_
 refine h_opX (x_box rfl) fun g16 => ?_
 refine yS rfl ?_
 refine yS rfl ?_
 refine yN ?_
 refine h_ret ?_
 exact h_ret2 rfl rfl rfl fun w s => ⟨(g16, gh, gc), rfl, (same (L' := [.blk g16 [.pointer (some ⟨gh, 0, none⟩), .pointer none] 113, .blk gh [.pointer (some ⟨gc, 0, none⟩), .int .i64 (n : Int)] 170, .blk gc [.int .i64 0] 272]) w s).res (List.Sublist.refl _) (by simp [Fa.wr])⟩
section
variable (h : Zh) (ks : Sl) (kb : List UInt8) [hK : SlZ h ks kb]
theorem TEntry_s (v : Sl) : Spec Tryz.prog 108 [.slice ks.A ks.n ks.c, .slice v.A v.n v.c].toArray [.zone false h] [] (fun _ : Unit => .tuple #[.agg (Entry.cells ⟨keyOf kb, v⟩).toArray, .int .i64 (entE kb.length v.n)]) (fun _ => []) := by
 have hO := KOf_s h ks kb
 by_cases hk : kb.length = 32
 ·rw [if_pos hk] at hO
  by_cases hv : 65535 < v.n
  ·have he : entE kb.length v.n = 3 := by unfold entE; rw [if_pos hk, if_pos hv]
   rw [he]
   refine spec_of Tryz.func108 rfl (n := 24) rfl rfl ?_
   intro W
   refine yR ?_
   refine h_opX (x_alloc) fun g4 => ?_
   refine yS rfl ?_
   refine yN ?_
   refine yR ?_
   refine yM rfl ?_
   refine h_call (hO.comes) rfl rfl rfl fun _ => ?_
   refine yM rfl ?_
   refine h_op (r_extract rfl rfl) ?_
   refine h_op (r_extract rfl rfl) ?_
   refine h_opX (x_alloc) fun g6 => ?_
   refine h_opS (s_storer rfl rfl) ?_
   refine yS rfl ?_
   refine yN ?_
   refine h_seq ?_
   refine yR ?_
   refine yM rfl ?_
   refine h_op (r_bool (r_eql rfl rfl) (show _ = true from rfl)) ?_
   refine yM rfl ?_
   refine yM rfl ?_
   refine h_op (r_len rfl) ?_
   refine h_op (r_bool (r_gtr rfl rfl) (decide_eq_true (by omega))) ?_
   refine h_op (r_pick rfl rfl) ?_
   refine yN ?_
   refine h_condT rfl ?_
   refine h_reg ?_
   refine yS rfl ?_
   refine yN ?_
   refine yR ?_
   refine h_op (r_loadr rfl) ?_
   refine yM rfl ?_
   refine h_op (r_build rfl) ?_
   refine yM rfl ?_
   refine h_opS (s_storer rfl rfl) ?_
   refine yS rfl ?_
   refine yN ?_
   refine h_ret ?_
   exact h_ret2 rfl (rv_row rfl) rfl fun w s => ⟨(), rfl, s.res (List.nil_sublist _) (by simp)⟩
  ·have he : entE kb.length v.n = 0 := by unfold entE; rw [if_pos hk, if_neg hv]
   rw [he]
   refine spec_of Tryz.func108 rfl (n := 24) rfl rfl ?_
   intro W
   refine yR ?_
   refine h_opX (x_alloc) fun g4 => ?_
   refine yS rfl ?_
   refine yN ?_
   refine yR ?_
   refine yM rfl ?_
   refine h_call (hO.comes) rfl rfl rfl fun _ => ?_
   refine yM rfl ?_
   refine h_op (r_extract rfl rfl) ?_
   refine h_op (r_extract rfl rfl) ?_
   refine h_opX (x_alloc) fun g6 => ?_
   refine h_opS (s_storer rfl rfl) ?_
   refine yS rfl ?_
   refine yN ?_
   refine h_seq ?_
   refine yR ?_
   refine yM rfl ?_
   refine h_op (r_bool (r_eql rfl rfl) (show _ = true from rfl)) ?_
   refine yM rfl ?_
   refine yM rfl ?_
   refine h_op (r_len rfl) ?_
   refine h_op (r_bool (r_gtr rfl rfl) (decide_eq_false (by omega))) ?_
   refine h_op (r_pick rfl rfl) ?_
   refine yN ?_
   refine h_condF rfl ?_
   refine h_skip ?_
   refine q_then ?_
   refine yR ?_
   refine h_op (r_loadr rfl) ?_
   refine yM rfl ?_
   refine h_op (r_build rfl) ?_
   refine yM rfl ?_
   refine h_opS (s_storer rfl rfl) ?_
   refine yS rfl ?_
   refine yN ?_
   refine h_ret ?_
   exact h_ret2 rfl (rv_row rfl) rfl fun w s => ⟨(), rfl, s.res (List.nil_sublist _) (by simp)⟩
 ·rw [if_neg hk] at hO
  have he : entE kb.length v.n = 2 := by unfold entE; rw [if_neg hk]
  rw [he]
  refine spec_of Tryz.func108 rfl (n := 24) rfl rfl ?_
  intro W
  refine yR ?_
  refine h_opX (x_alloc) fun g4 => ?_
  refine yS rfl ?_
  refine yN ?_
  refine yR ?_
  refine yM rfl ?_
  refine h_call (hO.comes) rfl rfl rfl fun _ => ?_
  refine yM rfl ?_
  refine h_op (r_extract rfl rfl) ?_
  refine h_op (r_extract rfl rfl) ?_
  refine h_opX (x_alloc) fun g6 => ?_
  refine h_opS (s_storer rfl rfl) ?_
  refine yS rfl ?_
  refine yN ?_
  refine h_seq ?_
  refine yR ?_
  refine yM rfl ?_
  refine h_op (r_bool (r_eql rfl rfl) (show _ = false from rfl)) ?_
  refine yM rfl ?_
  refine h_opOff ?_
  refine h_opOff ?_
  refine h_opOff ?_
  refine h_op (r_pick rfl rfl) ?_
  refine yN ?_
  refine h_condF rfl ?_
  refine h_skip ?_
  refine q_then ?_
  refine yR ?_
  refine h_op (r_loadr rfl) ?_
  refine yM rfl ?_
  refine h_op (r_build rfl) ?_
  refine yM rfl ?_
  refine h_opS (s_storer rfl rfl) ?_
  refine yS rfl ?_
  refine yN ?_
  refine h_ret ?_
  exact h_ret2 rfl (rv_row rfl) rfl fun w s => ⟨(), rfl, s.res (List.nil_sublist _) (by simp)⟩
end
theorem tFail_no (op : ByteArray) (i : Int) : Spec Tryz.prog 55 [.string op, .int .i64 i, .int .i64 0].toArray [] [] (fun _ : Unit => .nilIface) (fun _ => []) := by
 refine spec_of Tryz.func55 rfl (n := 14) rfl rfl ?_
 intro W
 refine yR ?_
 refine yS rfl ?_
 refine yN ?_
 refine h_seq ?_
 refine yR ?_
 refine yM rfl ?_
 refine h_op (r_eql rfl rfl) ?_
 refine yN ?_
 refine h_condT rfl ?_
 refine yR ?_
 refine yS rfl ?_
 refine yN ?_
 refine h_ret ?_
 refine q_thenR ?_
 exact h_ret1 rfl rfl fun w s => ⟨(), rfl, s.res (List.nil_sublist _) (by simp)⟩
theorem tFail_s (op : ByteArray) (i : Int) (e : Int) (he : e ≠ 0) : Spec Tryz.prog 55 [.string op, .int .i64 i, .int .i64 e].toArray [] [] (fun g : Nat => .iface 145 (.pointer (some ⟨g, 0, none⟩))) (fun g => [.blk g (fltC op i e) 284]) := by
 refine spec_of Tryz.func55 rfl (n := 14) rfl rfl ?_
 intro W
 refine yR ?_
 refine yS rfl ?_
 refine yN ?_
 refine h_seq ?_
 refine yR ?_
 refine yM rfl ?_
 refine h_op (r_eql rfl rfl) ?_
 refine yN ?_
 refine h_no rfl (he) ?_
 refine h_skip ?_
 refine q_then ?_
 refine yR ?_
 refine yM rfl ?_
 refine yM rfl ?_
 refine yM rfl ?_
 refine h_op (r_mkI rfl) ?_
 refine h_call ((fNew_s op i e).comes) rfl rfl rfl fun g13 => ?_
 refine yS rfl ?_
 refine yN ?_
 refine h_ret ?_
 exact h_ret1 rfl rfl fun w s => ⟨g13, rfl, (same (L' := [.blk g13 (fltC op i e) 284]) w s).res (List.Sublist.refl _) (by simp [Fa.wr])⟩
section
variable (h : Zh) (ks : Sl) (kb : List UInt8) [hK : SlZ h ks kb]
theorem tStart_ok (t0 : Nat) (op : ByteArray) (v : Sl) (he : entE kb.length v.n = 0) : Spec Tryz.prog 84 [.pointer (some ⟨t0, 0, none⟩), .string op, .slice ks.A ks.n ks.c, .slice v.A v.n v.c].toArray [.zone false h] [] (fun _ : Unit => .tuple #[.agg (Entry.cells ⟨keyOf kb, v⟩).toArray, .nilIface]) (fun _ => []) := by
 have hE := TEntry_s h ks kb v
 rw [he] at hE
 refine spec_of Tryz.func84 rfl (n := 27) rfl rfl ?_
 intro W
 refine yR ?_
 refine h_opX (x_alloc) fun g8 => ?_
 refine yS rfl ?_
 refine yN ?_
 refine h_seq ?_
 refine yR ?_
 refine yM rfl ?_
 refine h_op (r_nilR rfl rfl) ?_
 refine yN ?_
 refine h_condF rfl ?_
 refine h_skip ?_
 refine q_then ?_
 refine yR ?_
 refine yM rfl ?_
 refine yM rfl ?_
 refine h_call (hE.comes) rfl rfl rfl fun _ => ?_
 refine yM rfl ?_
 refine h_op (r_extract rfl rfl) ?_
 refine h_op (r_extract rfl rfl) ?_
 refine h_opX (x_alloc) fun g10 => ?_
 refine h_opS (s_storer rfl rfl) ?_
 refine yS rfl ?_
 refine yN ?_
 refine h_seq ?_
 refine ha_start [.blk g10 (Entry.cells ⟨keyOf kb, v⟩) 89] [] mixed (same) ?_
 refine ha_take 0 rfl (r_loadr rfl) ?_
 refine ha_takeP 1 rfl (r_move rfl) ?_
 refine ha_takeP 2 rfl (r_move rfl) ?_
 refine ha_one 3 ?_
 refine ho_C 3 rfl ((tFail_no op 0).comes) rfl rfl rfl (fun xx => same) fun _ => ?_
 refine ha_one 4 ?_
 refine ho_S 4 rfl (s_storer rfl rfl) (same) ?_
 refine ha_takeP 5 rfl (r_assign rfl) ?_
 refine ha_done (by kernel_rfl) ?_
 refine q_then ?_
 refine h_ret ?_
 exact h_ret2 rfl (rv_row rfl) rfl fun w s => ⟨(), rfl, s.res (List.nil_sublist _) (by simp)⟩
theorem tStart_bad (t0 : Nat) (op : ByteArray) (v : Sl) (he : entE kb.length v.n ≠ 0) : Spec Tryz.prog 84 [.pointer (some ⟨t0, 0, none⟩), .string op, .slice ks.A ks.n ks.c, .slice v.A v.n v.c].toArray [.zone false h] [] (fun g : Nat => .tuple #[.agg (Entry.cells ⟨keyOf kb, v⟩).toArray, .iface 145 (.pointer (some ⟨g, 0, none⟩))]) (fun g => [.blk g (fltC op 0 (entE kb.length v.n)) 284]) := by
 have hE := TEntry_s h ks kb v
 generalize entE kb.length v.n = e at *
 refine spec_of Tryz.func84 rfl (n := 27) rfl rfl ?_
 intro W
 refine yR ?_
 refine h_opX (x_alloc) fun g8 => ?_
 refine yS rfl ?_
 refine yN ?_
 refine h_seq ?_
 refine yR ?_
 refine yM rfl ?_
 refine h_op (r_nilR rfl rfl) ?_
 refine yN ?_
 refine h_condF rfl ?_
 refine h_skip ?_
 refine q_then ?_
 refine yR ?_
 refine yM rfl ?_
 refine yM rfl ?_
 refine h_call (hE.comes) rfl rfl rfl fun _ => ?_
 refine yM rfl ?_
 refine h_op (r_extract rfl rfl) ?_
 refine h_op (r_extract rfl rfl) ?_
 refine h_opX (x_alloc) fun g10 => ?_
 refine h_opS (s_storer rfl rfl) ?_
 refine yS rfl ?_
 refine yN ?_
 refine h_seq ?_
 refine ha_start [.blk g10 (Entry.cells ⟨keyOf kb, v⟩) 89] [] mixed (same) ?_
 refine ha_take 0 rfl (r_loadr rfl) ?_
 refine ha_takeP 1 rfl (r_move rfl) ?_
 refine ha_takeP 2 rfl (r_move rfl) ?_
 refine ha_one 3 ?_
 refine ho_C 3 rfl ((tFail_s op 0 e he).comes) rfl rfl rfl (fun xx => same) fun g26 => ?_
 refine ha_one 4 ?_
 refine ho_S 4 rfl (s_storer rfl rfl) (same) ?_
 refine ha_takeP 5 rfl (r_assign rfl) ?_
 refine ha_done (by kernel_rfl) ?_
 refine q_then ?_
 refine h_ret ?_
 exact h_ret2 rfl (rv_row rfl) rfl fun w s => ⟨g26, rfl, (same (L' := [.blk g26 (fltC op 0 e) 284]) w s).res (List.Sublist.refl _) (by simp [Fa.wr])⟩
end
theorem tStart_nil (op : ByteArray) (k v : Value) : Spec Tryz.prog 84 [.pointer none, .string op, k, v].toArray [] [] (fun g : Nat => .tuple #[.agg zEntry.cells.toArray, .iface 145 (.pointer (some ⟨g, 0, none⟩))]) (fun g => [.blk g (fltC op 0 1) 284]) := by
 refine spec_of Tryz.func84 rfl (n := 27) rfl rfl ?_
 intro W
 refine yR ?_
 refine h_opX (x_alloc) fun g8 => ?_
 refine yS rfl ?_
 refine yN ?_
 refine h_seq ?_
 refine yR ?_
 refine yM rfl ?_
 refine h_op (r_nilR rfl rfl) ?_
 refine yN ?_
 refine h_condT rfl ?_
 refine yR ?_
 refine h_op (r_build (out := zEntry.cells) rfl) ?_
 refine yM rfl ?_
 refine h_call ((tFail_s op 0 1 (by decide)).comes) rfl rfl rfl fun g16 => ?_
 refine h_opS (s_storer rfl rfl) ?_
 refine yS rfl ?_
 refine yN ?_
 refine h_ret ?_
 refine q_thenR ?_
 exact h_ret2 rfl (rv_row rfl) rfl fun w s => ⟨g16, rfl, (same (L' := [.blk g16 (fltC op 0 1) 284]) w s).res (List.Sublist.refl _) (by simp [Fa.wr])⟩
end Go.Proofs.YtjhlbbgikccclaaGreatDoor
