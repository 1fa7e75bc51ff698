/- mcodec.Decode, of the bytes of items that are well-formed; multi.add, the cases of one item; multi.add: all trees; multi.Prove; multi: the ends of keys; multiproofs: the reference's Same; law19.Few; The reference's maps: Put, Of, Few, Root; The reference's maps: Few, Root; the tree that grows out of a map (joined texts: U113 U72 U73 U74 U75 U79 U39 U40) -/
import Derived.Test.YtgfkbeipckbkiaaDoorK11
import Derived.Scope
set_option linter.all false
/- U113 -/
namespace Go.Proofs.YtgfkbeipckbkiaaDoor
set_option linter.unusedSimpArgs false
set_option linter.unusedVariables false
open Go.RowKit
section
variable {A : List Fa} {W : World} {n : Nat} {D : List Deferred} {E : Env} {L : List Fa} {P : Program} {ro : Option Nat} {Q : Exit → Act → World → Prop} {K : Act → World → Prop}
theorem stepR_scope {b : Frame} {a : Act} {k : List Go.Item} {cs : List Frame} {w : World} {c : Code} : step P (lone (b.atR a (.code (.scope c) :: k)) cs w) = .next (lone (b.atR a (.code c :: .inScope c :: k)) cs w) :=
  step_lone_go (by simp [stepG, stepG.exec, Frame.atR])
theorem stepR_inScope {b : Frame} {a : Act} {k : List Go.Item} {cs : List Frame} {w : World} {c : Code} : step P (lone (b.atR a (.inScope c :: k)) cs w) = .next (lone (b.atR a k) cs w) :=
  step_lone_go (by simp [stepG, stepG.exec, Frame.atR])
theorem wpIn_scope {F : Fence} {m : Nat} {a : Act} {w : World} {c : Code} (h : c.wpIn F m P (Exit.noGoto Q) a w) : (Code.scope c).wpIn F m P Q a w := by
  intro b k cs hro hb hr
  have h0 : (lone (b.atR a (.code (.scope c) :: k)) cs w).fenced P F := fenced_calm hb hr rfl
  obtain ⟨e, a₁, w₁, hq, harr⟩ := h b (.inScope c :: k) cs hro hb hr
  cases e with
  | normal => exact ⟨.normal, a₁, w₁, hq, .head h0 stepR_scope (StepsIn.trans harr (.one (fenced_calm hb hr rfl) stepR_inScope))⟩
  | exit id =>
    have hx : exitTo id (.inScope c :: k) = exitTo id k := by simp [exitTo]
    exact ⟨.exit id, a₁, w₁, hq, fun k' hk => .head h0 stepR_scope (harr.1 k' (by rw [hx]; exact hk)),
      fun hr' hk => let ⟨k₁, h1, h2⟩ := harr.2 hr' (by rw [hx]; exact hk); ⟨k₁, h1, .head h0 stepR_scope h2⟩⟩
  | goto l => exact hq.elim
  | ret => exact ⟨_, a₁, w₁, hq, .of_steps (.one h0 stepR_scope) harr⟩
  | panic ch => exact ⟨_, a₁, w₁, hq, .of_steps (.one h0 stepR_scope) harr⟩
  | outgrown => exact ⟨_, a₁, w₁, hq, .of_steps (.one h0 stepR_scope) harr⟩
theorem h_scope {c : Code} (h : H A W n D E L (c.wpIn (FR ro) 0 P (Exit.noGoto Q))) : H A W n D E L ((Code.scope c).wpIn (FR ro) 0 P Q) := fun a w k s => wpIn_scope (h a w k s)
theorem h_label {l : Nat} (h : H A W n D E L (Q .normal)) : H A W n D E L ((Code.label l).wpIn (FR ro) 0 P Q) := fun a w k s => wpIn_label (h a w k s)
theorem q_scopeR (h : H A W n D E L (Q .ret)) : H A W n D E L (Exit.noGoto Q .ret) := h
end
/-- the rest of a row, behind k cells -/
theorem RdZ.cut {h : Zh} {b o : Nat} {l m : List UInt8} (hr : RdZ h (some ⟨b, o, none⟩) (bc (l ++ m))) {k o2 : Nat} (hk : l.length = k) (ho : o + k = o2) : RdZ h (some ⟨b, o2, none⟩) (bc m) := by
  subst hk ho
  refine ⟨fun j v hv => ?_⟩
  obtain ⟨b', o', e, h2⟩ := hr.at_ (l.length + j) v (by rw [bc_append, List.getElem?_append_right (by rw [bc_length]; omega), bc_length, Nat.add_sub_cancel_left]; exact hv)
  injection e with e
  injection e with e1 e2
  subst e1 e2
  exact ⟨b, o + l.length, rfl, by rw [Nat.add_assoc]; exact h2⟩
theorem RdZ.cutA {h : Zh} {A : Option Addr} {l m : List UInt8} {c k : Nat} (hr : RdZ h A (bc (l ++ m))) (hk : l.length = k) (hk0 : 0 < k) (hc : k + m.length ≤ c) : RdZ h (cutA A c k 1) (bc m) := by
  unfold Go.Proofs.YtgfkbeipckbkiaaDoor.cutA
  split
  · have : m = [] := List.eq_nil_of_length_eq_zero (by omega)
    rw [this]
    exact RdZ.nil _ _
  · refine ⟨fun j v hv => ?_⟩
    have h1 := hr.at_ (k + j) v (by rw [bc_append, List.getElem?_append_right (by rw [bc_length]; omega), bc_length, hk, Nat.add_sub_cancel_left]; exact hv)
    obtain ⟨b, o, rfl, h2⟩ := h1
    exact ⟨b, o + k, by simp [Addr.add_mid], by rw [Nat.add_assoc]; exact h2⟩
theorem itsB_drop {l : List Item} {k : Nat} {x : Item} (h : l[k]? = some x) : itsB (l.drop k) = itB x ++ itsB (l.drop (k + 1)) := by
  unfold itsB
  obtain ⟨hk, rfl⟩ := List.getElem?_eq_some_iff.1 h
  rw [List.drop_eq_getElem_cons hk, List.flatMap_cons]
theorem checkM_pos {l : List Item} (h : checkM l = 0) : 0 < l.length := by
  cases l with
  | nil => simp [checkM, parseM, readM] at h
  | cons x l => simp
theorem its_take {l : List Item} {k : Nat} {x : Item} (h : l[k]? = some x) : its (l.take k) ++ x.cells = its (l.take (k + 1)) := by
  unfold its
  rw [List.take_add_one, h, List.flatMap_append]
  simp
section
variable (h : Zh)
theorem item_any {l : List Item} (hk0 : checkM l = 0) {k : Nat} {x : Item} (hx : l[k]? = some x) {bR oR cr : Nat} {rest : List UInt8} (hz : RdZ h (some ⟨bR, oR, none⟩) (bc (itB x ++ rest))) (p : Nat) (hp : payN x.kind = p) (hc : 1 + p ≤ cr) :
    Spec Tryd.prog 53 [.int .i64 x.kind, .slice (cutA (some ⟨bR, oR, none⟩) cr 1 1) p (cr - 1)].toArray [.zone false h] [] (fun _ : Unit => .agg x.cells.toArray) (fun _ => []) := by
  have hkc := kind_cases hk0 hx
  have hcl := List.all_eq_true.1 (checkM_fine hk0).2 x (List.mem_of_getElem? hx)
  unfold cleanItem at hcl
  rw [Bool.and_eq_true, Bool.or_eq_true, Bool.or_eq_true, beq_iff_eq, beq_iff_eq, decide_eq_true_eq, decide_eq_true_eq] at hcl
  subst hp
  have hcut : 0 < payN x.kind → cutA (some ⟨bR, oR, none⟩) cr 1 1 = some ⟨bR, oR + 1, none⟩ := fun hp => by
    unfold cutA
    rw [if_neg (by omega)]
    simp [Addr.add_mid]
  by_cases h1 : x.kind = 1
  · have hp : payN x.kind = 64 := by unfold payN; rw [if_pos h1]
    have hdg : x.digest = zB32 := hcl.1.resolve_left (by omega)
    have hib : itB x = u8n x.kind.toNat :: (x.leaf.key.1 ++ x.leaf.value.1) := by unfold itB; rw [if_pos h1]
    rw [hib] at hz
    have hz1 : RdZ h (some ⟨bR, oR + 1, none⟩) (bc (x.leaf.key.1 ++ x.leaf.value.1)) := by
      have := RdZ.cut (l := [u8n x.kind.toNat]) (m := (x.leaf.key.1 ++ x.leaf.value.1) ++ rest) hz rfl rfl
      exact ⟨fun j v hv => this.at_ j v (by rw [bc_append, List.getElem?_append_left (List.getElem?_eq_some_iff.1 hv).1]; exact hv)⟩
    have hI := item_one h x.leaf bR (oR + 1) (cr - 1) hz1 (by omega)
    rw [hcut (by omega), hp]
    rw [show (⟨1, zB32, x.leaf⟩ : Item) = x by rw [← hdg, ← h1]] at hI
    rw [h1]
    exact hI
  · by_cases h3 : x.kind = 3
    · have hp : payN x.kind = 32 := by unfold payN; rw [if_neg h1, if_pos h3]
      have hlf : x.leaf = zLeaf := hcl.2.resolve_left h1
      have hib : itB x = u8n x.kind.toNat :: x.digest.1 := by unfold itB; rw [if_neg h1, if_pos h3]
      rw [hib] at hz
      have hz1 : RdZ h (some ⟨bR, oR + 1, none⟩) x.digest.cells := by
        have := RdZ.cut (l := [u8n x.kind.toNat]) (m := x.digest.1 ++ rest) hz rfl rfl
        exact ⟨fun j v hv => this.at_ j v (by rw [bc_append]; show (x.digest.cells ++ bc rest)[j]? = some v; rw [List.getElem?_append_left (List.getElem?_eq_some_iff.1 hv).1]; exact hv)⟩
      have hI := item_three h x.digest bR (oR + 1) (cr - 1) hz1
      rw [hcut (by omega), hp]
      rw [show (⟨3, x.digest, zLeaf⟩ : Item) = x by rw [← hlf, ← h3]] at hI
      rw [h3]
      exact hI
    · have hdg : x.digest = zB32 := hcl.1.resolve_left h3
      have hlf : x.leaf = zLeaf := hcl.2.resolve_left h1
      have hI := item_bare h x.kind h1 h3 (cutA (some ⟨bR, oR, none⟩) cr 1 1) (payN x.kind) (cr - 1)
      rw [show (⟨x.kind, zB32, zLeaf⟩ : Item) = x by rw [← hdg, ← hlf]] at hI
      exact hI
theorem mDecode_enc (l : List Item) (hk0 : checkM l = 0) (hl : l.length ≤ 200) (B : Option Addr) (c : Nat) (hcap : (encM l).length ≤ c) [hB : RdZ h B (bc (encM l))] :
    Spec Tryd.prog 30 [.slice B (encM l).length c].toArray [] [.zone true h] (fun u : {u : Zh × Option Addr × Nat // LeZ h u.1 ∧ RdZ u.1 u.2.1 (its l) ∧ l.length ≤ u.2.2} => .tuple #[.slice u.1.2.1 l.length u.1.2.2, .int .i64 0]) (fun u => [.zone true u.1.1]) := by
  have hlen := encM_len l
  have hle := lenI_le l
  have hpos := checkM_pos hk0
  have hl0 : (encM l).getD 0 0 = 1 := rfl
  have hl1 : (encM l).getD 1 0 = 2 := rfl
  have hbyte : ∀ k, k < 4 → (((encM l).drop 2).getD k 0).toNat = if k = 3 then l.length else 0 := by
    intro k hk
    rcases (by omega : k = 0 ∨ k = 1 ∨ k = 2 ∨ k = 3) with rfl | rfl | rfl | rfl
    · show (UInt8.ofNat (l.length / 2 ^ 24)).toNat = 0
      rw [UInt8.toNat_ofNat', Nat.div_eq_of_lt (by omega)]
    · show (UInt8.ofNat (l.length / 2 ^ 16)).toNat = 0
      rw [UInt8.toNat_ofNat', Nat.div_eq_of_lt (by omega)]
    · show (UInt8.ofNat (l.length / 2 ^ 8)).toNat = 0
      rw [UInt8.toNat_ofNat', Nat.div_eq_of_lt (by omega)]
    · show (UInt8.ofNat (l.length / 2 ^ 0)).toNat = l.length
      rw [UInt8.toNat_ofNat']
      omega
  obtain ⟨b, o, rfl, -⟩ := hB.at_ 0 _ (List.getElem?_eq_getElem (by rw [bc_length]; omega))
  obtain ⟨o2, ho2⟩ : ∃ o2, o + 2 = o2 := ⟨_, rfl⟩
  have hB2 : RdZ h (some ⟨b, o2, none⟩) (bc ((encM l).drop 2)) := RdZ.cut (l := (encM l).take 2) (m := (encM l).drop 2) (by rw [List.take_append_drop]; exact hB) (by rw [List.length_take]; omega) ho2
  have hR0 : RdZ h (cutA (some ⟨b, o, none⟩) c 6 1) (bc (itsB l)) := RdZ.cutA (l := headM l.length) (m := itsB l) hB rfl (by omega) (by rw [itsB_len]; omega)
  have hd2 : ((encM l).drop 2).length = 4 + lenI l := by rw [List.length_drop]; omega
  have hib := itsB_len l
  obtain ⟨E, hE⟩ : ∃ E, encM l = E := ⟨_, rfl⟩
  obtain ⟨E2, hE2⟩ : ∃ E2, E.drop 2 = E2 := ⟨_, rfl⟩
  rw [hE] at hl0 hl1 hB hlen hbyte hB2 hd2 hcap ⊢
  rw [hE2] at hbyte hB2 hd2
  rw [hlen]
  rw [hlen] at hcap
  refine spec_of Tryd.func30 rfl (n := 88) rfl rfl ?_
  intro W
  refine h_seq ?_
  refine h_reg ?_
  refine h_op (r_assign rfl) ?_
  refine h_op (r_assign rfl) ?_
  refine h_nil ?_
  refine q_then ?_
  refine h_scope ?_
  refine h_seq ?_
  refine h_block ?_
  refine h_seq ?_
  refine h_reg ?_
  refine h_op (r_move rfl) ?_
  refine h_op (r_len rfl) ?_
  refine h_op (r_lss rfl rfl) ?_
  refine h_op (r_assign rfl) ?_
  refine h_nil ?_
  refine q_then ?_
  refine h_no rfl ((show ¬ ((6 + lenI l : Nat) : Int) < 6 by omega)) ?_
  refine h_seq ?_
  refine h_reg ?_
  refine h_op (r_move rfl) ?_
  refine h_op (r_idx rfl rfl) ?_
  refine h_op (r_as (r_nth rfl (bc_at' (l := E) (i := 0) (by omega))) (show _ = Value.int .u8 1 by rw [hl0]; rfl)) ?_
  refine h_op (r_neq rfl rfl) ?_
  refine h_op (r_assign rfl) ?_
  refine h_nil ?_
  refine q_then ?_
  refine h_no rfl ((fun h => h rfl)) ?_
  refine h_seq ?_
  refine h_reg ?_
  refine h_op (r_move rfl) ?_
  refine h_op (r_idx rfl rfl) ?_
  refine h_op (r_as (r_nth rfl (bc_at' (l := E) (i := 1) (by omega))) (show _ = Value.int .u8 2 by rw [hl1]; rfl)) ?_
  refine h_op (r_neq rfl rfl) ?_
  refine h_op (r_assign rfl) ?_
  refine h_nil ?_
  refine q_then ?_
  refine h_no rfl ((fun h => h rfl)) ?_
  refine h_skip ?_
  refine q_block ?_
  refine q_then ?_
  refine h_seq ?_
  refine h_reg ?_
  refine h_op (r_assign rfl) ?_
  refine h_nil ?_
  refine q_then ?_
  refine h_seq ?_
  refine h_seq ?_
  refine h_reg ?_
  refine h_op (r_move rfl) ?_
  refine h_op (r_as (r_slLHb rfl rfl rfl (m := 4)) (show _ = Value.slice (some ⟨b, o2, none⟩) 4 (c - 2) by rw [← ho2])) ?_
  refine h_op (r_len rfl) ?_
  refine h_op (r_move rfl) ?_
  refine h_nil ?_
  refine q_then ?_
  refine h_block ?_
  refine h_loop (fun (k : Nat) => k ≤ 4) (fun (k : Nat) => [(28, .int .i64 (k : Int)), (27, .int .i64 4), (26, .slice (some ⟨b, o2, none⟩) 4 (c - 2)), (4, .int .i64 (if k = 4 then (l.length : Int) else 0)), (0, .slice (some ⟨b, o, none⟩) (6 + lenI l) c)]) (fun (k : Nat) => [.zone true h]) (fun (k : Nat) => 4 - k) 0 ((show 0 ≤ 4 by omega)) ⟨rfl, rfl, rfl, rfl, rfl, trivial⟩ (same) ?_
  rintro k hk
  refine h_seq ?_
  refine h_reg ?_
  refine h_op (r_lss rfl rfl) ?_
  refine h_nil ?_
  refine q_then ?_
  refine h_seq ?_
  refine h_cond rfl (fun hlt => ?_) (fun hlt => ?_)
  · have hk2 : k < 4 := by omega
    have hby := hbyte k hk2
    rw [if_neg (show ¬ k = 4 by omega)]
    refine h_skip ?_
    refine q_then ?_
    refine h_seq ?_
    refine h_block ?_
    refine h_seq ?_
    refine h_reg ?_
    refine h_op (r_idx rfl rfl) ?_
    refine h_op (r_nth rfl (bc_at' (l := E2) (i := k) (by omega))) ?_
    refine h_op (r_assign rfl) ?_
    refine h_nil ?_
    refine q_then ?_
    refine h_reg ?_
    refine h_op (r_move rfl) ?_
    refine h_op (r_shl8 (i := 0) rfl rfl) ?_
    refine h_op (r_move rfl) ?_
    refine h_op (r_int (r_cUI rfl) (show _ = (((if k = 3 then l.length else 0) : Nat) : Int) from congrArg Nat.cast hby)) ?_
    refine h_op (r_int (r_or8 (i := 0) rfl rfl (by omega) (by split <;> omega)) (show _ = if k + 1 = 4 then (l.length : Int) else 0 by split <;> split <;> omega)) ?_
    refine h_op (r_assign rfl) ?_
    refine h_nil ?_
    refine q_block ?_
    refine q_then ?_
    refine h_reg ?_
    refine h_op (r_add rfl rfl) ?_
    refine h_op (r_move rfl) ?_
    refine h_nil ?_
    exact h_back (k + 1) (hk2) (by omega) ⟨rfl, rfl, rfl, rfl, rfl, trivial⟩ (same)
  · obtain rfl : k = 4 := by omega
    rw [if_pos rfl]
    refine h_exit ?_
    refine q_thenE ?_
    refine q_thenE ?_
    refine q_blockE ?_
    refine q_then ?_
    refine h_seq ?_
    refine h_reg ?_
    refine h_op (r_assign rfl) ?_
    refine h_nil ?_
    refine q_then ?_
    refine h_seq ?_
    refine h_reg ?_
    refine h_op (r_move rfl) ?_
    refine h_op (r_as (r_slL rfl rfl) (show _ = Value.slice (cutA (some ⟨b, o, none⟩) c 6 1) (itsB (l.drop 0)).length (c - 6) by rw [Nat.add_sub_cancel_left, List.drop_zero, hib])) ?_
    refine h_op (r_assign rfl) ?_
    refine h_nil ?_
    refine q_then ?_
    refine h_seq ?_
    refine h_label ?_
    refine q_then ?_
    refine h_seq ?_
    refine h_block ?_
    refine h_nil_own 45 97 (xs := its (l.take 0)) rfl ?_
    refine h_loop (fun (s : Nat × (Option Addr × Nat) × Option Addr × Nat) => s.1 ≤ l.length ∧ RdZ h s.2.1.1 (bc (itsB (l.drop s.1))) ∧ (itsB (l.drop s.1)).length ≤ s.2.1.2) (fun (s : Nat × (Option Addr × Nat) × Option Addr × Nat) => [(8, .slice s.2.1.1 (itsB (l.drop s.1)).length s.2.1.2), (7, .slice s.2.2.1 s.1 s.2.2.2), (4, .int .i64 (l.length : Int))]) (fun (s : Nat × (Option Addr × Nat) × Option Addr × Nat) => [.own (.slice s.2.2.1 s.1 s.2.2.2) s.1 45 97 (its (l.take s.1)), .zone true h]) (fun (s : Nat × (Option Addr × Nat) × Option Addr × Nat) => l.length - s.1) (0, (cutA (some ⟨b, o, none⟩) c 6 1, c - 6), none, 0) (⟨Nat.zero_le _, hR0, (by dsimp only; rw [show l.drop 0 = l from rfl, hib]; omega)⟩) ⟨rfl, rfl, rfl, trivial⟩ (same) ?_
    rintro ⟨k, ⟨R, cr⟩, A, c9⟩ ⟨hk, hzr, hcr⟩
    dsimp only at hk hzr hcr ⊢
    by_cases hlt2 : k < l.length
    · obtain ⟨x, hx⟩ : ∃ x, l[k]? = some x := ⟨_, List.getElem?_eq_getElem hlt2⟩
      have hkc := kind_cases hk0 hx
      have hdr := itsB_drop hx
      have hil := itB_len x
      have hits := its_take hx
      obtain ⟨rest, hrest⟩ : ∃ rest, itsB (l.drop (k + 1)) = rest := ⟨_, rfl⟩
      rw [hrest] at hdr
      obtain ⟨p, hp⟩ : ∃ p, payN x.kind = p := ⟨_, rfl⟩
      have hPl := payload_s x.kind
      rw [hp] at hPl hil
      have hp64 : p ≤ 64 := hp ▸ payN_le x.kind
      rw [hdr] at hzr hcr ⊢
      have hl2 : (itB x ++ rest).length = 1 + p + rest.length := by rw [List.length_append, hil]
      obtain ⟨bR, oR, rfl, -⟩ := hzr.at_ 0 _ (List.getElem?_eq_getElem (by rw [bc_length]; omega))
      have hb0 : ((itB x ++ rest).getD 0 0).toNat = x.kind.toNat := by
        show (u8n x.kind.toNat).toNat = _
        unfold u8n
        rw [UInt8.toNat_ofNat']
        omega
      have hb1 : (((itB x ++ rest).getD 0 0).toNat : Int) = x.kind := by rw [hb0]; omega
      have hIt := item_any h hk0 hx hzr p hp (cr := cr) (by omega)
      have hz5 : RdZ h (cutA (some ⟨bR, oR, none⟩) cr (1 + p) 1) (bc rest) := RdZ.cutA hzr hil (by omega) (by omega)
      obtain ⟨lb, hlb⟩ : ∃ lb, itB x ++ rest = lb := ⟨_, rfl⟩
      rw [hlb] at hb1 hzr hcr hl2 ⊢
      refine h_seq ?_
      refine h_seq ?_
      refine h_reg ?_
      refine h_op (r_move rfl) ?_
      refine h_op (r_len rfl) ?_
      refine h_op (r_bool (r_gtr rfl rfl) (decide_eq_true (by omega))) ?_
      refine h_op (r_move rfl) ?_
      refine h_op (r_move rfl) ?_
      refine h_op (r_len rfl) ?_
      refine h_op (r_move rfl) ?_
      refine h_op (r_bool (r_lss rfl rfl) (decide_eq_true (show (k : Int) < (l.length : Int) by omega))) ?_
      refine h_op (r_pick rfl rfl) ?_
      refine h_nil ?_
      refine q_then ?_
      refine h_condT rfl ?_
      refine h_skip ?_
      refine q_then ?_
      refine h_block ?_
      refine h_seq ?_
      refine h_reg ?_
      refine h_op (r_move rfl) ?_
      refine h_op (r_idx rfl rfl) ?_
      refine h_op (r_nth rfl (bc_at' (l := lb) (i := 0) (by omega))) ?_
      refine h_op (r_int (r_cUI rfl) (show _ = x.kind from hb1)) ?_
      refine h_op (r_assign rfl) ?_
      refine h_nil ?_
      refine q_then ?_
      refine h_seq ?_
      refine h_reg ?_
      refine h_op (r_move rfl) ?_
      refine h_call (hPl.comes) rfl rfl rfl fun _ => ?_
      refine h_op (r_assign rfl) ?_
      refine h_nil ?_
      refine q_then ?_
      refine h_seq ?_
      refine h_seq ?_
      refine h_reg ?_
      refine h_op (r_move rfl) ?_
      refine h_op (r_len rfl) ?_
      refine h_op (r_move rfl) ?_
      refine h_op (r_add rfl rfl) ?_
      refine h_op (r_bool (r_lss rfl rfl) (decide_eq_false (by omega))) ?_
      refine h_nil ?_
      refine q_then ?_
      refine h_condF rfl ?_
      refine h_skip ?_
      refine q_then ?_
      refine h_seq ?_
      refine h_reg ?_
      refine h_op (r_move rfl) ?_
      refine h_op (r_move rfl) ?_
      refine h_op (r_move rfl) ?_
      refine h_op (r_move rfl) ?_
      refine h_op (r_add rfl rfl) ?_
      refine h_op (r_as (r_slLH rfl rfl rfl (l := 1) (h := 1 + p)) (show _ = Value.slice (cutA (some ⟨bR, oR, none⟩) cr 1 1) p (cr - 1) by rw [Nat.add_sub_cancel_left])) ?_
      refine h_call (hIt.comes) rfl rfl rfl fun _ => ?_
      refine h_opX (x_bsl rfl rfl) fun g67 => ?_
      refine h_opX (x_app rfl rfl (k := 97)) fun ⟨g68, c68⟩ => ?_
      refine h_op (r_assign rfl) ?_
      refine h_nil ?_
      refine q_then ?_
      refine h_reg ?_
      refine h_op (r_move rfl) ?_
      refine h_op (r_move rfl) ?_
      refine h_op (r_add rfl rfl) ?_
      refine h_op (r_as (r_slL rfl rfl (l := 1 + p)) (show _ = Value.slice (cutA (some ⟨bR, oR, none⟩) cr (1 + p) 1) rest.length (cr - (1 + p)) by rw [hl2, Nat.add_sub_cancel_left])) ?_
      refine h_op (r_assign rfl) ?_
      refine h_nil ?_
      refine q_block ?_
      rw [hits]
      rw [← hrest] at hz5 ⊢
      exact h_back (k + 1, (cutA (some ⟨bR, oR, none⟩) cr (1 + p) 1, cr - (1 + p)), some ⟨g68, 0, none⟩, c68) (⟨hlt2, hz5, (by dsimp only; rw [hrest]; omega)⟩) ((show l.length - (k + 1) < l.length - k by omega)) ⟨rfl, rfl, rfl, trivial⟩ (same)
    · obtain rfl : k = l.length := by omega
      have hzero : (itsB (l.drop l.length)).length = 0 := by simp [itsB]
      rw [hzero, List.take_length]
      refine h_seq ?_
      refine h_seq ?_
      refine h_reg ?_
      refine h_op (r_move rfl) ?_
      refine h_op (r_len rfl) ?_
      refine h_op (r_bool (r_gtr rfl rfl) (decide_eq_false (by omega))) ?_
      refine h_op (r_move rfl) ?_
      refine h_opOff ?_
      refine h_opOff ?_
      refine h_opOff ?_
      refine h_opOff ?_
      refine h_op (r_pick rfl rfl) ?_
      refine h_nil ?_
      refine q_then ?_
      refine h_condF rfl ?_
      refine h_exit ?_
      refine q_thenE ?_
      refine q_thenE ?_
      refine q_blockE ?_
      refine q_then ?_
      refine h_seq ?_
      refine h_seq ?_
      refine h_reg ?_
      refine h_op (r_move rfl) ?_
      refine h_op (r_len rfl) ?_
      refine h_op (r_bool (r_gtr rfl rfl) (decide_eq_false (by omega))) ?_
      refine h_op (r_move rfl) ?_
      refine h_op (r_move rfl) ?_
      refine h_op (r_len rfl) ?_
      refine h_op (r_move rfl) ?_
      refine h_op (r_bool (r_neq rfl rfl) (decide_eq_false (fun h => h rfl))) ?_
      refine h_op (r_pick rfl rfl) ?_
      refine h_op (r_move rfl) ?_
      refine h_op (r_move rfl) ?_
      refine h_freezeO (.slice A l.length c9) fun z2 B2 c2 e2 hle2 hlen2 hnil2 hz2 hr2 => ?_
      injection e2 with e2 _ e3
      subst e2 e3
      have hC := mCheck_s z2 l A c9 hle2 (by omega)
      rw [hk0] at hC
      refine h_call (hC.comes) rfl rfl rfl fun _ => ?_
      refine h_op (r_bool (r_neq rfl rfl) (decide_eq_false (fun h => h rfl))) ?_
      refine h_op (r_pick rfl rfl) ?_
      refine h_nil ?_
      refine q_then ?_
      refine h_condF rfl ?_
      refine h_skip ?_
      refine q_then ?_
      refine h_seq ?_
      refine h_reg ?_
      refine h_op (r_move rfl) ?_
      refine h_op (r_assign rfl) ?_
      refine h_op (r_assign rfl) ?_
      refine h_nil ?_
      refine q_then ?_
      refine h_ret ?_
      refine q_scopeR ?_
      exact h_ret2 rfl rfl rfl fun w s => ⟨⟨(z2, A, c9), hz2, hr2, hle2⟩, rfl, (same (L' := [.zone true z2]) w s).res (List.Sublist.refl _) (by simp [Fa.wr])⟩
end
end Go.Proofs.YtgfkbeipckbkiaaDoor
/- U72 -/
namespace Go.Proofs.YtgfkbeipckbkiaaDoor
set_option linter.unusedSimpArgs false
set_option linter.unusedVariables false
open Go.RowKit
section
variable (n : Nat) (hn : n ≤ 256) (gh gc k : Nat) (hk : k ≤ 1000000000) (h : Zh) [hT : RdZ h (some ⟨1, 0, none⟩) hashT]
variable (p : Option Addr) (out : List Item) (A : Option Addr) (c : Nat) (ho : out.length ≤ 1000000) (i : Int)
theorem its_one (x : Item) : its [x] = x.cells := by unfold its; simp
theorem its_snoc (l : List Item) (x : Item) : its l ++ x.cells = its (l ++ [x]) := by rw [← its_one x, its_app]
include ho
omit hT in
theorem add_nil (ht : TrZ n h .nil p) (B : Option Addr) (N cc : Nat) : Spec Tryd.prog 35 [.pointer (some ⟨gh, 0, none⟩), .slice A out.length c, .pointer p, .slice B N cc, .int .i64 i].toArray [HR gh gc n, .zone false h] [.own (.slice A out.length c) out.length 45 97 (its out), CN gc k] (fun u : Option Addr × Nat => .slice u.1 (out.length + 1) u.2) (fun u => [.own (.slice u.1 (out.length + 1) u.2) (out.length + 1) 45 97 (its (out ++ [⟨0, zB32, zLeaf⟩])), CN gc k]) := by
  refine spec_of Tryd.func35 rfl (n := 72) rfl rfl ?_
  intro W
  refine h_seq ?_
  refine h_reg ?_
  refine h_op (r_assign rfl) ?_
  refine h_nil ?_
  refine q_then ?_
  refine h_seq ?_
  refine h_reg ?_
  refine h_op (r_move rfl) ?_
  refine h_call ((Kind_s n h .nil p).comes) rfl rfl rfl fun _ => ?_
  refine h_op (r_assign rfl) ?_
  refine h_nil ?_
  refine q_then ?_
  refine h_seq ?_
  refine h_block ?_
  refine h_seq ?_
  refine h_reg ?_
  refine h_op (r_move rfl) ?_
  refine h_op (r_bool (r_eql rfl rfl) (show _ = true from rfl)) ?_
  refine h_op (r_assign rfl) ?_
  refine h_nil ?_
  refine q_then ?_
  refine h_condT rfl ?_
  refine h_seq ?_
  refine h_reg ?_
  refine h_op (r_move rfl) ?_
  refine h_op (r_build rfl) ?_
  refine h_opX (x_bsl rfl rfl) fun g20 => ?_
  refine h_opX (x_app rfl rfl (k := 97)) fun ⟨g21, c21⟩ => ?_
  refine h_op (r_assign rfl) ?_
  refine h_nil ?_
  refine q_then ?_
  refine h_ret ?_
  refine q_blockR ?_
  refine q_thenR ?_
  rw [show zItem.cells = Item.cells ⟨0, zB32, zLeaf⟩ from rfl, its_snoc]
  exact h_ret1 rfl rfl fun w s => ⟨(some ⟨g21, 0, none⟩, c21), rfl, (same w s).res (List.Sublist.refl _) (by simp [Fa.wr])⟩
include hn hk
theorem add_sib (t : Tr) (ht : TrZ n h t p) (hk0 : t.kind ≠ 0) (B : Option Addr) (cc : Nat) : Spec Tryd.prog 35 [.pointer (some ⟨gh, 0, none⟩), .slice A out.length c, .pointer p, .slice B 0 cc, .int .i64 i].toArray [HR gh gc n, .zone false h] [.own (.slice A out.length c) out.length 45 97 (its out), CN gc k] (fun u : Option Addr × Nat => .slice u.1 (out.length + 1) u.2) (fun u => [.own (.slice u.1 (out.length + 1) u.2) (out.length + 1) 45 97 (its (out ++ [⟨3, dgT n t, zLeaf⟩])), CN gc k]) := by
  have hD := Digest_s n hn gh gc k (by omega) h t p
  rw [if_neg hk0, Nat.add_zero] at hD
  refine spec_of Tryd.func35 rfl (n := 72) rfl rfl ?_
  intro W
  refine h_seq ?_
  refine h_reg ?_
  refine h_op (r_assign rfl) ?_
  refine h_nil ?_
  refine q_then ?_
  refine h_seq ?_
  refine h_reg ?_
  refine h_op (r_move rfl) ?_
  refine h_call ((Kind_s n h t p).comes) rfl rfl rfl fun _ => ?_
  refine h_op (r_assign rfl) ?_
  refine h_nil ?_
  refine q_then ?_
  refine h_seq ?_
  refine h_block ?_
  refine h_seq ?_
  refine h_reg ?_
  refine h_op (r_move rfl) ?_
  refine h_op (r_bool (r_eql rfl rfl) (decide_eq_false (by omega))) ?_
  refine h_op (r_assign rfl) ?_
  refine h_nil ?_
  refine q_then ?_
  refine h_condF rfl ?_
  refine h_seq ?_
  refine h_reg ?_
  refine h_op (r_move rfl) ?_
  refine h_op (r_len rfl) ?_
  refine h_op (r_bool (r_eql rfl rfl) (show _ = true from rfl)) ?_
  refine h_op (r_assign rfl) ?_
  refine h_nil ?_
  refine q_then ?_
  refine h_condT rfl ?_
  refine h_seq ?_
  refine h_reg ?_
  refine h_op (r_move rfl) ?_
  refine h_op (r_move rfl) ?_
  refine h_op (r_move rfl) ?_
  refine h_call (hD.comes) rfl rfl rfl fun _ => ?_
  refine h_op (r_build rfl) ?_
  refine h_opX (x_bsl rfl rfl) fun g31 => ?_
  refine h_opX (x_app rfl rfl (k := 97)) fun ⟨g32, c32⟩ => ?_
  refine h_op (r_assign rfl) ?_
  refine h_nil ?_
  refine q_then ?_
  refine h_ret ?_
  refine q_blockR ?_
  refine q_thenR ?_
  change H _ _ _ _ _ (.own _ _ _ _ (its out ++ Item.cells ⟨3, dgT n t, zLeaf⟩) :: _) _
  rw [its_snoc]
  exact h_ret1 rfl rfl fun w s => ⟨(some ⟨g32, 0, none⟩, c32), rfl, (same w s).res (List.Sublist.refl _) (by simp [Fa.wr])⟩
omit hn hk hT in
theorem add_leaf (key : B32) (v : List UInt8) (ht : TrZ n h (.leaf key v) p) (B : Option Addr) (N cc : Nat) (hN : N ≠ 0) : Spec Tryd.prog 35 [.pointer (some ⟨gh, 0, none⟩), .slice A out.length c, .pointer p, .slice B N cc, .int .i64 i].toArray [HR gh gc n, .zone false h] [.own (.slice A out.length c) out.length 45 97 (its out), CN gc k] (fun u : Option Addr × Nat => .slice u.1 (out.length + 1) u.2) (fun u => [.own (.slice u.1 (out.length + 1) u.2) (out.length + 1) 45 97 (its (out ++ [⟨1, zB32, leafOf n key v⟩])), CN gc k]) := by
  refine spec_of Tryd.func35 rfl (n := 72) rfl rfl ?_
  intro W
  refine h_seq ?_
  refine h_reg ?_
  refine h_op (r_assign rfl) ?_
  refine h_nil ?_
  refine q_then ?_
  refine h_seq ?_
  refine h_reg ?_
  refine h_op (r_move rfl) ?_
  refine h_call ((Kind_s n h (.leaf key v) p).comes) rfl rfl rfl fun _ => ?_
  refine h_op (r_assign rfl) ?_
  refine h_nil ?_
  refine q_then ?_
  refine h_seq ?_
  refine h_block ?_
  refine h_seq ?_
  refine h_reg ?_
  refine h_op (r_move rfl) ?_
  refine h_op (r_bool (r_eql rfl rfl) (show _ = false from rfl)) ?_
  refine h_op (r_assign rfl) ?_
  refine h_nil ?_
  refine q_then ?_
  refine h_condF rfl ?_
  refine h_seq ?_
  refine h_reg ?_
  refine h_op (r_move rfl) ?_
  refine h_op (r_len rfl) ?_
  refine h_op (r_bool (r_eql rfl rfl) (decide_eq_false (by omega))) ?_
  refine h_op (r_assign rfl) ?_
  refine h_nil ?_
  refine q_then ?_
  refine h_condF rfl ?_
  refine h_seq ?_
  refine h_reg ?_
  refine h_op (r_move rfl) ?_
  refine h_op (r_bool (r_eql rfl rfl) (show _ = true from rfl)) ?_
  refine h_op (r_assign rfl) ?_
  refine h_nil ?_
  refine q_then ?_
  refine h_condT rfl ?_
  refine h_seq ?_
  refine h_reg ?_
  refine h_op (r_move rfl) ?_
  refine h_op (r_move rfl) ?_
  refine h_op (r_move rfl) ?_
  refine h_call ((Leaf_s n h (.leaf key v) p).comes) rfl rfl rfl fun _ => ?_
  refine h_op (r_build rfl) ?_
  refine h_opX (x_bsl rfl rfl) fun g41 => ?_
  refine h_opX (x_app rfl rfl (k := 97)) fun ⟨g42, c42⟩ => ?_
  refine h_op (r_assign rfl) ?_
  refine h_nil ?_
  refine q_then ?_
  refine h_ret ?_
  refine q_blockR ?_
  refine q_thenR ?_
  change H _ _ _ _ _ (.own _ _ _ _ (its out ++ Item.cells ⟨1, zB32, leafOf n key v⟩) :: _) _
  rw [its_snoc]
  exact h_ret1 rfl rfl fun w s => ⟨(some ⟨g42, 0, none⟩, c42), rfl, (same w s).res (List.Sublist.refl _) (by simp [Fa.wr])⟩
end
end Go.Proofs.YtgfkbeipckbkiaaDoor
/- U73 -/
namespace Go.Proofs.YtgfkbeipckbkiaaDoor
set_option linter.unusedSimpArgs false
set_option linter.unusedVariables false
open Go.RowKit
section
variable (n : Nat) (hn : n ≤ 256) (gh gc k : Nat) (hk : k ≤ 1000000000) (h : Zh) [hT : RdZ h (some ⟨1, 0, none⟩) hashT]
/-- what a call of add brings -/
def AddS (t : Tr) : Prop := ∀ (p : Option Addr), TrZ n h t p → ∀ (ks : List B32) (B : Option Addr) (cc d : Nat), RdZ h B (dgs ks) → ks.length ≤ cc → ks.length ≤ 1000000 → ks.Pairwise ltK → AlikeK ks d → d + t.ht ≤ 256 → ∀ (out : List Item) (A : Option Addr) (c : Nat), out.length + t.sz ≤ 1000000 →
  Spec Tryd.prog 35 [.pointer (some ⟨gh, 0, none⟩), .slice A out.length c, .pointer p, .slice B ks.length cc, .int .i64 (d : Int)].toArray [HR gh gc n, .zone false h] [.own (.slice A out.length c) out.length 45 97 (its out), CN gc k] (fun u : Option Addr × Nat => .slice u.1 (out ++ addT n t ks d).length u.2) (fun u => [.own (.slice u.1 (out ++ addT n t ks d).length u.2) (out ++ addT n t ks d).length 45 97 (its (out ++ addT n t ks d)), CN gc k])
omit hT in
theorem add_node (l r : Tr) (ihl : AddS n gh gc k h l) (ihr : AddS n gh gc k h r) (p : Option Addr) (ht : TrZ n h (.node l r) p) (ks : List B32) (B : Option Addr) (cc d m : Nat) (hB : RdZ h B (dgs ks)) (hcc : ks.length ≤ cc) (hks : ks.length ≤ 1000000) (hne : ks.length ≠ 0) (ho : ks.Pairwise ltK) (ha : AlikeK ks d) (hd : d + (Tr.node l r).ht ≤ 256) (hm : m ≤ ks.length) (hp : ∀ j, j < ks.length → bitAt (ks.getD j zB32) d = decide (m ≤ j)) (h1 : ks.take m = keysB ks d false) (h2 : ks.drop m = keysB ks d true) (out : List Item) (A : Option Addr) (c : Nat) (hsz : out.length + (Tr.node l r).sz ≤ 1000000) :
    Spec Tryd.prog 35 [.pointer (some ⟨gh, 0, none⟩), .slice A out.length c, .pointer p, .slice B ks.length cc, .int .i64 (d : Int)].toArray [HR gh gc n, .zone false h] [.own (.slice A out.length c) out.length 45 97 (its out), CN gc k] (fun u : Option Addr × Nat => .slice u.1 (out ++ ⟨2, zB32, zLeaf⟩ :: (addT n l (keysB ks d false) (d + 1) ++ addT n r (keysB ks d true) (d + 1))).length u.2) (fun u => [.own (.slice u.1 (out ++ ⟨2, zB32, zLeaf⟩ :: (addT n l (keysB ks d false) (d + 1) ++ addT n r (keysB ks d true) (d + 1))).length u.2) (out ++ ⟨2, zB32, zLeaf⟩ :: (addT n l (keysB ks d false) (d + 1) ++ addT n r (keysB ks d true) (d + 1))).length 45 97 (its (out ++ ⟨2, zB32, zLeaf⟩ :: (addT n l (keysB ks d false) (d + 1) ++ addT n r (keysB ks d true) (d + 1)))), CN gc k]) := by
  have hht : d + (max l.ht r.ht + 1) ≤ 256 := hd
  have hsz' : out.length + (l.sz + r.sz + 1) ≤ 1000000 := hsz
  have h0 : 0 < (dgs ks).length := by rw [dgs_len]; omega
  obtain ⟨b, o, rfl, -⟩ := hB.at_ 0 _ (List.getElem?_eq_getElem h0)
  have hlm : (ks.take m).length = m := by rw [List.length_take, Nat.min_eq_left hm]
  have hlen1 := addT_len n l (keysB ks d false) (d + 1)
  have hL := ihl (subP h false p) (TrZ.left ht) (ks.take m) (some ⟨b, o, none⟩) m (d + 1) (dgs_takeZ hB m) (by omega) (by omega) (by rw [h1]; exact keysB_ord ho _) (by rw [h1]; exact keysB_alike ha _) (by omega)
  have hR := ihr (subP h true p) (TrZ.right ht) (ks.drop m) (cutA (some ⟨b, o, none⟩) cc m 32) (cc - m) (d + 1) (dgs_dropZ hB hm hcc) (by rw [List.length_drop]; omega) (by rw [List.length_drop]; omega) (by rw [h2]; exact keysB_ord ho _) (by rw [h2]; exact keysB_alike ha _) (by omega)
  rw [hlm] at hL
  rw [List.length_drop] at hR
  rw [h1] at hL
  rw [h2] at hR
  have hS := Split_s ks (some ⟨b, o, none⟩) cc d m (by omega) hks hm hp
  have e3 : (out ++ [⟨2, zB32, zLeaf⟩]) ++ addT n l (keysB ks d false) (d + 1) ++ addT n r (keysB ks d true) (d + 1) = out ++ ⟨2, zB32, zLeaf⟩ :: (addT n l (keysB ks d false) (d + 1) ++ addT n r (keysB ks d true) (d + 1)) := by simp
  rw [← e3]
  have hl1 : out.length + 1 = (out ++ [(⟨2, zB32, zLeaf⟩ : Item)]).length := by simp
  refine spec_of Tryd.func35 rfl (n := 72) rfl rfl ?_
  intro W
  refine h_seq ?_
  refine h_reg ?_
  refine h_op (r_assign rfl) ?_
  refine h_nil ?_
  refine q_then ?_
  refine h_seq ?_
  refine h_reg ?_
  refine h_op (r_move rfl) ?_
  refine h_call ((Kind_s n h (.node l r) p).comes) rfl rfl rfl fun _ => ?_
  refine h_op (r_assign rfl) ?_
  refine h_nil ?_
  refine q_then ?_
  refine h_seq ?_
  refine h_block ?_
  refine h_seq ?_
  refine h_reg ?_
  refine h_op (r_move rfl) ?_
  refine h_op (r_bool (r_eql rfl rfl) (show _ = false from rfl)) ?_
  refine h_op (r_assign rfl) ?_
  refine h_nil ?_
  refine q_then ?_
  refine h_condF rfl ?_
  refine h_seq ?_
  refine h_reg ?_
  refine h_op (r_move rfl) ?_
  refine h_op (r_len rfl) ?_
  refine h_op (r_bool (r_eql rfl rfl) (decide_eq_false (by omega))) ?_
  refine h_op (r_assign rfl) ?_
  refine h_nil ?_
  refine q_then ?_
  refine h_condF rfl ?_
  refine h_seq ?_
  refine h_reg ?_
  refine h_op (r_move rfl) ?_
  refine h_op (r_bool (r_eql rfl rfl) (show _ = false from rfl)) ?_
  refine h_op (r_assign rfl) ?_
  refine h_nil ?_
  refine q_then ?_
  refine h_condF rfl ?_
  refine h_skip ?_
  refine q_block ?_
  refine q_then ?_
  refine h_seq ?_
  refine h_reg ?_
  refine h_op (r_move rfl) ?_
  refine h_op (r_move rfl) ?_
  refine h_call (hS.comes) rfl rfl rfl fun _ => ?_
  refine h_op (r_assign rfl) ?_
  refine h_nil ?_
  refine q_then ?_
  refine h_seq ?_
  refine h_reg ?_
  refine h_op (r_move rfl) ?_
  refine h_op (r_move rfl) ?_
  refine h_op (r_build rfl) ?_
  refine h_opX (x_bsl rfl rfl) fun g49 => ?_
  refine h_opX (x_app rfl rfl (k := 97)) fun ⟨g50, c50⟩ => ?_
  refine h_op (r_assign rfl) ?_
  refine h_nil ?_
  refine q_then ?_
  refine h_seq ?_
  change H _ _ _ _ _ (.own _ _ _ _ (its out ++ Item.cells ⟨2, zB32, zLeaf⟩) :: _) _
  rw [its_snoc, hl1]
  refine ha_start [.zone false h] [] mixed (same) ?_
  refine ha_takeP 0 rfl (r_move rfl) ?_
  refine ha_takeP 1 rfl (r_move rfl) ?_
  refine ha_takeP 2 rfl (r_move rfl) ?_
  refine ha_takeP 4 rfl (r_move rfl) ?_
  refine ha_takeP 5 rfl (r_move rfl) ?_
  refine ha_takeP 6 rfl (r_move rfl) ?_
  refine ha_takeP 7 rfl (r_slHM rfl rfl rfl) ?_
  refine ha_takeP 8 rfl (r_move rfl) ?_
  refine ha_takeP 9 rfl (r_add rfl rfl) ?_
  refine ha_one 3 ?_
  refine ho_C 3 rfl ((Child_s n h (.node l r) p 0 false (by simp)).comes) rfl rfl rfl (fun xx => same) fun _ => ?_
  refine ha_one 10 ?_
  refine ho_C 10 rfl ((hL (out ++ [⟨2, zB32, zLeaf⟩]) (some ⟨g50, 0, none⟩) c50 (by rw [← hl1]; omega)).comes) rfl rfl rfl (fun xx => same) fun ⟨A61, c61⟩ => ?_
  refine ha_takeP 11 rfl (r_assign rfl) ?_
  refine ha_done (by kernel_rfl) ?_
  refine q_then ?_
  refine h_seq ?_
  refine ha_start [.zone false h] [] mixed (same) ?_
  refine ha_takeP 0 rfl (r_move rfl) ?_
  refine ha_takeP 1 rfl (r_move rfl) ?_
  refine ha_takeP 2 rfl (r_move rfl) ?_
  refine ha_takeP 4 rfl (r_move rfl) ?_
  refine ha_takeP 5 rfl (r_move rfl) ?_
  refine ha_takeP 6 rfl (r_slL rfl rfl) ?_
  refine ha_takeP 7 rfl (r_move rfl) ?_
  refine ha_takeP 8 rfl (r_add rfl rfl) ?_
  refine ha_one 3 ?_
  refine ho_C 3 rfl ((Child_s n h (.node l r) p 1 true (by simp)).comes) rfl rfl rfl (fun xx => same) fun _ => ?_
  refine ha_one 9 ?_
  refine ho_C 9 rfl ((hR (out ++ [⟨2, zB32, zLeaf⟩] ++ addT n l (keysB ks d false) (d + 1)) A61 c61 (by rw [List.length_append, ← hl1]; omega)).comes) rfl rfl rfl (fun xx => same) fun ⟨A71, c71⟩ => ?_
  refine ha_takeP 10 rfl (r_assign rfl) ?_
  refine ha_done (by kernel_rfl) ?_
  refine q_then ?_
  refine h_ret ?_
  exact h_ret1 rfl rfl fun w s => ⟨(A71, c71), rfl, (same w s).res (List.Sublist.refl _) (by simp [Fa.wr])⟩
include hn hk
theorem add_s : ∀ t : Tr, AddS n gh gc k h t
  | .nil => fun p ht ks B cc d _ _ _ _ _ _ out A c ho => by
    have h1 : addT n .nil ks d = [⟨0, zB32, zLeaf⟩] := by unfold addT; rfl
    rw [h1, List.length_append]
    exact add_nil n gh gc k h p out A c (by omega) _ ht B ks.length cc
  | .leaf key v => fun p ht ks B cc d _ _ _ _ _ _ out A c ho => by
    cases ks with
    | nil =>
      have h1 : addT n (.leaf key v) [] d = [⟨3, dgT n (.leaf key v), zLeaf⟩] := by unfold addT; rfl
      rw [h1, List.length_append]
      exact add_sib n hn gh gc k hk h p out A c (by omega) _ (.leaf key v) ht (by simp [Tr.kind]) B cc
    | cons x ks =>
      have h1 : addT n (.leaf key v) (x :: ks) d = [⟨1, zB32, leafOf n key v⟩] := by unfold addT; rfl
      rw [h1, List.length_append]
      exact add_leaf n gh gc k h p out A c (by omega) _ key v ht B (x :: ks).length cc (by simp)
  | .node l r => fun p ht ks B cc d hB hcc hks hord hal hd out A c ho => by
    cases ks with
    | nil =>
      have h1 : addT n (.node l r) [] d = [⟨3, dgT n (.node l r), zLeaf⟩] := by unfold addT; rfl
      rw [h1, List.length_append]
      exact add_sib n hn gh gc k hk h p out A c (by omega) _ (.node l r) ht (by simp [Tr.kind]) B cc
    | cons x ks =>
      obtain ⟨m, m1, m2, m3, m4⟩ := split_at hord hal
      have h1 : addT n (.node l r) (x :: ks) d = ⟨2, zB32, zLeaf⟩ :: (addT n l (keysB (x :: ks) d false) (d + 1) ++ addT n r (keysB (x :: ks) d true) (d + 1)) := by conv => lhs; unfold addT
      rw [h1]
      exact add_node n gh gc k h l r (add_s l) (add_s r) p ht (x :: ks) B cc d m hB hcc hks (by simp) hord hal hd m1 m2 m3 m4 out A c ho
end
end Go.Proofs.YtgfkbeipckbkiaaDoor
/- U74 -/
namespace Go.Proofs.YtgfkbeipckbkiaaDoor
set_option linter.unusedSimpArgs false
set_option linter.unusedVariables false
open Go.RowKit
section
variable (h : Zh) (ks : List B32) (B : Option Addr) (cc : Nat)
theorem mProve_s (n : Nat) (hn : n ≤ 256) (gh gc k : Nat) (hk : k ≤ 1000000000) [hT : RdZ h (some ⟨1, 0, none⟩) hashT] (t : Tr) (p : Option Addr) (ht : TrZ n h t p) [hB : RdZ h B (dgs ks)] (hcc : ks.length ≤ cc) (he : keysE ks = 0) (hht : t.ht ≤ 256) (hsz : t.sz ≤ 1000000) : Spec Tryd.prog 11 [.pointer (some ⟨gh, 0, none⟩), .pointer p, .slice B ks.length cc].toArray [HR gh gc n, .zone false h] [CN gc k] (fun u : Option Addr × Nat => .tuple #[.slice u.1 (addT n t ks 0).length u.2, .int .i64 0]) (fun u => [.own (.slice u.1 (addT n t ks 0).length u.2) (addT n t ks 0).length 45 97 (its (addT n t ks 0)), CN gc k]) := by
  obtain ⟨h1, h2, h3⟩ := keysE_ok he
  have hK := mKeys_s ks B cc (by omega)
  rw [he] at hK
  have hA := add_s n hn gh gc k hk h t p ht ks B cc 0 hB hcc (by omega) h3 (fun _ _ _ _ i hi => absurd hi (by omega)) (by omega) [] none 0 (by simp; omega)
  simp only [List.nil_append, List.length_nil] at hA
  refine spec_of Tryd.func11 rfl (n := 18) rfl rfl ?_
  intro W
  refine h_seq ?_
  refine h_reg ?_
  refine h_op (r_assign rfl) ?_
  refine h_op (r_assign rfl) ?_
  refine h_nil ?_
  refine q_then ?_
  refine h_seq ?_
  refine h_seq ?_
  refine h_reg ?_
  refine h_op (r_move rfl) ?_
  refine h_call (hK.comes) rfl rfl rfl fun _ => ?_
  refine h_op (r_assign rfl) ?_
  refine h_nil ?_
  refine q_then ?_
  refine h_seq ?_
  refine h_reg ?_
  refine h_op (r_move rfl) ?_
  refine h_op (r_neq rfl rfl) ?_
  refine h_nil ?_
  refine q_then ?_
  refine h_no rfl ((fun h => h rfl)) ?_
  refine h_skip ?_
  refine q_then ?_
  refine h_seq ?_
  refine h_reg ?_
  refine h_op (r_move rfl) ?_
  refine h_op (r_move rfl) ?_
  refine h_op (r_move rfl) ?_
  refine h_nil_own 45 97 (xs := its []) rfl ?_
  refine h_call (hA.comes) rfl rfl rfl fun ⟨A17, c17⟩ => ?_
  refine h_op (r_assign rfl) ?_
  refine h_op (r_assign rfl) ?_
  refine h_nil ?_
  refine q_then ?_
  refine h_ret ?_
  exact h_ret2 rfl rfl rfl fun w s => ⟨(A17, c17), rfl, (same w s).res (List.Sublist.refl _) (by simp [Fa.wr])⟩
end
end Go.Proofs.YtgfkbeipckbkiaaDoor
/- U75 -/
namespace Go.Proofs.YtgfkbeipckbkiaaDoor
set_option linter.unusedSimpArgs false
set_option linter.unusedVariables false
open Go.RowKit
instance : TZero Tryd.prog 120 (.agg [.nilIface, .nilIface].toArray) := ⟨fun w => by kernel_rfl⟩
/-! Ends -/
end Go.Proofs.YtgfkbeipckbkiaaDoor
/- U79 -/
namespace Go.Proofs.YtgfkbeipckbkiaaDoor
set_option linter.unusedSimpArgs false
set_option linter.unusedVariables false
open Go.RowKit
theorem itemFields' : ∃ f1 f2 f3 : Field, Tryd.prog.underlying 45 = some (.struct #[f1, f2, f3]) ∧ (f1.name == "_") = false ∧ (f2.name == "_") = false ∧ (f3.name == "_") = false ∧ f1.type = 3 ∧ f2.type = 41 ∧ f3.type = 43 ∧ f1.offset = 0 ∧ f2.offset = 1 ∧ f3.offset = 33 :=
  ⟨_, _, _, Tryd.underlying45, by decide, by decide, by decide, rfl, rfl, rfl, rfl, rfl, rfl⟩
theorem eqItem' {w : World} (d : Nat) (x y : Item) : (Op.equalIn (d + 4) 45 (.agg x.cells.toArray) (.agg y.cells.toArray)).run Tryd.prog w = .ok (decide (x = y)) w := by
  obtain ⟨f1, f2, f3, hT, m1, m2, m3, t1, t2, t3, o1, o2, o3⟩ := itemFields'
  exact eq_Item d hT Tryd.stoodInHeld45 m1 m2 m3 t1 t2 t3 o1 o2 o3 Tryd.underlying3 Tryd.underlying41 Tryd.underlying5 (by kernel_rfl) (by kernel_rfl) (eqLeaf' d) Tryd.underlying43 rfl (by kernel_rfl) x y
instance (x y : Item) : TEq Tryd.prog 45 x.cells y.cells (decide (x = y)) := ⟨fun w d => eqItem' (d + 2) x y, Tryd.eqGuardType45⟩
theorem its_item {l : List Item} {k : Nat} {x : Item} (h : l[k]? = some x) : ∀ j v, x.cells[j]? = some v → (its l)[k * 97 + j]? = some v := its_at h
theorem rSame19_yes (l : List Item) (A B : Option Addr) (c c' : Nat) (hl : l.length ≤ 100000000) : Spec Tryd.prog 32 [.slice A l.length c, .slice B l.length c'].toArray [.rd A (its l), .rd B (its l)] [] (fun _ : Unit => .bool true) (fun _ => []) := by
  refine spec_of Tryd.func32 rfl (n := 26) rfl rfl ?_
  intro W
  refine h_seq ?_
  refine h_reg ?_
  refine h_op (r_assign rfl) ?_
  refine h_nil ?_
  refine q_then ?_
  refine h_seq ?_
  refine h_seq ?_
  refine h_reg ?_
  refine h_op (r_move rfl) ?_
  refine h_op (r_len rfl) ?_
  refine h_op (r_move rfl) ?_
  refine h_op (r_len rfl) ?_
  refine h_op (r_neq rfl rfl) ?_
  refine h_nil ?_
  refine q_then ?_
  refine h_no rfl ((fun h => h rfl)) ?_
  refine h_skip ?_
  refine q_then ?_
  refine h_seq ?_
  refine h_seq ?_
  refine h_reg ?_
  refine h_op (r_assign rfl) ?_
  refine h_nil ?_
  refine q_then ?_
  refine h_block ?_
  refine h_loop (fun (k : Nat) => k ≤ l.length) (fun (k : Nat) => [(5, .int .i64 (k : Int)), (0, .slice A l.length c), (1, .slice B l.length c')]) (fun (k : Nat) => [.rd A (its l), .rd B (its l)]) (fun (k : Nat) => l.length - k) 0 ((show 0 ≤ l.length from Nat.zero_le _)) ⟨rfl, rfl, rfl, trivial⟩ (same) ?_
  rintro k hk
  refine h_seq ?_
  refine h_seq ?_
  refine h_reg ?_
  refine h_op (r_move rfl) ?_
  refine h_op (r_move rfl) ?_
  refine h_op (r_len rfl) ?_
  refine h_op (r_lss rfl rfl) ?_
  refine h_nil ?_
  refine q_then ?_
  refine h_cond rfl (fun hlt => ?_) (fun hlt => ?_)
  · obtain ⟨x, hx⟩ : ∃ x, l[k]? = some x := ⟨_, List.getElem?_eq_getElem (by omega)⟩
    refine h_pure (φ := ∃ b o, A = some ⟨b, o, none⟩) (fun w s => Rd.some (s.ok (.rd A (its l)) (by simp)) (by rw [its_len]; omega)) ?_
    rintro ⟨b, o, rfl⟩
    refine h_pure (φ := ∃ b o, B = some ⟨b, o, none⟩) (fun w s => Rd.some (s.ok (.rd B (its l)) (by simp)) (by rw [its_len]; omega)) ?_
    rintro ⟨b', o', rfl⟩
    refine h_skip ?_
    refine q_then ?_
    refine h_seq ?_
    refine h_block ?_
    refine h_seq ?_
    refine ha_start [.rd (some ⟨b, o, none⟩) (its l), .rd (some ⟨b', o', none⟩) (its l)] [] mixed (same) ?_
    refine ha_takeP 0 rfl (r_move rfl) ?_
    refine ha_takeP 1 rfl (r_move rfl) ?_
    refine ha_takeP 2 rfl (r_idx rfl rfl) ?_
    refine ha_take 3 rfl (r_nthr rfl (out := x.cells) (Item.cells_length _) (its_item hx)) ?_
    refine ha_takeP 4 rfl (r_move rfl) ?_
    refine ha_takeP 5 rfl (r_move rfl) ?_
    refine ha_takeP 6 rfl (r_idx rfl rfl) ?_
    refine ha_take 7 rfl (r_nthr rfl (out := x.cells) (Item.cells_length _) (its_item hx)) ?_
    refine ha_takeP 8 rfl (r_ner rfl rfl) ?_
    refine ha_done (by kernel_rfl) ?_
    refine q_then ?_
    refine h_no rfl ((fun h => h rfl)) ?_
    refine h_skip ?_
    refine q_block ?_
    refine q_then ?_
    refine h_reg ?_
    refine h_op (r_move rfl) ?_
    refine h_op (r_add rfl rfl) ?_
    refine h_op (r_assign rfl) ?_
    refine h_nil ?_
    exact h_back (k + 1) ((show k + 1 ≤ l.length by omega)) ((show l.length - (k + 1) < l.length - k by omega)) ⟨rfl, rfl, rfl, trivial⟩ (same)
  · refine h_exit ?_
    refine q_thenE ?_
    refine q_thenE ?_
    refine q_blockE ?_
    refine q_then ?_
    refine h_seq ?_
    refine h_reg ?_
    refine h_op (r_assign rfl) ?_
    refine h_nil ?_
    refine q_then ?_
    refine h_ret ?_
    exact h_ret1 rfl rfl fun w s => ⟨(), rfl, s.res (List.nil_sublist _) (by simp)⟩
end Go.Proofs.YtgfkbeipckbkiaaDoor
/- U39 -/
namespace Go.Proofs.YtgfkbeipckbkiaaDoor
set_option linter.unusedSimpArgs false
set_option linter.unusedVariables false
open Go.RowKit
/-- what Put has written behind k entries of the rest -/
def putK (e : En) (r : List En) (k : Nat) (done : Bool) : List En := if done then insE e (r.take k) else r.take k
theorem putK_len (e : En) (r : List En) (k : Nat) (done : Bool) : (putK e r k done).length ≤ r.length + 1 := by
  unfold putK
  split
  · rw [insE_len, List.length_take]; omega
  · rw [List.length_take]; omega
/-- whether it is done -/
def doneK (e : En) (r : List En) (k : Nat) (done : Bool) : Prop := if done = true then ∃ f ∈ r.take k, cmpB e.key f.key < 0 else ∀ f ∈ r.take k, ¬ cmpB e.key f.key < 0
theorem take_snocE {α : Type} {l : List α} {k : Nat} {x : α} (h : l[k]? = some x) : l.take (k + 1) = l.take k ++ [x] := by rw [List.take_add_one, h]; rfl
theorem putK_done {e x : En} {r : List En} {k : Nat} (h : r[k]? = some x) (hd : doneK e r k true) : putK e r (k + 1) true = putK e r k true ++ [x] ∧ doneK e r (k + 1) true := by
  unfold doneK at hd ⊢
  rw [if_pos rfl] at hd ⊢
  unfold putK
  rw [if_pos rfl, if_pos rfl, take_snocE h, insE_snoc_in hd]
  obtain ⟨f, hf, h2⟩ := hd
  exact ⟨rfl, f, List.mem_append_left _ hf, h2⟩
theorem putK_now {e x : En} {r : List En} {k : Nat} (h : r[k]? = some x) (hd : doneK e r k false) (hc : cmpB e.key x.key < 0) : putK e r (k + 1) true = putK e r k false ++ [e] ++ [x] ∧ doneK e r (k + 1) true := by
  unfold doneK at hd ⊢
  rw [if_neg (by simp)] at hd
  rw [if_pos rfl]
  unfold putK
  rw [if_pos rfl, if_neg (by simp), take_snocE h, insE_snoc_now hd hc]
  exact ⟨by simp, x, by simp, hc⟩
theorem putK_not {e x : En} {r : List En} {k : Nat} (h : r[k]? = some x) (hd : doneK e r k false) (hc : ¬ cmpB e.key x.key < 0) : putK e r (k + 1) false = putK e r k false ++ [x] ∧ doneK e r (k + 1) false := by
  unfold doneK at hd ⊢
  rw [if_neg (by simp)] at hd ⊢
  unfold putK
  rw [if_neg (by simp), if_neg (by simp), take_snocE h]
  refine ⟨rfl, fun f hf => ?_⟩
  rcases List.mem_append.1 hf with hf | hf
  · exact hd f hf
  · rw [List.mem_singleton.1 hf]; exact hc
theorem putK_end {e : En} {r : List En} {done : Bool} (hd : doneK e r r.length done) : insE e r = if done then putK e r r.length true else putK e r r.length false ++ [e] := by
  unfold doneK at hd
  unfold putK
  cases done
  · rw [if_neg (by simp), List.take_length] at hd
    rw [insE_none hd]; simp
  · simp
theorem remK_len (m : List En) (key : B32) : (remK m key).length ≤ m.length := List.length_filter_le _ _
theorem Put_s (m : List En) (B : Option Addr) (c : Nat) (e : En) (hm : m.length ≤ 10000000) : Spec Tryd.prog 48 [.slice B m.length c, .agg e.key.cells.toArray, .slice e.e.value.A e.e.value.n e.e.value.c].toArray [.rd B (ents m)] [] (fun u : Option Addr × Nat => .slice u.1 (putM m e).length u.2) (fun u => [.own (.slice u.1 (putM m e).length u.2) (putM m e).length 77 33 (ents (putM m e))]) := by
  have hrl := remK_len m e.key
  unfold putM
  refine spec_of Tryd.func48 rfl (n := 54) rfl rfl ?_
  intro W
  refine h_seq ?_
  refine h_reg ?_
  refine h_opX (x_box rfl) fun g4 => ?_
  refine h_op (r_assign rfl) ?_
  refine h_nil ?_
  refine q_then ?_
  refine h_seq ?_
  refine h_reg ?_
  refine h_op (r_assign rfl) ?_
  refine h_nil ?_
  refine q_then ?_
  refine h_seq ?_
  refine h_reg ?_
  refine h_op (r_assign rfl) ?_
  refine h_nil ?_
  refine q_then ?_
  refine h_seq ?_
  refine h_reg ?_
  refine h_op (r_move rfl) ?_
  refine h_op (r_loadr rfl) ?_
  refine h_call ((Remove_s m B c e.key (by omega)).comes) rfl rfl rfl fun ⟨A13, c13⟩ => ?_
  dsimp only
  have hR : Spec Tryd.prog 51 [.agg e.key.cells.toArray, .agg e.key.cells.toArray].toArray [] [] (fun _ : Unit => .int .i64 (cmpB e.key e.key)) (fun _ => []) := Compare_s e.key e.key
  clear hR
  generalize remK m e.key = r at *
  refine h_pure (φ := ∀ i, i < r.length → ∃ g, A13 = some ⟨g, 0, none⟩) (fun w s i hi => s.ownSome (N := r.length) (c := c13) (by omega)) fun hA13 => ?_
  refine h_op (r_assign rfl) ?_
  refine h_nil ?_
  refine q_then ?_
  refine h_seq ?_
  refine h_seq ?_
  refine h_reg ?_
  refine h_op (r_assign rfl) ?_
  refine h_nil ?_
  refine q_then ?_
  refine h_block ?_
  refine h_nil_own 77 33 (xs := ents (putK e r 0 false)) rfl ?_
  change H _ _ _ _ _ (.own (.slice none (putK e r 0 false).length 0) (putK e r 0 false).length _ _ _ :: _) _
  refine h_loop (fun (s : Nat × Bool × Option Addr × Nat) => s.1 ≤ r.length ∧ doneK e r s.1 s.2.1) (fun (s : Nat × Bool × Option Addr × Nat) => [(10, .int .i64 (s.1 : Int)), (8, .bool s.2.1), (7, .slice s.2.2.1 (putK e r s.1 s.2.1).length s.2.2.2), (9, .slice A13 r.length c13), (4, .pointer (some ⟨g4, 0, none⟩)), (2, .slice e.e.value.A e.e.value.n e.e.value.c)]) (fun (s : Nat × Bool × Option Addr × Nat) => [.own (.slice s.2.2.1 (putK e r s.1 s.2.1).length s.2.2.2) (putK e r s.1 s.2.1).length 77 33 (ents (putK e r s.1 s.2.1)), .own (.slice A13 r.length c13) r.length 77 33 (ents r), .blk g4 e.key.cells 40]) (fun (s : Nat × Bool × Option Addr × Nat) => r.length - s.1) (0, false, none, 0) ((show 0 ≤ r.length ∧ doneK e r 0 false from ⟨Nat.zero_le _, by unfold doneK; rw [if_neg (by simp)]; intro f hf; simp at hf⟩)) ⟨rfl, rfl, rfl, rfl, rfl, rfl, trivial⟩ (same) ?_
  rintro ⟨k, done, A, c'⟩ ⟨hk, hd⟩
  dsimp only at hk hd ⊢
  have hlen := putK_len e r k done
  refine h_seq ?_
  refine h_seq ?_
  refine h_reg ?_
  refine h_op (r_move rfl) ?_
  refine h_op (r_move rfl) ?_
  refine h_op (r_len rfl) ?_
  refine h_op (r_lss rfl rfl) ?_
  refine h_nil ?_
  refine q_then ?_
  refine h_cond rfl (fun h => ?_) (fun h => ?_)
  · obtain ⟨x, hx⟩ := getE (l := r) (k := k) (by omega)
    obtain ⟨g, rfl⟩ := hA13 k (by omega)
    rcases done with _ | _
    · by_cases hc : cmpB e.key x.key < 0
      · obtain ⟨hp, hd2⟩ := putK_now hx hd hc
        have hl : (putK e r k false).length + 1 + 1 = (putK e r (k + 1) true).length := by rw [hp]; simp
        refine h_skip ?_
        refine q_then ?_
        refine h_seq ?_
        refine h_block ?_
        refine h_seq ?_
        refine h_seq ?_
        refine ha_start [.blk g4 e.key.cells 40, .own (.slice (some ⟨g, 0, none⟩) r.length c13) r.length 77 33 (ents r)] [] mixed (same) ?_
        refine ha_takeP 0 rfl (r_move rfl) ?_
        refine ha_takeP 1 rfl (r_not rfl) ?_
        refine ha_takeP 2 rfl (r_move rfl) ?_
        refine ha_take 3 rfl (r_loadr rfl) ?_
        refine ha_takeP 4 rfl (r_move rfl) ?_
        refine ha_takeP 5 rfl (r_move rfl) ?_
        refine ha_takeP 6 rfl (r_idx rfl rfl) ?_
        refine ha_takeP 7 rfl (r_field rfl) ?_
        refine ha_take 8 rfl (r_nthr rfl (out := x.key.cells) (B32.cells_length _) (ents_key hx)) ?_
        refine ha_one 9 ?_
        refine ho_C 9 rfl ((Compare_s e.key x.key).comes) rfl rfl rfl (fun xx => same) fun _ => ?_
        refine ha_takeP 10 rfl (r_bool (r_lss rfl rfl) (decide_eq_true hc)) ?_
        refine ha_takeP 11 rfl (r_pick rfl rfl) ?_
        refine ha_done (by kernel_rfl) ?_
        refine q_then ?_
        refine h_condT rfl ?_
        refine h_seq ?_
        refine h_reg ?_
        refine h_op (r_move rfl) ?_
        refine h_op (r_loadr rfl) ?_
        refine h_op (r_move rfl) ?_
        refine h_op (r_build rfl) ?_
        refine h_opX (x_bsl rfl rfl) fun g36 => ?_
        refine h_opX (x_app rfl rfl (k := 33)) fun ⟨g37, c37⟩ => ?_
        refine h_op (r_assign rfl) ?_
        refine h_nil ?_
        refine q_then ?_
        refine h_reg ?_
        refine h_op (r_assign rfl) ?_
        refine h_nil ?_
        refine q_then ?_
        refine h_reg ?_
        refine h_op (r_move rfl) ?_
        refine h_op (r_move rfl) ?_
        refine h_op (r_move rfl) ?_
        refine h_op (r_idx rfl rfl) ?_
        refine h_op (r_nthr rfl (out := x.e.cells) (Entry.cells_length _) (ents_at hx)) ?_
        refine h_opX (x_bsl rfl rfl) fun g43 => ?_
        refine h_opX (x_app rfl rfl (k := 33)) fun ⟨g44, c44⟩ => ?_
        refine h_op (r_assign rfl) ?_
        refine h_nil ?_
        refine q_block ?_
        refine q_then ?_
        refine h_reg ?_
        refine h_op (r_move rfl) ?_
        refine h_op (r_add rfl rfl) ?_
        refine h_op (r_assign rfl) ?_
        refine h_nil ?_
        rw [show Entry.cells _ = e.e.cells from rfl, ents_snoc, ents_snoc, ← hp, hl]
        exact h_back (k + 1, true, some ⟨g44, 0, none⟩, c44) ((show k + 1 ≤ r.length ∧ doneK e r (k + 1) true from ⟨by omega, hd2⟩)) ((show r.length - (k + 1) < r.length - k by omega)) ⟨rfl, rfl, rfl, rfl, rfl, rfl, trivial⟩ (same)
      · obtain ⟨hp, hd2⟩ := putK_not hx hd hc
        have hl : (putK e r k false).length + 1 = (putK e r (k + 1) false).length := by rw [hp]; simp
        refine h_skip ?_
        refine q_then ?_
        refine h_seq ?_
        refine h_block ?_
        refine h_seq ?_
        refine h_seq ?_
        refine ha_start [.blk g4 e.key.cells 40, .own (.slice (some ⟨g, 0, none⟩) r.length c13) r.length 77 33 (ents r)] [] mixed (same) ?_
        refine ha_takeP 0 rfl (r_move rfl) ?_
        refine ha_takeP 1 rfl (r_not rfl) ?_
        refine ha_takeP 2 rfl (r_move rfl) ?_
        refine ha_take 3 rfl (r_loadr rfl) ?_
        refine ha_takeP 4 rfl (r_move rfl) ?_
        refine ha_takeP 5 rfl (r_move rfl) ?_
        refine ha_takeP 6 rfl (r_idx rfl rfl) ?_
        refine ha_takeP 7 rfl (r_field rfl) ?_
        refine ha_take 8 rfl (r_nthr rfl (out := x.key.cells) (B32.cells_length _) (ents_key hx)) ?_
        refine ha_one 9 ?_
        refine ho_C 9 rfl ((Compare_s e.key x.key).comes) rfl rfl rfl (fun xx => same) fun _ => ?_
        refine ha_takeP 10 rfl (r_bool (r_lss rfl rfl) (decide_eq_false hc)) ?_
        refine ha_takeP 11 rfl (r_pick rfl rfl) ?_
        refine ha_done (by kernel_rfl) ?_
        refine q_then ?_
        refine h_condF rfl ?_
        refine h_skip ?_
        refine q_then ?_
        refine h_reg ?_
        refine h_op (r_move rfl) ?_
        refine h_op (r_move rfl) ?_
        refine h_op (r_move rfl) ?_
        refine h_op (r_idx rfl rfl) ?_
        refine h_op (r_nthr rfl (out := x.e.cells) (Entry.cells_length _) (ents_at hx)) ?_
        refine h_opX (x_bsl rfl rfl) fun g43 => ?_
        refine h_opX (x_app rfl rfl (k := 33)) fun ⟨g44, c44⟩ => ?_
        refine h_op (r_assign rfl) ?_
        refine h_nil ?_
        refine q_block ?_
        refine q_then ?_
        refine h_reg ?_
        refine h_op (r_move rfl) ?_
        refine h_op (r_add rfl rfl) ?_
        refine h_op (r_assign rfl) ?_
        refine h_nil ?_
        rw [ents_snoc, ← hp, hl]
        exact h_back (k + 1, false, some ⟨g44, 0, none⟩, c44) ((show k + 1 ≤ r.length ∧ doneK e r (k + 1) false from ⟨by omega, hd2⟩)) ((show r.length - (k + 1) < r.length - k by omega)) ⟨rfl, rfl, rfl, rfl, rfl, rfl, trivial⟩ (same)
    · obtain ⟨hp, hd2⟩ := putK_done hx hd
      have hl : (putK e r k true).length + 1 = (putK e r (k + 1) true).length := by rw [hp]; simp
      refine h_skip ?_
      refine q_then ?_
      refine h_seq ?_
      refine h_block ?_
      refine h_seq ?_
      refine h_seq ?_
      refine ha_start [.blk g4 e.key.cells 40, .own (.slice (some ⟨g, 0, none⟩) r.length c13) r.length 77 33 (ents r)] [] mixed (same) ?_
      refine ha_takeP 0 rfl (r_move rfl) ?_
      refine ha_takeP 1 rfl (r_not rfl) ?_
      refine ha_takeP 2 rfl (r_move rfl) ?_
      refine ha_off 3 rfl ?_
      refine ha_off 4 rfl ?_
      refine ha_off 5 rfl ?_
      refine ha_off 6 rfl ?_
      refine ha_off 7 rfl ?_
      refine ha_off 8 rfl ?_
      refine ha_off 9 rfl ?_
      refine ha_off 10 rfl ?_
      refine ha_takeP 11 rfl (r_pick rfl rfl) ?_
      refine ha_done (by kernel_rfl) ?_
      refine q_then ?_
      refine h_condF rfl ?_
      refine h_skip ?_
      refine q_then ?_
      refine h_reg ?_
      refine h_op (r_move rfl) ?_
      refine h_op (r_move rfl) ?_
      refine h_op (r_move rfl) ?_
      refine h_op (r_idx rfl rfl) ?_
      refine h_op (r_nthr rfl (out := x.e.cells) (Entry.cells_length _) (ents_at hx)) ?_
      refine h_opX (x_bsl rfl rfl) fun g43 => ?_
      refine h_opX (x_app rfl rfl (k := 33)) fun ⟨g44, c44⟩ => ?_
      refine h_op (r_assign rfl) ?_
      refine h_nil ?_
      refine q_block ?_
      refine q_then ?_
      refine h_reg ?_
      refine h_op (r_move rfl) ?_
      refine h_op (r_add rfl rfl) ?_
      refine h_op (r_assign rfl) ?_
      refine h_nil ?_
      rw [ents_snoc, ← hp, hl]
      exact h_back (k + 1, true, some ⟨g44, 0, none⟩, c44) ((show k + 1 ≤ r.length ∧ doneK e r (k + 1) true from ⟨by omega, hd2⟩)) ((show r.length - (k + 1) < r.length - k by omega)) ⟨rfl, rfl, rfl, rfl, rfl, rfl, trivial⟩ (same)
  · obtain rfl : k = r.length := by omega
    have hp := putK_end hd
    rcases done with _ | _
    · rw [if_neg (by simp)] at hp
      have hl : (putK e r r.length false).length + 1 = (insE e r).length := by rw [hp]; simp
      refine h_exit ?_
      refine q_thenE ?_
      refine q_thenE ?_
      refine q_blockE ?_
      refine q_then ?_
      refine h_seq ?_
      refine h_seq ?_
      refine h_reg ?_
      refine h_op (r_move rfl) ?_
      refine h_op (r_not rfl) ?_
      refine h_nil ?_
      refine q_then ?_
      refine h_condT rfl ?_
      refine h_reg ?_
      refine h_op (r_move rfl) ?_
      refine h_op (r_loadr rfl) ?_
      refine h_op (r_move rfl) ?_
      refine h_op (r_build rfl) ?_
      refine h_opX (x_bsl rfl rfl) fun g51 => ?_
      refine h_opX (x_app rfl rfl (k := 33)) fun ⟨g52, c52⟩ => ?_
      refine h_op (r_assign rfl) ?_
      refine h_nil ?_
      refine q_then ?_
      refine h_seq ?_
      refine h_reg ?_
      refine h_op (r_move rfl) ?_
      refine h_op (r_assign rfl) ?_
      refine h_nil ?_
      refine q_then ?_
      refine h_ret ?_
      rw [show Entry.cells _ = e.e.cells from rfl, ents_snoc, ← hp, hl]
      exact h_ret1 rfl rfl fun w s => ⟨(some ⟨g52, 0, none⟩, c52), rfl, (same w s).res (List.Sublist.refl _) (by simp [Fa.wr])⟩
    · rw [if_pos rfl] at hp
      rw [hp]
      refine h_exit ?_
      refine q_thenE ?_
      refine q_thenE ?_
      refine q_blockE ?_
      refine q_then ?_
      refine h_seq ?_
      refine h_seq ?_
      refine h_reg ?_
      refine h_op (r_move rfl) ?_
      refine h_op (r_not rfl) ?_
      refine h_nil ?_
      refine q_then ?_
      refine h_condF rfl ?_
      refine h_skip ?_
      refine q_then ?_
      refine h_seq ?_
      refine h_reg ?_
      refine h_op (r_move rfl) ?_
      refine h_op (r_assign rfl) ?_
      refine h_nil ?_
      refine q_then ?_
      refine h_ret ?_
      exact h_ret1 rfl rfl fun w s => ⟨(A, c'), rfl, (same w s).res (List.Sublist.refl _) (by simp [Fa.wr])⟩
theorem Of_s (l : List En) (B : Option Addr) (c : Nat) (hm : l.length ≤ 1000000) : Spec Tryd.prog 26 [.slice B l.length c].toArray [.rd B (ents l)] [] (fun u : Option Addr × Nat => .slice u.1 (ofM l).length u.2) (fun u => [.own (.slice u.1 (ofM l).length u.2) (ofM l).length 77 33 (ents (ofM l))]) := by
  refine spec_of Tryd.func26 rfl (n := 24) rfl rfl ?_
  intro W
  refine h_seq ?_
  refine h_reg ?_
  refine h_op (r_assign rfl) ?_
  refine h_nil ?_
  refine q_then ?_
  refine h_seq ?_
  refine h_reg ?_
  refine h_op (r_assign rfl) ?_
  refine h_nil ?_
  refine q_then ?_
  refine h_seq ?_
  refine h_seq ?_
  refine h_reg ?_
  refine h_op (r_assign rfl) ?_
  refine h_nil ?_
  refine q_then ?_
  refine h_block ?_
  refine h_nil_own 77 33 (xs := ents (ofM (l.take 0))) rfl ?_
  change H _ _ _ _ _ (.own (.slice none (ofM (l.take 0)).length 0) (ofM (l.take 0)).length _ _ _ :: _) _
  refine h_loop (fun (s : Nat × Option Addr × Nat) => s.1 ≤ l.length) (fun (s : Nat × Option Addr × Nat) => [(4, .int .i64 (s.1 : Int)), (3, .slice s.2.1 (ofM (l.take s.1)).length s.2.2), (0, .slice B l.length c)]) (fun (s : Nat × Option Addr × Nat) => [.own (.slice s.2.1 (ofM (l.take s.1)).length s.2.2) (ofM (l.take s.1)).length 77 33 (ents (ofM (l.take s.1))), .rd B (ents l)]) (fun (s : Nat × Option Addr × Nat) => l.length - s.1) (0, none, 0) ((show 0 ≤ l.length from Nat.zero_le _)) ⟨rfl, rfl, rfl, trivial⟩ (same) ?_
  rintro ⟨k, A, c'⟩ hk
  dsimp only at hk ⊢
  have hlen : (ofM (l.take k)).length ≤ l.length := Nat.le_trans (ofM_len _) (by rw [List.length_take]; omega)
  refine h_seq ?_
  refine h_seq ?_
  refine h_reg ?_
  refine h_op (r_move rfl) ?_
  refine h_op (r_move rfl) ?_
  refine h_op (r_len rfl) ?_
  refine h_op (r_lss rfl rfl) ?_
  refine h_nil ?_
  refine q_then ?_
  refine h_cond rfl (fun h => ?_) (fun h => ?_)
  · obtain ⟨x, hx⟩ := getE (l := l) (k := k) (by omega)
    refine h_pure (φ := ∃ b o, B = some ⟨b, o, none⟩) (fun w s => Rd.some (s.ok (.rd B (ents l)) (by simp)) (by rw [ents_len]; omega)) ?_
    rintro ⟨bb, o, rfl⟩
    refine h_skip ?_
    refine q_then ?_
    refine h_seq ?_
    refine h_block ?_
    refine ha_start [.rd (some ⟨bb, o, none⟩) (ents l)] [] mixed (same) ?_
    refine ha_takeP 0 rfl (r_move rfl) ?_
    refine ha_takeP 1 rfl (r_move rfl) ?_
    refine ha_takeP 2 rfl (r_move rfl) ?_
    refine ha_takeP 3 rfl (r_idx rfl rfl) ?_
    refine ha_takeP 4 rfl (r_field rfl) ?_
    refine ha_take 5 rfl (r_nthr rfl (out := x.key.cells) (B32.cells_length _) (ents_key hx)) ?_
    refine ha_takeP 6 rfl (r_move rfl) ?_
    refine ha_takeP 7 rfl (r_move rfl) ?_
    refine ha_takeP 8 rfl (r_idx rfl rfl) ?_
    refine ha_takeP 9 rfl (r_field rfl (O' := o + (k * 33 + 32)) (by omega)) ?_
    refine ha_take 10 rfl (r_nth rfl (ents_val hx)) ?_
    refine ha_one 11 ?_
    refine ho_C 11 rfl ((Put_s (ofM (l.take k)) A c' x (by omega)).comes) rfl rfl rfl (fun xx => same) fun ⟨A22, c22⟩ => ?_
    refine ha_takeP 12 rfl (r_assign rfl) ?_
    refine ha_done (by kernel_rfl) ?_
    refine q_block ?_
    refine q_then ?_
    dsimp only
    rw [← ofM_snoc l k x hx]
    refine h_reg ?_
    refine h_op (r_move rfl) ?_
    refine h_op (r_add rfl rfl) ?_
    refine h_op (r_assign rfl) ?_
    refine h_nil ?_
    exact h_back (k + 1, A22, c22) ((show k + 1 ≤ l.length by omega)) ((show l.length - (k + 1) < l.length - k by omega)) ⟨rfl, rfl, rfl, trivial⟩ (same)
  · obtain rfl : k = l.length := by omega
    rw [List.take_length]
    refine h_exit ?_
    refine q_thenE ?_
    refine q_thenE ?_
    refine q_blockE ?_
    refine q_then ?_
    refine h_seq ?_
    refine h_reg ?_
    refine h_op (r_move rfl) ?_
    refine h_op (r_assign rfl) ?_
    refine h_nil ?_
    refine q_then ?_
    refine h_ret ?_
    exact h_ret1 rfl rfl fun w s => ⟨(A, c'), rfl, (same w s).res (List.Sublist.refl _) (by simp [Fa.wr])⟩
end Go.Proofs.YtgfkbeipckbkiaaDoor
/- U40 -/
namespace Go.Proofs.YtgfkbeipckbkiaaDoor
set_option linter.unusedSimpArgs false
set_option linter.unusedVariables false
open Go.RowKit
def fewM (l : List En) : Bool := decide (l.length ≤ 12) && l.all fun e => decide (e.e.value.n ≤ 200)
theorem Few_s (l : List En) (B : Option Addr) (c : Nat) (hm : l.length ≤ 1000000000000000) : Spec Tryd.prog 25 [.slice B l.length c].toArray [.rd B (ents l)] [] (fun _ : Unit => .bool (fewM l)) (fun _ => []) := by
  unfold fewM
  refine spec_of Tryd.func25 rfl (n := 20) rfl rfl ?_
  intro W
  by_cases h12 : 12 < l.length
  · rw [decide_eq_false (by omega), Bool.false_and]
    refine h_seq ?_
    refine h_reg ?_
    refine h_op (r_assign rfl) ?_
    refine h_nil ?_
    refine q_then ?_
    refine h_seq ?_
    refine h_seq ?_
    refine h_reg ?_
    refine h_op (r_move rfl) ?_
    refine h_op (r_len rfl) ?_
    refine h_op (r_gtr rfl rfl) ?_
    refine h_nil ?_
    refine q_then ?_
    refine h_yes rfl ((by omega)) ?_
    refine h_seq ?_
    refine h_reg ?_
    refine h_op (r_assign rfl) ?_
    refine h_nil ?_
    refine q_then ?_
    refine h_ret ?_
    refine q_thenR ?_
    exact h_ret1 rfl rfl fun w s => ⟨(), rfl, s.res (List.nil_sublist _) (by simp)⟩
  · rw [decide_eq_true (by omega), Bool.true_and]
    refine h_seq ?_
    refine h_reg ?_
    refine h_op (r_assign rfl) ?_
    refine h_nil ?_
    refine q_then ?_
    refine h_seq ?_
    refine h_seq ?_
    refine h_reg ?_
    refine h_op (r_move rfl) ?_
    refine h_op (r_len rfl) ?_
    refine h_op (r_gtr rfl rfl) ?_
    refine h_nil ?_
    refine q_then ?_
    refine h_no rfl ((by omega)) ?_
    refine h_skip ?_
    refine q_then ?_
    refine h_seq ?_
    refine h_seq ?_
    refine h_reg ?_
    refine h_op (r_assign rfl) ?_
    refine h_nil ?_
    refine q_then ?_
    refine h_block ?_
    refine h_loop (fun (k : Nat) => k ≤ l.length ∧ ∀ e ∈ l.take k, e.e.value.n ≤ 200) (fun (k : Nat) => [(3, .int .i64 (k : Int)), (0, .slice B l.length c)]) (fun (k : Nat) => [.rd B (ents l)]) (fun (k : Nat) => l.length - k) 0 (⟨Nat.zero_le _, fun e he => by simp at he⟩) ⟨rfl, rfl, trivial⟩ (same) ?_
    rintro k ⟨hk, ha⟩
    refine h_seq ?_
    refine h_seq ?_
    refine h_reg ?_
    refine h_op (r_move rfl) ?_
    refine h_op (r_move rfl) ?_
    refine h_op (r_len rfl) ?_
    refine h_op (r_lss rfl rfl) ?_
    refine h_nil ?_
    refine q_then ?_
    refine h_cond rfl (fun h => ?_) (fun h => ?_)
    · obtain ⟨e, he⟩ := getE (l := l) (k := k) (by omega)
      refine h_pure (φ := ∃ b o, B = some ⟨b, o, none⟩) (fun w s => Rd.some (s.ok (.rd B (ents l)) (by simp)) (by rw [ents_len]; omega)) ?_
      rintro ⟨b, o, rfl⟩
      refine h_skip ?_
      refine q_then ?_
      refine h_seq ?_
      refine h_block ?_
      refine h_seq ?_
      refine h_reg ?_
      refine h_op (r_move rfl) ?_
      refine h_op (r_move rfl) ?_
      refine h_op (r_idx rfl rfl) ?_
      refine h_op (r_field rfl (O' := o + (k * 33 + 32)) (by omega)) ?_
      refine h_op (r_nth rfl (ents_val he)) ?_
      refine h_op (r_len rfl) ?_
      refine h_op (r_gtr rfl rfl) ?_
      refine h_nil ?_
      refine q_then ?_
      refine h_cond rfl (fun h2 => ?_) (fun h2 => ?_)
      · have : (l.all fun e => decide (e.e.value.n ≤ 200)) = false := by
          rw [List.all_eq_false]
          exact ⟨e, List.mem_of_getElem? he, by simp; omega⟩
        rw [this]
        refine h_seq ?_
        refine h_reg ?_
        refine h_op (r_assign rfl) ?_
        refine h_nil ?_
        refine q_then ?_
        refine h_ret ?_
        refine q_blockR ?_
        refine q_thenR ?_
        refine q_thenR ?_
        refine q_blockR ?_
        refine q_thenR ?_
        exact h_ret1 rfl rfl fun w s => ⟨(), rfl, s.res (List.nil_sublist _) (by simp)⟩
      · have ha2 : ∀ f ∈ l.take (k + 1), f.e.value.n ≤ 200 := fun f hf => by
          rw [take_snocE he] at hf
          rcases List.mem_append.1 hf with hf | hf
          · exact ha f hf
          · rw [List.mem_singleton.1 hf]; omega
        refine h_skip ?_
        refine q_block ?_
        refine q_then ?_
        refine h_reg ?_
        refine h_op (r_move rfl) ?_
        refine h_op (r_add rfl rfl) ?_
        refine h_op (r_assign rfl) ?_
        refine h_nil ?_
        exact h_back (k + 1) (⟨by omega, ha2⟩) (by omega) ⟨rfl, rfl, trivial⟩ (same)
    · obtain rfl : k = l.length := by omega
      rw [List.take_length] at ha
      have : (l.all fun e => decide (e.e.value.n ≤ 200)) = true := List.all_eq_true.2 fun e he => decide_eq_true (ha e he)
      rw [this]
      refine h_exit ?_
      refine q_thenE ?_
      refine q_thenE ?_
      refine q_blockE ?_
      refine q_then ?_
      refine h_seq ?_
      refine h_reg ?_
      refine h_op (r_assign rfl) ?_
      refine h_nil ?_
      refine q_then ?_
      refine h_ret ?_
      exact h_ret1 rfl rfl fun w s => ⟨(), rfl, s.res (List.nil_sublist _) (by simp)⟩
theorem rValue_s (l : List UInt8) (B : Option Addr) (c : Nat) (hB : B = none → l.length = 0 ∧ c = 0) (hl : l.length ≤ 100000000) : Spec Tryd.prog 64 [.slice B l.length c].toArray [.rd B (bc l)] [] (fun u : Nat × Nat => .slice (some ⟨u.1, 0, none⟩) (preV l).length u.2) (fun u => [.own (.slice (some ⟨u.1, 0, none⟩) (preV l).length u.2) (preV l).length 5 1 (bc (preV l))]) := by
  have e : [(2 : UInt8)] ++ l = preV l := rfl
  refine spec_of Tryd.func64 rfl (n := 6) rfl rfl ?_
  intro W
  refine h_seq ?_
  refine h_reg ?_
  refine h_op (r_assign rfl) ?_
  refine h_nil ?_
  refine q_then ?_
  refine h_seq ?_
  refine h_reg ?_
  refine h_opX (x_bslV (ys := [.int .u8 2]) (bc [2]) rfl rfl (bc_one _)) fun g3 => ?_
  refine h_op (r_move rfl) ?_
  refine h_opX (x_appAB rfl rfl hB rfl (N' := (preV l).length) (hN := Nat.add_comm _ _)) fun ⟨A5, c5⟩ => ?_
  refine h_pure (φ := ∃ g, A5 = some ⟨g, 0, none⟩) (fun w s => s.ownSome (N := (preV l).length) (c := c5) (Nat.succ_pos _)) ?_
  rintro ⟨g, rfl⟩
  rw [e]
  refine h_op (r_assign rfl) ?_
  refine h_nil ?_
  refine q_then ?_
  refine h_ret ?_
  exact h_ret1 rfl rfl fun w s => ⟨(g, c5), rfl, (same w s).res (List.Sublist.refl _) (by simp [Fa.wr])⟩
theorem rLeafOf_s (n : Nat) (hn : n ≤ 256) (key : B32) (l : List UInt8) (B : Option Addr) (c : Nat) (hB : B = none → l.length = 0 ∧ c = 0) (hl : l.length ≤ 100000000) : Spec Tryd.prog 38 [.int .i64 (n : Int), .agg key.cells.toArray, .slice B l.length c].toArray [.rd B (bc l)] [] (fun _ : Unit => .agg (leafOf n key l).cells.toArray) (fun _ => []) := by
  have hpl : (preV l).length = l.length + 1 := rfl
  refine spec_of Tryd.func38 rfl (n := 13) rfl rfl ?_
  intro W
  refine h_seq ?_
  refine h_reg ?_
  refine h_opX (x_box rfl) fun g4 => ?_
  refine h_opX (x_alloc) fun g6 => ?_
  refine h_nil ?_
  refine q_then ?_
  refine h_seq ?_
  refine ha_start [.blk g4 key.cells 40] [] mixed (same) ?_
  refine ha_take 0 rfl (r_loadr rfl) ?_
  refine ha_takeP 1 rfl (r_move rfl) ?_
  refine ha_takeP 2 rfl (r_move rfl) ?_
  refine ha_one 3 ?_
  refine ho_C 3 rfl ((rValue_s l B c hB hl).comes) rfl rfl rfl (fun xx => same) fun ⟨g10, c10⟩ => ?_
  refine ha_one 4 ?_
  refine ho_C 4 rfl ((refSum5_s n hn (preV l) (some ⟨g10, 0, none⟩) c10 (fun h => by cases h) (by omega)).comes) rfl rfl rfl (fun xx => same) fun _ => ?_
  refine ha_takeP 5 rfl (r_build rfl) ?_
  refine ha_one 6 ?_
  refine ho_SL 6 rfl (s_storer rfl rfl) ?_
  refine q_then ?_
  refine h_ret ?_
  exact h_ret1 rfl (rv_row rfl) fun w s => ⟨(), rfl, s.res (List.nil_sublist _) (by simp)⟩
theorem ents_key0 (e : En) : ∀ j v, e.key.cells[j]? = some v → (ents [e])[0 + j]? = some v := fun j v hv => by have := ents_key (l := [e]) (k := 0) rfl j v hv; rwa [Nat.zero_mul] at this
theorem ents_at0 (e : En) : ∀ j v, e.e.cells[j]? = some v → (ents [e])[0 + j]? = some v := fun j v hv => by have := ents_at (l := [e]) (k := 0) rfl j v hv; rwa [Nat.zero_mul] at this
theorem ents_val0 (e : En) : (ents [e])[32]? = some (.slice e.e.value.A e.e.value.n e.e.value.c) := by have := ents_val (l := [e]) (k := 0) rfl; rwa [Nat.zero_mul, Nat.zero_add] at this
/-- each value of the entries is held -/
def ValsZ (h : Zh) (m : List En) : Prop := ∀ e ∈ m, SlZ h e.e.value e.val ∧ e.val.length ≤ 10000000
theorem ValsZ.part {h : Zh} {m : List En} (x : ValsZ h m) (d : Nat) (b : Bool) : ValsZ h (part m d b) := fun e he => x e (part_mem.1 he).1
theorem ValsZ.mono {h h' : Zh} (hl : LeZ h h') {m : List En} (x : ValsZ h m) : ValsZ h' m := fun e he => ⟨(x e he).1.mono hl, (x e he).2⟩
theorem Root_any (n : Nat) (hn : n ≤ 256) (h : Zh) {m : List En} {d : Nat} (hd : d ≤ 256) (ha : Alike m d) : m.length ≤ 1000000 → ValsZ h m → ∀ (B : Option Addr) (c : Nat), Spec Tryd.prog 37 [.int .i64 (n : Int), .slice B m.length c, .int .i64 (d : Int)].toArray [.rd B (ents m), .zone false h] [] (fun _ : Unit => .agg (rootM n m d).cells.toArray) (fun _ => []) := by
  refine parts_ind (p := fun m d => m.length ≤ 1000000 → ValsZ h m → ∀ (B : Option Addr) (c : Nat), Spec Tryd.prog 37 [.int .i64 (n : Int), .slice B m.length c, .int .i64 (d : Int)].toArray [.rd B (ents m), .zone false h] [] (fun _ : Unit => .agg (rootM n m d).cells.toArray) (fun _ => [])) ?_ ?_ ?_ (256 - d) m d (Nat.le_refl _) hd ha
  · intro d _ _ B c
    rw [rootM_nil]
    refine spec_of Tryd.func37 rfl (n := 49) rfl rfl ?_
    intro W
    refine h_seq ?_
    refine h_reg ?_
    refine h_opX (x_alloc) fun g6 => ?_
    refine h_nil ?_
    refine q_then ?_
    refine h_seq ?_
    refine h_seq ?_
    refine h_reg ?_
    refine h_op (r_move rfl) ?_
    refine h_op (r_len rfl) ?_
    refine h_op (r_bool (r_eql rfl rfl) (show _ = true by simp)) ?_
    refine h_nil ?_
    refine q_then ?_
    refine h_condT rfl ?_
    refine h_seq ?_
    refine h_reg ?_
    refine h_op (r_move rfl) ?_
    refine h_call ((rEmpty_s n hn).comes) rfl rfl rfl fun _ => ?_
    refine h_opS (s_storer rfl rfl) ?_
    refine h_nil ?_
    refine q_then ?_
    refine h_ret ?_
    refine q_thenR ?_
    exact h_ret1 rfl (rv_row rfl) fun w s => ⟨(), rfl, s.res (List.nil_sublist _) (by simp)⟩
  · intro e d hd _ hv B c
    rw [rootM_one n e hd]
    obtain ⟨hs, hvl⟩ := hv e (by simp)
    obtain ⟨⟨key, A, N, cc⟩, b⟩ := e
    obtain rfl : N = b.length := hs.len
    have hA : A = none → b.length = 0 ∧ cc = 0 := hs.nil
    have hrd : RdZ h A (bc b) := hs.rd
    dsimp only at hvl
    refine spec_of Tryd.func37 rfl (n := 49) rfl rfl ?_
    intro W
    refine h_seq ?_
    refine h_reg ?_
    refine h_opX (x_alloc) fun g6 => ?_
    refine h_nil ?_
    refine q_then ?_
    refine h_seq ?_
    refine h_seq ?_
    refine h_reg ?_
    refine h_op (r_move rfl) ?_
    refine h_op (r_len rfl) ?_
    refine h_op (r_bool (r_eql rfl rfl) (show _ = false by simp)) ?_
    refine h_nil ?_
    refine q_then ?_
    refine h_condF rfl ?_
    refine h_skip ?_
    refine q_then ?_
    refine h_seq ?_
    refine h_seq ?_
    refine h_reg ?_
    refine h_op (r_move rfl) ?_
    refine h_op (r_len rfl) ?_
    refine h_op (r_bool (r_eql rfl rfl) (show _ = true by simp)) ?_
    refine h_nil ?_
    refine q_then ?_
    refine h_condT rfl ?_
    refine h_pure (φ := ∃ b o, B = some ⟨b, o, none⟩) (fun w s => Rd.some (s.ok (.rd B (ents [⟨⟨key, ⟨A, b.length, cc⟩⟩, b⟩])) (by simp)) (by rw [ents_len]; exact Nat.zero_lt_succ _)) ?_
    rintro ⟨bb, o, rfl⟩
    refine h_seq ?_
    refine ha_start [.rd (some ⟨bb, o, none⟩) (ents [⟨⟨key, ⟨A, b.length, cc⟩⟩, b⟩])] [] mixed (same) ?_
    refine ha_takeP 0 rfl (r_move rfl) ?_
    refine ha_takeP 1 rfl (r_move rfl) ?_
    refine ha_takeP 2 rfl (r_move rfl) ?_
    refine ha_takeP 3 rfl (r_idx rfl rfl (hm := by simp)) ?_
    refine ha_takeP 4 rfl (r_field rfl) ?_
    refine ha_take 5 rfl (r_nthr rfl (out := key.cells) (B32.cells_length _) (ents_key0 ⟨⟨key, ⟨A, b.length, cc⟩⟩, b⟩)) ?_
    refine ha_takeP 6 rfl (r_move rfl) ?_
    refine ha_takeP 7 rfl (r_idx rfl rfl (hm := by simp)) ?_
    refine ha_takeP 8 rfl (r_field rfl) ?_
    refine ha_take 9 rfl (r_nth rfl (ents_val0 ⟨⟨key, ⟨A, b.length, cc⟩⟩, b⟩)) ?_
    refine ha_one 10 ?_
    refine ho_C 10 rfl ((rLeafOf_s n hn key b A cc hA (by omega)).comes) rfl rfl rfl (fun xx => same) fun _ => ?_
    refine ha_one 11 ?_
    refine ho_C 11 rfl ((rLeaf_s (leafOf n key b)).comes) rfl rfl rfl (fun xx => same) fun ⟨g28, c28⟩ => ?_
    refine ha_one 12 ?_
    refine ho_C 12 rfl ((refSum5_s n hn (preL (leafOf n key b)) (some ⟨g28, 0, none⟩) c28 (fun h => by cases h) (by rw [preL_len]; decide)).comes) rfl rfl rfl (fun xx => same) fun _ => ?_
    refine ha_one 13 ?_
    refine ho_SL 13 rfl (s_storer rfl rfl) ?_
    refine q_then ?_
    refine h_ret ?_
    refine q_thenR ?_
    exact h_ret1 rfl (rv_row rfl) fun w s => ⟨(), rfl, s.res (List.nil_sublist _) (by simp)⟩
  · intro m d ha hm hd i1 i2 hl hv B c
    have p1 := part_le m d false
    have p2 := part_le m d true
    rw [rootM_two n hm (by omega)]
    refine spec_of Tryd.func37 rfl (n := 49) rfl rfl ?_
    intro W
    refine h_seq ?_
    refine h_reg ?_
    refine h_opX (x_alloc) fun g6 => ?_
    refine h_nil ?_
    refine q_then ?_
    refine h_seq ?_
    refine h_seq ?_
    refine h_reg ?_
    refine h_op (r_move rfl) ?_
    refine h_op (r_len rfl) ?_
    refine h_op (r_eql rfl rfl) ?_
    refine h_nil ?_
    refine q_then ?_
    refine h_no rfl ((by omega)) ?_
    refine h_skip ?_
    refine q_then ?_
    refine h_seq ?_
    refine h_seq ?_
    refine h_reg ?_
    refine h_op (r_move rfl) ?_
    refine h_op (r_len rfl) ?_
    refine h_op (r_eql rfl rfl) ?_
    refine h_nil ?_
    refine q_then ?_
    refine h_no rfl ((by omega)) ?_
    refine h_skip ?_
    refine q_then ?_
    refine h_seq ?_
    refine h_reg ?_
    refine h_op (r_move rfl) ?_
    refine h_op (r_move rfl) ?_
    refine h_op (r_move rfl) ?_
    refine h_call ((Part_s m B c d false hd (by omega)).comes) rfl rfl rfl fun ⟨A33, c33⟩ => ?_
    refine h_op (r_move rfl) ?_
    refine h_op (r_add rfl rfl) ?_
    refine h_call ((i1 (by omega) (hv.part d false) A33 c33).comes) rfl rfl rfl fun _ => ?_
    refine h_opX (x_alloc) fun g7 => ?_
    refine h_opS (s_storer rfl rfl) ?_
    refine h_nil ?_
    refine q_then ?_
    refine h_seq ?_
    refine h_reg ?_
    refine h_op (r_move rfl) ?_
    refine h_op (r_move rfl) ?_
    refine h_op (r_move rfl) ?_
    refine h_call ((Part_s m B c d true hd (by omega)).comes) rfl rfl rfl fun ⟨A40, c40⟩ => ?_
    refine h_op (r_move rfl) ?_
    refine h_op (r_add rfl rfl) ?_
    refine h_call ((i2 (by omega) (hv.part d true) A40 c40).comes) rfl rfl rfl fun _ => ?_
    refine h_opX (x_alloc) fun g8 => ?_
    refine h_opS (s_storer rfl rfl) ?_
    refine h_nil ?_
    refine q_then ?_
    refine h_seq ?_
    refine h_reg ?_
    refine h_op (r_move rfl) ?_
    refine h_op (r_loadr rfl) ?_
    refine h_op (r_loadr rfl) ?_
    refine h_call ((rNode_s (rootM n (part m d false) (d + 1)) (rootM n (part m d true) (d + 1))).comes) rfl rfl rfl fun ⟨g47, c47⟩ => ?_
    refine h_call ((refSum5_s n hn (preN (rootM n (part m d false) (d + 1)) (rootM n (part m d true) (d + 1))) (some ⟨g47, 0, none⟩) c47 (fun h => by cases h) (by rw [preN_len]; decide)).comes) rfl rfl rfl fun _ => ?_
    refine h_opS (s_storer rfl rfl) ?_
    refine h_nil ?_
    refine q_then ?_
    refine h_ret ?_
    exact h_ret1 rfl (rv_row rfl) fun w s => ⟨(), rfl, s.res (List.nil_sublist _) (by simp)⟩
end Go.Proofs.YtgfkbeipckbkiaaDoor
