/- Grow and Concat; the preimages; The preimages; The reference's preimages; what is the same; The rules of a proof's form, and its check; Rows of digests; Repeat; Arguments of this translation, opened; what the law's condition says of the table of rounds; Booleans compared; small laws; Shifts by eight; a slice's first cells as an array; Interface values held against nil; Multiproofs: the subtrees that items describe: plain; What a proof's siblings are, expanded. Plain Lean; Maps of keys, and their trees: plain Lean; The digest of a tree, and the proof of a map: plain Lean; Trees in memory: what a zone holds of them; multi: the subtree that items begin with (joined texts: U11 U12 U13 U14 U15 TC N12 N13 N14 E14 E10 E11 E12 UT U62) -/
import Derived.Test.YtgfkbeipckbkiaaDoorY7
import Derived.LaidMore
import Derived.Stop.Joined
import Derived.WideLaws
set_option linter.all false
/- U11 -/
namespace Go.Proofs.YtgfkbeipckbkiaaDoor
set_option linter.unusedSimpArgs false
set_option linter.unusedVariables false
open Go.RowKit
section
variable {P : Program} {A : List Fa} {W : World} {n : Nat} {D : List Deferred} {E : Env} {L M : List Fa} {T : TypeId} {x y : Operand}
theorem r_cap {e size bytes : Nat} {z : Value} [E' : TS P T e size bytes z] {B : Option Addr} {N c : Nat} (hx : ev E x = some (.slice B N c)) : Runs0 P n D E L (.call { callee := .builtin .cap, args := #[x], argTypes := #[T] }) (.int .i64 (c : Int)) := fun a w ka s o ho => by
  unfold execOp
  simp [ho, resolve, invoke, builtin, ka.ev hx, Builtin.cap_, run_underlying E'.el.ht, goInt]
theorem x_appZ {t e xt size bytes N : Nat} {z : Value} {k : IntKind} [E' : TS P t e size bytes z] (hxt : P.underlying xt = some (.int k)) (hs : ev E x = some (.slice none 0 0)) (hx : ev E y = some (.int .i64 (N : Int))) (h0 : 0 < N) (hb : N * bytes ≤ 140737488355328 := by omega) :
    RunsX P A W n D E L (.call { callee := .builtin .append, args := #[x, y], argTypes := #[t, xt] }) (fun u : Nat × Nat => .slice (some ⟨u.1, 0, none⟩) N u.2) (fun u => .own (.slice (some ⟨u.1, 0, none⟩) N u.2) N e size ((List.range (N * size)).map fun i => z.cells[i % size]!) :: L) := fun a w ka s o hop => by
  obtain ⟨v', w', hrun, h2, h3, h4⟩ := xAppendZ hxt hop (ka.ev hs) (ka.ev hx) h0 hb (base := 0) (Nat.zero_le _)
  have hb2 : Below w.heap.size w w' := ⟨h3.os, h3.tape, h3.output, h3.size, fun k hk => h3.block k hk (by simp)⟩
  rcases h2.2 with ⟨rfl, h5⟩ | ⟨g, cap, cur, rfl, _⟩
  · omega
  · have hg : some g = some w.heap.size := h4
    injection hg with hg
    subst hg
    refine ⟨(w.heap.size, cap), w', hrun, (s.call hb2).cons h2 ?_ ?_⟩
    · intro f hf _ k hk hk'
      have hk2 : some w.heap.size = some k := hk
      injection hk2 with hk2
      have := Fa.bound (s.ok f hf) hk'
      omega
    · intro _ k hk
      have hk2 : some w.heap.size = some k := hk
      injection hk2 with hk2
      exact .inl (by have := s.size; omega)
end
theorem Sx.shrink {A : List Fa} {W w : World} {L M : List Fa} {g N c m e size : Nat} {xs : List Value} (s : Sx A W w L) [hd : TakeG g L N c e size xs M] (hm : m ≤ N) : Sx A W w (.own (.slice (some ⟨g, 0, none⟩) m c) m e size (xs.take (m * size)) :: M) := by
  have s2 := s.perm hd.perm
  have ho : w.ownsRow 0 e size (.slice (some ⟨g, 0, none⟩) N c) N xs := s2.ok (.own _ _ _ _ _) (List.mem_cons_self ..)
  obtain ⟨cur, hb, h3, h4, h5, h6⟩ := own_parts ho
  refine s2.turn rfl (fun k hk => .inl hk) (own_new hb ?_ (Nat.le_trans hm h3) h4 h5 ?_) rfl rfl rfl (Nat.le_refl _) fun _ _ _ => rfl
  · rw [List.length_take, ho.1]
    exact Nat.min_eq_left (Nat.mul_le_mul_right _ hm)
  · rw [← h6, List.take_take, Nat.min_eq_left (Nat.mul_le_mul_right _ hm)]
theorem GrowNil_s (N : Nat) (hN : N ≤ 100000000000) : Spec Tryd.prog 112 [.slice none 0 0, .int .i64 (N : Int)].toArray [] [] (fun u : Option Addr × Nat => .slice u.1 0 u.2) (fun u => [.own (.slice u.1 0 u.2) 0 5 1 (bc [])]) := by
  refine spec_of Tryd.func112 rfl (n := 27) rfl rfl ?_
  intro W
  refine h_seq ?_
  refine h_reg ?_
  refine h_op (r_assign rfl) ?_
  refine h_nil ?_
  refine q_then ?_
  refine h_seq ?_
  refine h_seq ?_
  refine h_reg ?_
  refine h_op (r_move rfl) ?_
  refine h_op (r_bool (r_lss rfl rfl) (decide_eq_false (by omega))) ?_
  refine h_nil ?_
  refine q_then ?_
  refine h_condF rfl ?_
  refine h_skip ?_
  refine q_then ?_
  refine h_seq ?_
  refine h_seq ?_
  refine h_reg ?_
  refine h_op (r_move rfl) ?_
  refine h_op (r_move rfl) ?_
  refine h_op (r_cap rfl) ?_
  refine h_op (r_move rfl) ?_
  refine h_op (r_len rfl) ?_
  refine h_op (r_sub rfl rfl) ?_
  refine h_op (r_int (r_sub rfl rfl) (show _ = (N : Int) by omega)) ?_
  refine h_op (r_assign rfl) ?_
  refine h_nil ?_
  refine q_then ?_
  refine h_seq ?_
  refine h_reg ?_
  refine h_op (r_move rfl) ?_
  refine h_op (r_gtr rfl rfl) ?_
  refine h_nil ?_
  refine q_then ?_
  refine h_cond rfl (fun h => ?_) (fun h => ?_)
  · refine h_reg ?_
    refine h_op (r_move rfl) ?_
    refine h_op (r_move rfl) ?_
    refine h_op (r_cap rfl) ?_
    refine h_op (r_as (r_slH rfl rfl) (show _ = Value.slice none 0 0 from rfl)) ?_
    refine h_op (r_move rfl) ?_
    refine h_opX (x_appZ (N := N) Tryd.underlying3 rfl rfl (by omega)) fun ⟨g22, c22⟩ => ?_
    refine h_pure (φ := N ≤ c22) (fun w s => (s.ownLe (B := some ⟨g22, 0, none⟩) (N := N) (c := c22)).1) fun hc => ?_
    refine h_L (fun w s => s.shrink (g := g22) (m := 0) (Nat.zero_le _)) ?_
    rw [Nat.zero_mul, List.take_zero]
    refine h_op (r_move rfl) ?_
    refine h_op (r_len rfl) ?_
    refine h_op (r_as (r_slH rfl rfl) (show _ = Value.slice (some ⟨g22, 0, none⟩) 0 c22 by rw [cutA_lt (by omega)])) ?_
    refine h_op (r_assign rfl) ?_
    refine h_nil ?_
    refine q_then ?_
    refine h_seq ?_
    refine h_reg ?_
    refine h_op (r_move rfl) ?_
    refine h_op (r_assign rfl) ?_
    refine h_nil ?_
    refine q_then ?_
    refine h_ret ?_
    exact h_ret1 rfl rfl fun w s => ⟨(some ⟨g22, 0, none⟩, c22), rfl, s.res (List.Sublist.refl _) (by simp [Fa.wr])⟩
  · refine h_skip ?_
    refine q_then ?_
    refine h_seq ?_
    refine h_reg ?_
    refine h_op (r_move rfl) ?_
    refine h_op (r_assign rfl) ?_
    refine h_nil ?_
    refine q_then ?_
    refine h_ret ?_
    refine h_nil_own 5 1 (xs := bc []) rfl ?_
    exact h_ret1 rfl rfl fun w s => ⟨(none, 0), rfl, s.res (List.Sublist.refl _) (by simp [Fa.wr])⟩
/-- a row of bytes that is somewhere: where, its capacity, the bytes -/
abbrev Seg := Option Addr × Nat × List UInt8
def sv (x : Seg) : Value := .slice x.1 x.2.2.length x.2.1
def svs (xs : List Seg) : List Value := xs.map sv
def rdsOf : List Seg → List Fa
  | [] => []
  | x :: l => .rd x.1 (bc x.2.2) :: rdsOf l
theorem rdsOf_mem {xs : List Seg} {x : Seg} (h : x ∈ xs) : Fa.rd x.1 (bc x.2.2) ∈ rdsOf xs := by
  induction xs with
  | nil => cases h
  | cons y l ih => exact (List.mem_cons.1 h).elim (fun e => by rw [e]; exact List.mem_cons_self ..) fun e => List.mem_cons_of_mem _ (ih e)
instance (L : List Fa) : Rds L (rdsOf []) := ⟨fun _ _ h => (List.not_mem_nil h).elim⟩
instance (L : List Fa) (x : Seg) (xs : List Seg) [h : Rds L (.rd x.1 (bc x.2.2) :: rdsOf xs)] : Rds L (rdsOf (x :: xs)) := h
theorem rd1_mem {L : List Fa} {B : Option Addr} {cs : List Value} (h : Fa.rd B cs ∈ L) : Rd1 L (.rd B cs) := ⟨fun hw => ⟨rfl, hw.ok _ h, fun k hk => ⟨_, h, hk⟩⟩⟩
def segN (xs : List Seg) : Nat := (xs.map (·.2.2.length)).sum
def segB (xs : List Seg) : List UInt8 := xs.flatMap (·.2.2)
theorem segN_succ {xs : List Seg} {k : Nat} {x : Seg} (h : xs[k]? = some x) : segN (xs.take (k + 1)) = segN (xs.take k) + x.2.2.length := by
  unfold segN
  rw [List.take_add_one, h, List.map_append, List.sum_append]
  simp
theorem segN_le (xs : List Seg) (k : Nat) : segN (xs.take k) ≤ segN xs := by
  unfold segN
  conv => rhs; rw [← List.take_append_drop k xs, List.map_append, List.sum_append]
  omega
theorem segB_len (xs : List Seg) : (segB xs).length = segN xs := by
  unfold segB segN
  rw [List.length_flatMap]
theorem segB_succ {xs : List Seg} {k : Nat} {x : Seg} (h : xs[k]? = some x) : segB (xs.take (k + 1)) = segB (xs.take k) ++ x.2.2 := by
  unfold segB
  rw [List.take_add_one, h, List.flatMap_append]
  simp
theorem svs_len (xs : List Seg) : (svs xs).length = xs.length := by simp [svs]
theorem svs_get {xs : List Seg} {k : Nat} {x : Seg} (h : xs[k]? = some x) : (svs xs)[k]? = some (.slice x.1 x.2.2.length x.2.1) := by
  unfold svs
  rw [List.getElem?_map, h]
  rfl
theorem Fx.rdSome {w : World} {L : List Fa} {B : Option Addr} {cs : List Value} (h : Fx w (.rd B cs :: L)) (hc : 0 < cs.length) : ∃ b o, B = some ⟨b, o, none⟩ := by
  have h1 : Rd w B cs := h.ok (.rd B cs) (List.mem_cons_self ..)
  obtain ⟨b, o, e, _⟩ := h1 0 _ (List.getElem?_eq_getElem hc)
  exact ⟨b, o, e⟩
theorem Concat_s (xs : List Seg) (B : Option Addr) (cp : Nat) (hx : ∀ x ∈ xs, x.1 = none → x.2.2.length = 0 ∧ x.2.1 = 0) (hmax : segN xs ≤ 1000000000 ∧ xs.length ≤ 1000000000) : Spec Tryd.prog 106 [.slice B xs.length cp].toArray (.rd B (svs xs) :: rdsOf xs) [] (fun u : Option Addr × Nat => .slice u.1 (segB xs).length u.2) (fun u => [.own (.slice u.1 (segB xs).length u.2) (segB xs).length 5 1 (bc (segB xs))]) := by
  refine spec_of Tryd.func106 rfl (n := 36) rfl rfl ?_
  intro W
  refine h_seq ?_
  refine h_reg ?_
  refine h_op (r_assign rfl) ?_
  refine h_nil ?_
  refine q_then ?_
  refine h_seq ?_
  refine h_reg ?_
  refine h_op (r_assign rfl) ?_
  refine h_nil ?_
  refine q_then ?_
  refine h_seq ?_
  refine h_seq ?_
  refine h_reg ?_
  refine h_op (r_move rfl) ?_
  refine h_op (r_len rfl) ?_
  refine h_op (r_move rfl) ?_
  refine h_nil ?_
  refine q_then ?_
  refine h_block ?_
  refine h_loop (fun (k : Nat) => k ≤ xs.length) (fun (k : Nat) => [(11, .int .i64 (k : Int)), (10, .int .i64 (xs.length : Int)), (9, .slice B xs.length cp), (3, .int .i64 ((segN (xs.take k) : Nat) : Int)), (0, .slice B xs.length cp)]) (fun (k : Nat) => .rd B (svs xs) :: rdsOf xs) (fun (k : Nat) => xs.length - k) 0 (Nat.zero_le _) ⟨rfl, rfl, rfl, rfl, rfl, trivial⟩ (fun _ s => s) ?_
  intro k hk
  have hle := segN_le xs k
  refine h_seq ?_
  refine h_reg ?_
  refine h_op (r_lss rfl rfl) ?_
  refine h_nil ?_
  refine q_then ?_
  refine h_seq ?_
  refine h_cond rfl (fun h => ?_) (fun h => ?_)
  · have hlt : k < xs.length := by omega
    obtain ⟨x, hxk⟩ : ∃ x, xs[k]? = some x := ⟨xs[k], by simp [hlt]⟩
    have hs := segN_succ hxk
    have hle2 := segN_le xs (k + 1)
    refine h_pure (φ := ∃ b o, B = some ⟨b, o, none⟩) (fun w s => s.toFx.rdSome (by rw [svs_len]; omega)) ?_
    rintro ⟨b, o, rfl⟩
    refine h_skip ?_
    refine q_then ?_
    refine h_seq ?_
    refine h_block ?_
    refine h_seq ?_
    refine h_reg ?_
    refine h_op (r_idx rfl rfl) ?_
    refine h_op (r_nth rfl (svs_get hxk)) ?_
    refine h_op (r_assign rfl) ?_
    refine h_nil ?_
    refine q_then ?_
    refine h_seq ?_
    refine h_reg ?_
    refine h_op (r_move rfl) ?_
    refine h_op (r_move rfl) ?_
    refine h_op (r_len rfl) ?_
    refine h_op (r_add rfl rfl) ?_
    refine h_op (r_assign rfl) ?_
    refine h_nil ?_
    refine q_then ?_
    refine h_seq ?_
    refine h_reg ?_
    refine h_op (r_move rfl) ?_
    refine h_op (r_lss rfl rfl) ?_
    refine h_nil ?_
    refine q_then ?_
    refine h_no rfl (by omega) ?_
    refine h_skip ?_
    refine q_block ?_
    refine q_then ?_
    refine h_reg ?_
    refine h_op (r_add rfl rfl) ?_
    refine h_op (r_move rfl) ?_
    refine h_nil ?_
    exact h_back (k + 1) (by omega) (by omega) ⟨rfl, rfl, rfl, aI rfl (by rw [hs]; omega), rfl, trivial⟩ (fun _ s => s)
  · obtain rfl : k = xs.length := by omega
    rw [List.take_length]
    refine h_exit ?_
    refine q_thenE ?_
    refine q_thenE ?_
    refine q_blockE ?_
    refine q_then ?_
    refine h_seq ?_
    refine h_reg ?_
    refine h_op (r_move rfl) ?_
    refine h_call ((GrowNil_s (segN xs) (by omega)).comes) rfl rfl rfl fun ⟨A24, c24⟩ => ?_
    dsimp only
    refine h_op (r_assign rfl) ?_
    refine h_nil ?_
    refine q_then ?_
    refine h_seq ?_
    refine h_seq ?_
    refine h_reg ?_
    refine h_op (r_move rfl) ?_
    refine h_op (r_len rfl) ?_
    refine h_op (r_move rfl) ?_
    refine h_nil ?_
    refine q_then ?_
    refine h_block ?_
    refine h_loop (fun (s : Nat × Option Addr × Nat) => s.1 ≤ xs.length) (fun (s : Nat × Option Addr × Nat) => [(27, .int .i64 (s.1 : Int)), (26, .int .i64 (xs.length : Int)), (25, .slice B xs.length cp), (6, .slice s.2.1 (segB (xs.take s.1)).length s.2.2)]) (fun (s : Nat × Option Addr × Nat) => .own (.slice s.2.1 (segB (xs.take s.1)).length s.2.2) (segB (xs.take s.1)).length 5 1 (bc (segB (xs.take s.1))) :: .rd B (svs xs) :: rdsOf xs) (fun (s : Nat × Option Addr × Nat) => xs.length - s.1) (0, A24, c24) ((show 0 ≤ xs.length from Nat.zero_le _)) ⟨rfl, rfl, rfl, rfl, trivial⟩ (fun _ s => s) ?_
    rintro ⟨k, B', c'⟩ hk
    dsimp only at hk ⊢
    have hle := segN_le xs k
    refine h_seq ?_
    refine h_reg ?_
    refine h_op (r_lss rfl rfl) ?_
    refine h_nil ?_
    refine q_then ?_
    refine h_seq ?_
    refine h_cond rfl (fun h => ?_) (fun h => ?_)
    · have hlt : k < xs.length := by omega
      obtain ⟨x, hxk⟩ : ∃ x, xs[k]? = some x := ⟨xs[k], by simp [hlt]⟩
      have hs := segN_succ hxk
      have hle2 := segN_le xs (k + 1)
      have hsb := segB_succ hxk
      have hbl := segB_len (xs.take k)
      have hbl2 : (segB (xs.take (k + 1))).length = (segB (xs.take k)).length + x.2.2.length := by rw [hsb, List.length_append]
      have hxm := List.mem_of_getElem? hxk
      refine h_pure (φ := ∃ b o, B = some ⟨b, o, none⟩) (fun w s => s.tail.toFx.rdSome (by rw [svs_len]; omega)) ?_
      rintro ⟨b, o, rfl⟩
      refine h_skip ?_
      refine q_then ?_
      refine h_seq ?_
      refine h_block ?_
      refine h_seq ?_
      refine h_reg ?_
      refine h_op (r_idx rfl rfl) ?_
      refine h_op (r_nth rfl (svs_get hxk)) ?_
      refine h_op (r_assign rfl) ?_
      refine h_nil ?_
      refine q_then ?_
      refine h_reg ?_
      refine h_op (r_move rfl) ?_
      refine h_op (r_move rfl) ?_
      refine h_opX (x_appAB rfl rfl (hx x hxm) rfl (hr := rd1_mem (List.mem_cons_of_mem _ (rdsOf_mem hxm))) (hN := hbl2.symm)) fun ⟨A33, c33⟩ => ?_
      refine h_op (r_assign rfl) ?_
      refine h_nil ?_
      refine q_block ?_
      refine q_then ?_
      refine h_reg ?_
      refine h_op (r_add rfl rfl) ?_
      refine h_op (r_move rfl) ?_
      refine h_nil ?_
      rw [← hsb]
      exact h_back (k + 1, A33, c33) ((show k + 1 ≤ xs.length by omega)) ((show xs.length - (k + 1) < xs.length - k by omega)) ⟨rfl, rfl, rfl, rfl, trivial⟩ (fun _ s => s)
    · obtain rfl : k = xs.length := by omega
      rw [List.take_length]
      refine h_exit ?_
      refine q_thenE ?_
      refine q_thenE ?_
      refine q_blockE ?_
      refine q_then ?_
      refine h_seq ?_
      refine h_reg ?_
      refine h_op (r_move rfl) ?_
      refine h_op (r_assign rfl) ?_
      refine h_nil ?_
      refine q_then ?_
      refine h_ret ?_
      exact h_ret1 rfl rfl fun w s => ⟨(B', c'), rfl, s.res ((List.nil_sublist _).cons_cons _) (by simp [Fa.wr])⟩
end Go.Proofs.YtgfkbeipckbkiaaDoor
/- U12 -/
namespace Go.Proofs.YtgfkbeipckbkiaaDoor
set_option linter.unusedSimpArgs false
set_option linter.unusedVariables false
open Go.RowKit
def preL (l : Leaf) : List UInt8 := 0 :: (l.key.1 ++ l.value.1)
def preN (a b : B32) : List UInt8 := 1 :: (a.1 ++ b.1)
def preE : List UInt8 := [3]
theorem preL_len (l : Leaf) : (preL l).length = 65 := by have := l.key.2; have := l.value.2; simp [preL]; omega
theorem preN_len (a b : B32) : (preN a b).length = 65 := by have := a.2; have := b.2; simp [preN]; omega
theorem x_bslV {P : Program} {A : List Fa} {W : World} {n : Nat} {D : List Deferred} {E : Env} {L : List Fa} {t e m bytes : Nat} {z : Value} [E' : TS P t e 1 bytes z] {l : List (Nat × Operand)} (xs : List Value) {ys : List Value} (hv : evp E l = some (idxd 0 ys)) (he : ys = xs) (h1 : ∀ v ∈ xs, v.oneCell' = true) (hm : xs.length = m := by rfl) (h0 : 0 < m ∧ m * 1 ≤ 16777216 := by decide) :
    RunsX P A W n D E L (.buildSlice t m l.toArray) (fun g : Nat => .slice (some ⟨g, 0, none⟩) m m) (fun g => .own (.slice (some ⟨g, 0, none⟩) m m) m e 1 xs :: L) := by
  subst he
  exact x_bsl (E' := E') hv (by rw [idxd_len, hm]) (hf := parts_idxd _ 0 h1) (ho := ⟨hm, h1⟩) (Nat.mul_one _) h0
theorem svs_one (xs : List Seg) : ∀ v ∈ svs xs, v.oneCell' = true := by
  intro v hv
  obtain ⟨x, _, rfl⟩ := List.mem_map.1 hv
  rfl
theorem rds_nil {M : List Fa} : Rds M (.rd none (svs []) :: rdsOf []) := inferInstanceAs (Rds M [.rd none []])
theorem rds2 {L : List Fa} {B A1 A2 : Option Addr} {n1 n2 : Nat} {l1 l2 : List UInt8} {c1 c2 : List Value} (e1 : c1 = bc l1) (e2 : c2 = bc l2) [h0 : Rd1 L (.rd B (svs [(A1, n1, l1), (A2, n2, l2)]))] [h1 : Rd1 L (.rd A1 c1)] [h2 : Rd1 L (.rd A2 c2)] : Rds L (.rd B (svs [(A1, n1, l1), (A2, n2, l2)]) :: rdsOf [(A1, n1, l1), (A2, n2, l2)]) := by
  subst e1 e2
  exact inferInstanceAs (Rds L [.rd B (svs [(A1, n1, l1), (A2, n2, l2)]), .rd A1 (bc l1), .rd A2 (bc l2)])
theorem rds_wr (xs : List Seg) (B : Option Addr) : ∀ r ∈ Fa.rd B (svs xs) :: rdsOf xs, r.wr = false := by
  intro r hr
  rcases List.mem_cons.1 hr with rfl | hr
  · rfl
  · induction xs with
    | nil => cases hr
    | cons x l ih => rcases List.mem_cons.1 hr with rfl | h; rfl; exact ih (List.mem_cons_of_mem _ h) h
theorem build_s (t : UInt8) (xs : List Seg) (B : Option Addr) (cp : Nat) (hx : ∀ x ∈ xs, x.1 = none → x.2.2.length = 0 ∧ x.2.1 = 0) (hmax : segN xs ≤ 1000000000 ∧ xs.length ≤ 1000000000) : Spec Tryd.prog 96 [.int .u8 (t.toNat : Int), .slice B xs.length cp].toArray (.rd B (svs xs) :: rdsOf xs) [] (fun u : Nat × Nat => .slice (some ⟨u.1, 0, none⟩) (t :: segB xs).length u.2) (fun u => [.own (.slice (some ⟨u.1, 0, none⟩) (t :: segB xs).length u.2) (t :: segB xs).length 5 1 (bc (t :: segB xs))]) := by
  have hl := segB_len xs
  refine spec_of Tryd.func96 rfl (n := 10) rfl rfl ?_
  intro W
  refine h_seq ?_
  refine h_reg ?_
  refine h_op (r_assign rfl) ?_
  refine h_nil ?_
  refine q_then ?_
  refine h_seq ?_
  refine h_reg ?_
  refine h_op (r_move rfl) ?_
  refine h_opX (x_bsl rfl rfl) fun g6 => ?_
  refine h_op (r_move rfl) ?_
  change H _ _ _ _ _ (.own (.slice (some ⟨g6, 0, none⟩) 1 1) 1 5 1 (bc [t]) :: .rd B (svs xs) :: rdsOf xs) _
  refine h_call ((Concat_s xs B cp hx hmax).comes (hr := ⟨fun hw r hr => ⟨(rds_wr xs B r hr), hw.ok r (List.mem_cons_of_mem _ hr), fun k hk => ⟨r, List.mem_cons_of_mem _ hr, hk⟩⟩⟩)) rfl rfl rfl fun ⟨A8, c8⟩ => ?_
  dsimp only
  refine h_pure (φ := A8 = none → (segB xs).length = 0 ∧ c8 = 0) (fun w s => (s.ownLe (B := A8) (N := (segB xs).length) (c := c8)).2.2) fun hA => ?_
  refine h_opX (x_appAB rfl rfl hA rfl (hN := Nat.add_comm _ _)) fun ⟨A9, c9⟩ => ?_
  refine h_pure (φ := ∃ g, A9 = some ⟨g, 0, none⟩) (fun w s => s.ownSome (N := (segB xs).length + 1) (c := c9) (by omega)) ?_
  rintro ⟨g, rfl⟩
  refine h_op (r_assign rfl) ?_
  refine h_nil ?_
  refine q_then ?_
  refine h_ret ?_
  exact h_ret1 rfl rfl fun w s => ⟨(g, c9), rfl, s.res ((List.nil_sublist _).cons_cons _) (by simp [Fa.wr])⟩
theorem pEmpty_s : Spec Tryd.prog 77 ([] : List Value).toArray [] [] (fun u : Nat × Nat => .slice (some ⟨u.1, 0, none⟩) 1 u.2) (fun u => [.own (.slice (some ⟨u.1, 0, none⟩) 1 u.2) 1 5 1 (bc preE)]) := by
  refine spec_of Tryd.func77 rfl (n := 2) rfl rfl ?_
  intro W
  refine h_seq ?_
  refine h_reg ?_
  refine h_op (r_assign rfl) ?_
  refine h_nil ?_
  refine q_then ?_
  refine h_seq ?_
  refine h_reg ?_
  refine h_call ((build_s 3 [] none 0 (fun _ h => (List.not_mem_nil h).elim) (by decide)).comes (hr := rds_nil)) rfl rfl rfl fun ⟨g, c⟩ => ?_
  dsimp only
  refine h_op (r_assign rfl) ?_
  refine h_nil ?_
  refine q_then ?_
  refine h_ret ?_
  exact h_ret1 rfl rfl fun w s => ⟨(g, c), rfl, s.res (List.Sublist.refl _) (by simp [Fa.wr])⟩
theorem pLeaf_s (l : Leaf) : Spec Tryd.prog 139 [.agg l.cells.toArray].toArray [] [] (fun u : Nat × Nat => .slice (some ⟨u.1, 0, none⟩) (preL l).length u.2) (fun u => [.own (.slice (some ⟨u.1, 0, none⟩) (preL l).length u.2) (preL l).length 5 1 (bc (preL l))]) := by
  have hk := l.key.2
  have hv := l.value.2
  have hseg : ∀ g : Nat, (0 : UInt8) :: segB [(some ⟨g, 0, none⟩, 32, l.key.1), (some ⟨g, 32, none⟩, 32, l.value.1)] = preL l := fun g => by simp [segB, preL]
  refine spec_of Tryd.func139 rfl (n := 9) rfl rfl ?_
  intro W
  refine h_seq ?_
  refine h_reg ?_
  refine h_opX (x_box rfl) fun g1 => ?_
  refine h_op (r_assign rfl) ?_
  refine h_nil ?_
  refine q_then ?_
  refine h_seq ?_
  refine ha_start [] [] mixed (same) ?_
  refine ha_takeP 0 rfl (r_field rfl) ?_
  refine ha_takeP 1 rfl (r_slA rfl) ?_
  refine ha_takeP 2 rfl (r_field rfl) ?_
  refine ha_takeP 3 rfl (r_slA rfl) ?_
  refine ha_one 4 ?_
  refine ho_X 4 rfl (rk (x_bslV (ys := [.slice (some ⟨g1, 0, none⟩) 32 32, .slice (some ⟨g1, 32, none⟩) 32 32]) (svs [(some ⟨g1, 0, none⟩, 32, l.key.1), (some ⟨g1, 32, none⟩, 32, l.value.1)]) rfl (by simp only [svs, sv, List.map_cons, List.map_nil, hk, hv]) (svs_one _))) (fun _ => same) fun g7 => ?_
  refine ha_one 5 ?_
  refine ho_C 5 rfl ((build_s 0 [(some ⟨g1, 0, none⟩, 32, l.key.1), (some ⟨g1, 32, none⟩, 32, l.value.1)] (some ⟨g7, 0, none⟩) 2 (by simp) (by simp [segN]; omega)).comes (hr := rds2 (c1 := l.key.cells) (c2 := l.value.cells) rfl rfl)) rfl rfl rfl (fun _ => same) fun ⟨g8, c8⟩ => ?_
  refine ha_takeP 6 rfl (r_assign rfl) ?_
  refine ha_done (by kernel_rfl) ?_
  refine q_then ?_
  dsimp only
  rw [hseg]
  refine h_ret ?_
  exact h_ret1 rfl rfl fun w s => ⟨(g8, c8), rfl, s.res ((List.nil_sublist _).cons_cons _) (by simp [Fa.wr])⟩
theorem pNode_s (a b : B32) : Spec Tryd.prog 136 [.agg a.cells.toArray, .agg b.cells.toArray].toArray [] [] (fun u : Nat × Nat => .slice (some ⟨u.1, 0, none⟩) (preN a b).length u.2) (fun u => [.own (.slice (some ⟨u.1, 0, none⟩) (preN a b).length u.2) (preN a b).length 5 1 (bc (preN a b))]) := by
  have hk := a.2
  have hv := b.2
  have hseg : ∀ g g' : Nat, (1 : UInt8) :: segB [(some ⟨g, 0, none⟩, 32, a.1), (some ⟨g', 0, none⟩, 32, b.1)] = preN a b := fun g g' => by simp [segB, preN]
  refine spec_of Tryd.func136 rfl (n := 9) rfl rfl ?_
  intro W
  refine h_seq ?_
  refine h_reg ?_
  refine h_opX (x_box rfl) fun g2 => ?_
  refine h_opX (x_box rfl) fun g3 => ?_
  refine h_op (r_assign rfl) ?_
  refine h_nil ?_
  refine q_then ?_
  refine h_seq ?_
  refine ha_start [] [] mixed (same) ?_
  refine ha_takeP 0 rfl (r_slA rfl) ?_
  refine ha_takeP 1 rfl (r_slA rfl) ?_
  refine ha_one 2 ?_
  refine ho_X 2 rfl (rk (x_bslV (ys := [.slice (some ⟨g2, 0, none⟩) 32 32, .slice (some ⟨g3, 0, none⟩) 32 32]) (svs [(some ⟨g2, 0, none⟩, 32, a.1), (some ⟨g3, 0, none⟩, 32, b.1)]) rfl (by simp only [svs, sv, List.map_cons, List.map_nil, hk, hv]) (svs_one _))) (fun _ => same) fun g7 => ?_
  refine ha_one 3 ?_
  refine ho_C 3 rfl ((build_s 1 [(some ⟨g2, 0, none⟩, 32, a.1), (some ⟨g3, 0, none⟩, 32, b.1)] (some ⟨g7, 0, none⟩) 2 (by simp) (by simp [segN]; omega)).comes (hr := rds2 (c1 := a.cells) (c2 := b.cells) rfl rfl)) rfl rfl rfl (fun _ => same) fun ⟨g8, c8⟩ => ?_
  refine ha_takeP 4 rfl (r_assign rfl) ?_
  refine ha_done (by kernel_rfl) ?_
  refine q_then ?_
  dsimp only
  rw [hseg]
  refine h_ret ?_
  exact h_ret1 rfl rfl fun w s => ⟨(g8, c8), rfl, s.res ((List.nil_sublist _).cons_cons _) (by simp [Fa.wr])⟩
end Go.Proofs.YtgfkbeipckbkiaaDoor
/- U13 -/
namespace Go.Proofs.YtgfkbeipckbkiaaDoor
set_option linter.unusedSimpArgs false
set_option linter.unusedVariables false
open Go.RowKit
theorem snocB (t : List UInt8) (a : List UInt8) (k : Nat) (h : k < a.length) : (t ++ a.take k) ++ [UInt8.ofBitVec (a.getD k 0).toBitVec] = t ++ a.take (k + 1) := by
  rw [take_snoc (d := 0) h, List.append_assoc]
theorem two_s (t : UInt8) (a b : B32) : Spec Tryd.prog 84 [.int .u8 (t.toNat : Int), .agg a.cells.toArray, .agg b.cells.toArray].toArray [] [] (fun u : Nat × Nat => .slice (some ⟨u.1, 0, none⟩) 65 u.2) (fun u => [.own (.slice (some ⟨u.1, 0, none⟩) 65 u.2) 65 5 1 (bc (t :: (a.1 ++ b.1)))]) := by
  have ha := a.2
  have hb := b.2
  refine spec_of Tryd.func84 rfl (n := 33) rfl rfl ?_
  intro W
  refine h_seq ?_
  refine h_reg ?_
  refine h_opX (x_box rfl) fun g4 => ?_
  refine h_opX (x_box rfl) fun g5 => ?_
  refine h_op (r_assign rfl) ?_
  refine h_nil ?_
  refine q_then ?_
  refine h_seq ?_
  refine h_reg ?_
  refine h_op (r_move rfl) ?_
  refine h_opX (x_bsl rfl rfl) fun g11 => ?_
  refine h_op (r_assign rfl) ?_
  refine h_nil ?_
  refine q_then ?_
  refine h_seq ?_
  refine h_seq ?_
  refine h_reg ?_
  refine h_op (r_assign rfl) ?_
  refine h_nil ?_
  refine q_then ?_
  refine h_block ?_
  change H _ _ _ _ _ (.own (.slice (some ⟨g11, 0, none⟩) (1 + 0) 1) (1 + 0) _ _ (bc ([t] ++ a.1.take 0)) :: _) _
  refine h_loop (fun (s : Nat × Nat × Nat) => s.1 ≤ 32) (fun (s : Nat × Nat × Nat) => [(8, .int .i64 (s.1 : Int)), (7, .slice (some ⟨s.2.1, 0, none⟩) (1 + s.1) s.2.2), (4, .pointer (some ⟨g4, 0, none⟩)), (5, .pointer (some ⟨g5, 0, none⟩))]) (fun (s : Nat × Nat × Nat) => [.own (.slice (some ⟨s.2.1, 0, none⟩) (1 + s.1) s.2.2) (1 + s.1) 5 1 (bc ([t] ++ a.1.take s.1)), .blk g5 b.cells 39, .blk g4 a.cells 39]) (fun (s : Nat × Nat × Nat) => 32 - s.1) (0, g11, 1) ((show 0 ≤ 32 by omega)) ⟨rfl, rfl, rfl, rfl, trivial⟩ (same) ?_
  rintro ⟨k, g, c⟩ hk
  dsimp only at hk ⊢
  refine h_seq ?_
  refine h_seq ?_
  refine h_reg ?_
  refine h_op (r_move rfl) ?_
  refine h_op (r_lss rfl rfl) ?_
  refine h_nil ?_
  refine q_then ?_
  refine h_cond rfl (fun h => ?_) (fun h => ?_)
  · have hs := snocB [t] a.1 k (by omega)
    refine h_skip ?_
    refine q_then ?_
    refine h_seq ?_
    refine h_block ?_
    refine h_reg ?_
    refine h_op (r_move rfl) ?_
    refine h_op (r_move rfl) ?_
    refine h_op (r_idxA rfl rfl) ?_
    refine h_op (r_nth rfl (bc_at' (by omega))) ?_
    refine h_opX (x_bsl rfl rfl) fun g20 => ?_
    refine h_opX (x_app1B rfl rfl) fun ⟨g21, c21⟩ => ?_
    refine h_op (r_assign rfl) ?_
    refine h_nil ?_
    refine q_block ?_
    refine q_then ?_
    refine h_reg ?_
    refine h_op (r_move rfl) ?_
    refine h_op (r_add rfl rfl) ?_
    refine h_op (r_assign rfl) ?_
    refine h_nil ?_
    rw [hs]
    exact h_back (k + 1, g21, c21) ((show k + 1 ≤ 32 by omega)) ((show 32 - (k + 1) < 32 - k by omega)) ⟨rfl, rfl, rfl, rfl, trivial⟩ (same)
  · obtain rfl : k = 32 := by omega
    refine h_exit ?_
    refine q_thenE ?_
    refine q_thenE ?_
    refine q_blockE ?_
    refine q_then ?_
    refine h_seq ?_
    refine h_seq ?_
    refine h_reg ?_
    refine h_op (r_assign rfl) ?_
    refine h_nil ?_
    refine q_then ?_
    refine h_block ?_
    rw [show [t] ++ a.1.take 32 = (t :: a.1) ++ b.1.take 0 by rw [List.take_of_length_le (by omega)]; simp]
    change H _ _ _ _ _ (.own (.slice (some ⟨g, 0, none⟩) (33 + 0) c) (33 + 0) _ _ _ :: _) _
    refine h_loop (fun (s : Nat × Nat × Nat) => s.1 ≤ 32) (fun (s : Nat × Nat × Nat) => [(9, .int .i64 (s.1 : Int)), (7, .slice (some ⟨s.2.1, 0, none⟩) (33 + s.1) s.2.2), (5, .pointer (some ⟨g5, 0, none⟩))]) (fun (s : Nat × Nat × Nat) => [.own (.slice (some ⟨s.2.1, 0, none⟩) (33 + s.1) s.2.2) (33 + s.1) 5 1 (bc ((t :: a.1) ++ b.1.take s.1)), .blk g5 b.cells 39]) (fun (s : Nat × Nat × Nat) => 32 - s.1) (0, g, c) ((show 0 ≤ 32 by omega)) ⟨rfl, rfl, rfl, trivial⟩ (same) ?_
    rintro ⟨k, g, c⟩ hk
    dsimp only at hk ⊢
    refine h_seq ?_
    refine h_seq ?_
    refine h_reg ?_
    refine h_op (r_move rfl) ?_
    refine h_op (r_lss rfl rfl) ?_
    refine h_nil ?_
    refine q_then ?_
    refine h_cond rfl (fun h => ?_) (fun h => ?_)
    · have hs := snocB (t :: a.1) b.1 k (by omega)
      refine h_skip ?_
      refine q_then ?_
      refine h_seq ?_
      refine h_block ?_
      refine h_reg ?_
      refine h_op (r_move rfl) ?_
      refine h_op (r_move rfl) ?_
      refine h_op (r_idxA rfl rfl) ?_
      refine h_op (r_nth rfl (bc_at' (by omega))) ?_
      refine h_opX (x_bsl rfl rfl) fun g30 => ?_
      refine h_opX (x_app1B rfl rfl) fun ⟨g31, c31⟩ => ?_
      refine h_op (r_assign rfl) ?_
      refine h_nil ?_
      refine q_block ?_
      refine q_then ?_
      refine h_reg ?_
      refine h_op (r_move rfl) ?_
      refine h_op (r_add rfl rfl) ?_
      refine h_op (r_assign rfl) ?_
      refine h_nil ?_
      rw [hs]
      exact h_back (k + 1, g31, c31) ((show k + 1 ≤ 32 by omega)) ((show 32 - (k + 1) < 32 - k by omega)) ⟨rfl, rfl, rfl, trivial⟩ (same)
    · obtain rfl : k = 32 := by omega
      rw [show (t :: a.1) ++ b.1.take 32 = t :: (a.1 ++ b.1) by rw [List.take_of_length_le (by omega)]; simp]
      refine h_exit ?_
      refine q_thenE ?_
      refine q_thenE ?_
      refine q_blockE ?_
      refine q_then ?_
      refine h_seq ?_
      refine h_reg ?_
      refine h_op (r_move rfl) ?_
      refine h_op (r_assign rfl) ?_
      refine h_nil ?_
      refine q_then ?_
      refine h_ret ?_
      exact h_ret1 rfl rfl fun w s => ⟨(g, c), rfl, s.res ((List.nil_sublist _).cons_cons _) (by simp [Fa.wr])⟩
theorem rLeaf_s (l : Leaf) : Spec Tryd.prog 62 [.agg l.cells.toArray].toArray [] [] (fun u : Nat × Nat => .slice (some ⟨u.1, 0, none⟩) (preL l).length u.2) (fun u => [.own (.slice (some ⟨u.1, 0, none⟩) (preL l).length u.2) (preL l).length 5 1 (bc (preL l))]) := by
  rw [preL_len]
  refine spec_of Tryd.func62 rfl (n := 8) rfl rfl ?_
  intro W
  refine h_seq ?_
  refine h_reg ?_
  refine h_opX (x_box rfl) fun g1 => ?_
  refine h_op (r_assign rfl) ?_
  refine h_nil ?_
  refine q_then ?_
  refine h_seq ?_
  refine h_reg ?_
  refine h_op (r_field rfl) ?_
  refine h_op (r_loadr rfl) ?_
  refine h_op (r_field rfl) ?_
  refine h_op (r_loadr rfl) ?_
  refine h_call ((two_s 0 l.key l.value).comes) rfl rfl rfl fun ⟨g, c⟩ => ?_
  dsimp only
  refine h_op (r_assign rfl) ?_
  refine h_nil ?_
  refine q_then ?_
  refine h_ret ?_
  exact h_ret1 rfl rfl fun w s => ⟨(g, c), rfl, s.res ((List.nil_sublist _).cons_cons _) (by simp [Fa.wr])⟩
theorem rNode_s (a b : B32) : Spec Tryd.prog 63 [.agg a.cells.toArray, .agg b.cells.toArray].toArray [] [] (fun u : Nat × Nat => .slice (some ⟨u.1, 0, none⟩) (preN a b).length u.2) (fun u => [.own (.slice (some ⟨u.1, 0, none⟩) (preN a b).length u.2) (preN a b).length 5 1 (bc (preN a b))]) := by
  rw [preN_len]
  refine spec_of Tryd.func63 rfl (n := 8) rfl rfl ?_
  intro W
  refine h_seq ?_
  refine h_reg ?_
  refine h_opX (x_box rfl) fun g2 => ?_
  refine h_opX (x_box rfl) fun g3 => ?_
  refine h_op (r_assign rfl) ?_
  refine h_nil ?_
  refine q_then ?_
  refine h_seq ?_
  refine h_reg ?_
  refine h_op (r_loadr rfl) ?_
  refine h_op (r_loadr rfl) ?_
  refine h_call ((two_s 1 a b).comes) rfl rfl rfl fun ⟨g, c⟩ => ?_
  dsimp only
  refine h_op (r_assign rfl) ?_
  refine h_nil ?_
  refine q_then ?_
  refine h_ret ?_
  exact h_ret1 rfl rfl fun w s => ⟨(g, c), rfl, s.res ((List.nil_sublist _).cons_cons _) (by simp [Fa.wr])⟩
theorem rEmpty_s (n : Nat) (hn : n ≤ 256) : Spec Tryd.prog 61 [.int .i64 (n : Int)].toArray [] [] (fun _ : Unit => .agg (sumB n preE).cells.toArray) (fun _ => []) := by
  refine spec_of Tryd.func61 rfl (n := 6) rfl rfl ?_
  intro W
  refine h_seq ?_
  refine h_reg ?_
  refine h_opX (x_alloc) fun g2 => ?_
  refine h_nil ?_
  refine q_then ?_
  refine h_seq ?_
  refine h_reg ?_
  refine h_op (r_move rfl) ?_
  refine h_opX (x_bsl rfl rfl) fun g4 => ?_
  change H _ _ _ _ _ (.own (.slice (some ⟨g4, 0, none⟩) 1 1) 1 _ _ (bc preE) :: _) _
  refine h_call ((refSum5_s n hn preE (some ⟨g4, 0, none⟩) 1 (fun h => by cases h) (by decide)).comes) rfl rfl rfl fun _ => ?_
  refine h_opS (s_storer rfl rfl) ?_
  refine h_nil ?_
  refine q_then ?_
  refine h_ret ?_
  exact h_ret1 rfl (rv_row rfl) fun w s => ⟨(), rfl, s.res (List.nil_sublist _) (by simp)⟩
theorem Rd.some {w : World} {B : Option Addr} {cs : List Value} (h : Rd w B cs) (hc : 0 < cs.length) : ∃ b o, B = some ⟨b, o, none⟩ := by
  obtain ⟨b, o, e, _⟩ := h 0 _ (List.getElem?_eq_getElem hc)
  exact ⟨b, o, e⟩
end Go.Proofs.YtgfkbeipckbkiaaDoor
/- U14 -/
namespace Go.Proofs.YtgfkbeipckbkiaaDoor
set_option linter.unusedSimpArgs false
set_option linter.unusedVariables false
open Go.RowKit
end Go.Proofs.YtgfkbeipckbkiaaDoor
/- U15 -/
namespace Go.Proofs.YtgfkbeipckbkiaaDoor
set_option linter.unusedSimpArgs false
set_option linter.unusedVariables false
open Go.RowKit
/-- the cells of some digests -/
def dgs (l : List B32) : List Value := l.flatMap B32.cells
theorem dgs_cons (x : B32) (l : List B32) : dgs (x :: l) = x.cells ++ dgs l := rfl
theorem dgs_append (l m : List B32) : dgs (l ++ m) = dgs l ++ dgs m := by simp [dgs]
theorem dgs_len (l : List B32) : (dgs l).length = l.length * 32 := by
  induction l with
  | nil => rfl
  | cons x l ih => rw [dgs_cons, List.length_append, B32.cells_length, ih, List.length_cons]; omega
theorem dgs_at {l : List B32} {k : Nat} (hk : k < l.length) : ∀ j v, (l.getD k zB32).cells[j]? = some v → (dgs l)[k * 32 + j]? = some v := by
  induction l generalizing k with
  | nil => cases hk
  | cons x l ih =>
    intro j v hv
    rw [dgs_cons]
    cases k with
    | zero =>
      rw [Nat.zero_mul, Nat.zero_add, List.getElem?_append_left (by have := (List.getElem?_eq_some_iff.1 hv).1; simpa using this)]
      exact hv
    | succ k =>
      rw [List.getElem?_append_right (by rw [B32.cells_length]; omega), B32.cells_length, show (k + 1) * 32 + j - 32 = k * 32 + j by omega]
      exact ih (by simpa using hk) j v hv
end Go.Proofs.YtgfkbeipckbkiaaDoor
/- TC -/
namespace Go.Proofs.YtgfkbeipckbkiaaDoor
set_option linter.unusedSimpArgs false
set_option linter.unusedVariables false
open Go.RowKit Go.ChangeShapes Go.WideShapes
section
variable {H : Type} {enc : TypeId × Value → H} {w : World} {base : Nat} {spare : Nat → Bool} {held : Bool} {v : Value} {d : DataW H} {ps : List MemPlace} {r : Reach} {b0 : Nat}
theorem c_int : Tryd.prog.cellsOf 3 = 1 := by kernel_rfl
theorem c_Digest : Tryd.prog.cellsOf 41 = 32 := by kernel_rfl
theorem c_Key : Tryd.prog.cellsOf 40 = 32 := by kernel_rfl
theorem c_Leaf : Tryd.prog.cellsOf 43 = 64 := by kernel_rfl
theorem c_u8 : Tryd.prog.cellsOf 5 = 1 := by kernel_rfl
theorem c_u32 : Tryd.prog.cellsOf 142 = 1 := by kernel_rfl
theorem c_u32x64 : Tryd.prog.cellsOf 170 = 64 := by kernel_rfl
end
theorem laidOut' : laidOutB Tryd.prog = true := by kernel_rfl
theorem own' : ownKnob Tryd.prog.godebug = none := by kernel_rfl
/-! the table -/
abbrev laidR : List (String × DataW Unit) := [("sparsetree/sha.rounds", Rows.laid_sparsetree_sha_rounds)]
theorem gRounds : Tryd.prog.globalNamed "sparsetree/sha.rounds" = some 1 := by kernel_rfl
theorem tRounds : (Tryd.prog.globals[1]?).map (·.type) = some 170 := by kernel_rfl
theorem door_met (os : Os) (args : Array Value) : laidMetH Tryd.prog laidR ((World.doorLaid Tryd.prog 14 os).forCall (fun _ _ => 0) ⟨#[], args, []⟩).memory :=
  laidMetH_of_parts3 (fuel := 8) (laidMet_of_run' 8 (by kernel_rfl) (by kernel_rfl)) (by kernel_rfl) (by kernel_rfl)
theorem table_of {W : World} (h : laidMetH Tryd.prog laidR W) : Rd W (some ⟨1, 0, none⟩) hashT := by
  rw [MakeChecks.laidMetH_plain _ _ _ (by kernel_rfl)] at h
  obtain ⟨ps, ⟨g0, t0, cs0, f0, p0, q0, hg0, ht0, hv0, hd0, _, _⟩, _, _⟩ := h
  obtain rfl := Option.some.inj (gRounds.symm.trans hg0)
  obtain rfl := Option.some.inj (tRounds.symm.trans ht0)
  have e : Rows.laid_sparsetree_sha_rounds (H := Unit) = .agg ((K64.map BitVec.toNat).map fun k : Nat => DataW.lit (.int .u32 (k : Int))) := by kernel_rfl
  rw [e] at hd0
  have h1 := words_of Tryd.underlying170 Tryd.underlying142 c_u32 c_u32x64 hd0
  intro j u hu
  refine ⟨1, 0, rfl, ?_⟩
  rw [Nat.zero_add, World.var?_cell hg0 hv0, ← Array.getElem?_toList, h1, ← hu]
  simp [wc]
  rfl
end Go.Proofs.YtgfkbeipckbkiaaDoor
/- N12 -/
namespace Go.Proofs.YtgfkbeipckbkiaaDoor
set_option linter.unusedSimpArgs false
set_option linter.unusedVariables false
open Go.RowKit
/-- a zone that began as all that there was: nothing below has turned -/
theorem zone_below {W w : World} {h1 : Zh} {N : List Fa} (hr : Rx [.zone true (World.zh W)] W w (.zone true h1 :: N)) (hl : LeZ (World.zh W) h1) : Below W.heap.size W w := by
  refine ⟨hr.os, hr.tape, hr.output, hr.size, fun k hk => ?_⟩
  obtain ⟨o, ho⟩ : ∃ o, W.heap[k]? = some o := ⟨_, Array.getElem?_eq_getElem hk⟩
  rw [ho]
  exact hr.ok (.zone true h1) (List.mem_cons_self ..) k o (hl.le k o ho)
theorem Fx.all (W : World) : Fx W [.zone true (World.zh W)] := ⟨fun f hf => by rw [List.mem_singleton.1 hf]; exact fun k o ho => ho, List.pairwise_singleton _ _⟩
end Go.Proofs.YtgfkbeipckbkiaaDoor
/- N13 -/
namespace Go.Proofs.YtgfkbeipckbkiaaDoor
set_option linter.unusedSimpArgs false
set_option linter.unusedVariables false
open Go.RowKit
end Go.Proofs.YtgfkbeipckbkiaaDoor
/- N14 -/
namespace Go.Proofs.YtgfkbeipckbkiaaDoor
set_option linter.unusedSimpArgs false
set_option linter.unusedVariables false
open Go.RowKit
class TIf (P : Program) (T : TypeId) : Prop where
  und : P.underlying T = some (.interface (P.methodsAt T))
section
variable {P : Program} {n : Nat} {D : List Deferred} {E : Env} {L : List Fa} {T T' : TypeId} {t : Nat}
theorem r_ifnil {u : TypeId} {v : Value} [hT : TIf P T] (hx : ev E (.tmp t) = some (.iface u v)) : Runs0 P n D E L (.binOp .eql T (.tmp t) (.const .nilIface) T') (.bool false) := fun a w ka s o ho =>
  run_bin ho (ka.ev hx) (v := .nilIface) rfl rfl (run_eql_held_nil w T u v hT.und)
theorem r_nilnil [hT : TIf P T] (hx : ev E (.tmp t) = some .nilIface) : Runs0 P n D E L (.binOp .eql T (.tmp t) (.const .nilIface) T') (.bool true) := fun a w ka s o ho =>
  run_bin ho (ka.ev hx) (v := .nilIface) rfl rfl (run_eql_nil_nil w T hT.und)
end
section
variable {A : List Fa} {W : World} {n : Nat} {D : List Deferred} {ro : Option Nat} {P : Program} {ops : List Oper} {Q : Exit → Act → World → Prop} {Lb Lr L : List Fa} {fuel : Nat} {listed : Array Bool} {E : Env}
variable {op : Op} {d : Nat} {ty : TypeId} {pos : String} {af : Array Edge} {g : Option (Nat × Bool)}
/-- a method of an interface value, called in a region that draws its order -/
theorem ho_CM (i : Nat) {x : Operand} {l : List Operand} {ts : Array TypeId} {f : FuncId} {T : TypeId} {u : Value} {name : String} {argv args : List Value} [MethT P T name f] {τ : Type} {v : τ → Value} {L' : τ → List Fa} (hi : ops[i]? = some ⟨some d, .call ⟨.invoke x name, l.toArray, ts⟩, ty, pos, af, g⟩) (hc : Comes P A W L f args.toArray v L') (hx : ev E x = some (.iface T u)) (ha : evs E l = some argv) (he : u :: argv = args) [hl : ∀ x, Rds (L' x) Lr]
    (hb : ∀ x w, Sx A W w (L' x) → Sx A W w Lb) (k : ∀ x, HA A W n D ro P ops Q Lb Lr fuel (listed.setIfInBounds i true) ((d, v x) :: E) (L' x)) (hd : Nat.blt d n = true := by exact rfl) (hg : wn ops.toArray E g = some true := by exact rfl) : HO A W n D ro P ops Q Lb Lr fuel listed E L i := fun a w ka s sr => by
  refine ho_mk hi (wn_run ka hg) (wpIn_ent (x_callM ka rfl hx ha) (he ▸ hc w s) ?_)
  rintro e w' ⟨y, rfl, hy⟩
  have h3 : Fx w' Lr := Fx.rds hy.toFx (hr := hl y)
  exact ⟨_, rfl, fun _ _ => ⟨hb y _ hy, h3⟩, k y _ _ (ka.put hd _) hy ⟨hb y _ hy, h3⟩⟩
end
end Go.Proofs.YtgfkbeipckbkiaaDoor
/- E14 -/
namespace Go.Proofs.YtgfkbeipckbkiaaDoor
set_option linter.unusedSimpArgs false
set_option linter.unusedVariables false
open Go.RowKit
inductive Sub where
  | one (x : Item)
  | two (l r : Sub)
/-- the subtree that items begin with, with at most d levels of inner nodes -/
def readM : Nat → List Item → Option (Sub × List Item)
  | _, [] => none
  | 0, x :: rest => if x.kind = 2 then none else some (.one x, rest)
  | d + 1, x :: rest => if x.kind = 2 then (readM d rest).bind fun p => (readM d p.2).bind fun q => some (.two p.1 q.1, q.2) else some (.one x, rest)

/-- the kind is one of the four -/
def kindOk (x : Item) : Bool := decide (0 ≤ x.kind) && decide (x.kind ≤ 3)
/-- fields that have no meaning are zero -/
def cleanItem (x : Item) : Bool := (x.kind == 3 || decide (x.digest = zB32)) && (x.kind == 1 || decide (x.leaf = zLeaf))
def parseM (l : List Item) : Except Int Sub :=
  if l.all kindOk then
    match readM 256 l with
    | some (t, []) => if l.all cleanItem then .ok t else .error 5
    | _ => .error 5
  else .error 7

theorem all_take {α : Type} (p : α → Bool) (l : List α) (k : Nat) (x : α) (h : l[k]? = some x) : (l.take (k + 1)).all p = ((l.take k).all p && p x) := by
  rw [List.take_add_one, h, List.all_append]
  simp
theorem readM_suffix : ∀ (d : Nat) (l : List Item) (t : Sub) (rest : List Item), readM d l = some (t, rest) → ∃ n, 0 < n ∧ n ≤ l.length ∧ rest = l.drop n
  | _, [], t, rest, h => by cases ‹Nat› <;> simp [readM] at h
  | 0, x :: l, t, rest, h => by
    simp only [readM] at h
    split at h
    · cases h
    · simp only [Option.some.injEq, Prod.mk.injEq] at h
      exact ⟨1, by omega, by simp, by simp [h.2]⟩
  | d + 1, x :: l, t, rest, h => by
    simp only [readM] at h
    split at h
    · obtain ⟨p, hp, h⟩ := Option.bind_eq_some_iff.1 h
      obtain ⟨q, hq, h⟩ := Option.bind_eq_some_iff.1 h
      obtain ⟨n, hn0, hn, e1⟩ := readM_suffix d l p.1 p.2 hp
      obtain ⟨m, hm0, hm, e2⟩ := readM_suffix d p.2 q.1 q.2 hq
      simp only [Option.some.injEq, Prod.mk.injEq] at h
      rw [e1, List.length_drop] at hm
      refine ⟨n + m + 1, by omega, by simp; omega, ?_⟩
      rw [← h.2, e2, e1, List.drop_drop]
      rfl
    · simp only [Option.some.injEq, Prod.mk.injEq] at h
      exact ⟨1, by omega, by simp, by simp [h.2]⟩
/-- the index behind what was read -/
def skipI (l : List Item) (r : Option (Sub × List Item)) : Int := match r with | none => -1 | some p => (l.length : Int) - p.2.length

def checkM (l : List Item) : Int := match parseM l with | .ok _ => 0 | .error c => c
/-- what the reference's Check computes -/
theorem checkM_eq (l : List Item) : checkM l = if l.all kindOk then (if l.all cleanItem then (if l.length = 0 ∨ skipI l (readM 256 l) ≠ l.length then 5 else 0) else 5) else 7 := by
  unfold checkM parseM
  by_cases h1 : l.all kindOk = true
  · rw [if_pos h1, if_pos h1]
    by_cases h2 : l.all cleanItem = true
    · rw [if_pos h2]
      cases h3 : readM 256 l with
      | none =>
        have : (skipI l none) ≠ (l.length : Int) := by simp only [skipI]; omega
        simp [this]
      | some p =>
        obtain ⟨t, rest⟩ := p
        obtain ⟨n, hn0, hn, e1⟩ := readM_suffix 256 l t rest h3
        cases rest with
        | nil =>
          have h0 : l.length ≠ 0 := by omega
          have hs : skipI l (some (t, [])) = l.length := by simp [skipI]
          simp [h2, h0, hs]
        | cons y rest =>
          have hs : skipI l (some (t, y :: rest)) ≠ l.length := by simp only [skipI, List.length_cons]; omega
          simp [hs]
    · have h2' : l.all cleanItem = false := by simpa using h2
      rw [if_neg h2]
      cases h3 : readM 256 l with
      | none => rfl
      | some p =>
        obtain ⟨t, rest⟩ := p
        cases rest <;> simp [h2']
  · rw [if_neg h1, if_neg h1]
end Go.Proofs.YtgfkbeipckbkiaaDoor
/- E10 -/
namespace Go.Proofs.YtgfkbeipckbkiaaDoor
set_option linter.unusedSimpArgs false
set_option linter.unusedVariables false
open Go.RowKit
end Go.Proofs.YtgfkbeipckbkiaaDoor
/- E11 -/
namespace Go.Proofs.YtgfkbeipckbkiaaDoor
set_option linter.unusedSimpArgs false
set_option linter.unusedVariables false
open Go.RowKit
/-- an entry: its key, where its value lies, its value -/
structure En where
  e : Entry
  val : List UInt8
abbrev En.key (x : En) : B32 := x.e.key
inductive Tr where
  | nil
  | leaf (k : B32) (v : List UInt8)
  | node (l r : Tr)
def Tr.cnt : Tr → Nat
  | .nil => 0
  | .leaf .. => 1
  | .node l r => l.cnt + r.cnt
def Tr.kind : Tr → Nat
  | .nil => 0
  | .leaf .. => 1
  | .node .. => 2
def Tr.lf : Tr → Option (B32 × List UInt8)
  | .leaf k v => some (k, v)
  | _ => none
def Tr.sub : Bool → Tr → Tr
  | false, .node l _ => l
  | true, .node _ r => r
  | _, _ => .nil
/-- the entries whose keys have a bit -/
def part (m : List En) (d : Nat) (b : Bool) : List En := m.filter fun e => bitAt e.key d == b
theorem part_le (m : List En) (d : Nat) (b : Bool) : (part m d b).length ≤ m.length := List.length_filter_le _ _
theorem part_mem {m : List En} {d : Nat} {b : Bool} {e : En} : e ∈ part m d b ↔ e ∈ m ∧ bitAt e.key d = b := by simp [part]
/-- different keys that have their first d bits in common -/
structure Alike (m : List En) (d : Nat) : Prop where
  nodup : (m.map En.key).Nodup
  same : ∀ e ∈ m, ∀ f ∈ m, ∀ i, i < d → bitAt e.key i = bitAt f.key i
theorem Alike.part {m : List En} {d : Nat} (h : Alike m d) (b : Bool) : Alike (part m d b) (d + 1) := by
  refine ⟨(h.nodup.sublist ((List.filter_sublist).map _)), fun e he f hf i hi => ?_⟩
  obtain ⟨he, hb⟩ := part_mem.1 he
  obtain ⟨hf, hb'⟩ := part_mem.1 hf
  rcases Nat.lt_or_ge i d with h1 | h1
  · exact h.same e he f hf i h1
  · obtain rfl : i = d := by omega
    rw [hb, hb']
theorem Alike.start {m : List En} (h : (m.map En.key).Nodup) : Alike m 0 := ⟨h, fun _ _ _ _ _ hi => by omega⟩
/-- at depth 256 one is left at most -/
theorem Alike.last {m : List En} {d : Nat} (h : Alike m d) (hd : 256 ≤ d) : m.length ≤ 1 := by
  match m, h with
  | [], _ => simp
  | [_], _ => simp
  | e :: f :: m, h =>
    have := bits_ext (a := e.key) (b := f.key) fun i hi => h.same e (by simp) f (by simp) i (by omega)
    have h1 := h.nodup
    simp [this] at h1
theorem Alike.lt {m : List En} {d : Nat} (h : Alike m d) (hm : 1 < m.length) : d < 256 := by
  rcases Nat.lt_or_ge d 256 with h1 | h1
  · exact h1
  · have := h.last h1; omega
/-- the tree of a map -/
def mkF : Nat → List En → Nat → Tr
  | 0, _, _ => .nil
  | f + 1, m, d => match m with
    | [] => .nil
    | [e] => .leaf e.key e.val
    | _ => .node (mkF f (part m d false) (d + 1)) (mkF f (part m d true) (d + 1))
def mkT (m : List En) (d : Nat) : Tr := mkF (257 - d) m d
theorem mkT_nil (d : Nat) : mkT [] d = .nil := by
  unfold mkT
  cases 257 - d <;> rfl
theorem mkT_one (e : En) {d : Nat} (h : d ≤ 256) : mkT [e] d = .leaf e.key e.val := by
  unfold mkT
  rw [show 257 - d = 256 - d + 1 by omega]
  rfl
theorem mkT_two {m : List En} {d : Nat} (h : 1 < m.length) (hd : d ≤ 256) : mkT m d = .node (mkT (part m d false) (d + 1)) (mkT (part m d true) (d + 1)) := by
  unfold mkT
  rw [show 257 - d = 257 - (d + 1) + 1 by omega]
  match m, h with
  | [], h => simp at h
  | [_], h => simp at h
  | _ :: _ :: _, _ => rfl
/-- an induction along the parts -/
theorem parts_ind {p : List En → Nat → Prop} (h0 : ∀ d, p [] d) (h1 : ∀ e d, d ≤ 256 → p [e] d) (h2 : ∀ m d, Alike m d → 1 < m.length → d < 256 → p (part m d false) (d + 1) → p (part m d true) (d + 1) → p m d) : ∀ (k : Nat) (m : List En) (d : Nat), 256 - d ≤ k → d ≤ 256 → Alike m d → p m d
  | k, m, d, hk, hd, ha => by
    match m, ha with
    | [], _ => exact h0 d
    | [e], _ => exact h1 e d hd
    | e :: f :: m, ha =>
      have hl : 1 < (e :: f :: m).length := by simp
      have hlt := ha.lt hl
      cases k with
      | zero => omega
      | succ k => exact h2 _ d ha hl hlt (parts_ind h0 h1 h2 k _ _ (by omega) (by omega) (ha.part false)) (parts_ind h0 h1 h2 k _ _ (by omega) (by omega) (ha.part true))
/-! the way of a key -/
/-- the subtrees beside the way -/
def sibs (k : B32) : Tr → Nat → List Tr
  | .node l r, d => if bitAt k d then l :: sibs k r (d + 1) else r :: sibs k l (d + 1)
  | _, _ => []
/-! maps that entries lead to -/
def cmpL : List UInt8 → List UInt8 → Int
  | x :: xs, y :: ys => if x < y then -1 else if y < x then 1 else cmpL xs ys
  | _, _ => 0
def cmpB (a b : B32) : Int := cmpL a.1 b.1
def remK (m : List En) (k : B32) : List En := m.filter fun e => decide (e.key ≠ k)
def insE (e : En) : List En → List En
  | [] => [e]
  | f :: m => if cmpB e.key f.key < 0 then e :: f :: m else f :: insE e m
def putM (m : List En) (e : En) : List En := insE e (remK m e.key)
def ofM (l : List En) : List En := l.foldl putM []
theorem insE_mem {e f : En} : ∀ {l : List En}, f ∈ insE e l ↔ f = e ∨ f ∈ l
  | [] => by simp [insE]
  | g :: l => by
    unfold insE
    split
    · simp
    · rw [List.mem_cons, insE_mem (l := l), List.mem_cons]
      constructor <;> (rintro (h | h | h) <;> simp_all)
theorem putM_mem {m : List En} {e f : En} (h : f ∈ putM m e) : f = e ∨ f ∈ m := (insE_mem.1 h).imp_right fun h => (List.mem_filter.1 h).1
theorem foldM_mem : ∀ (l m : List En) (f : En), f ∈ l.foldl putM m → f ∈ l ∨ f ∈ m
  | [], _, _, h => .inr h
  | e :: l, m, f, h => by
    rcases foldM_mem l _ f h with h | h
    · exact .inl (List.mem_cons_of_mem _ h)
    · rcases putM_mem h with rfl | h
      · exact .inl (List.mem_cons_self ..)
      · exact .inr h
theorem ofM_mem {l : List En} {f : En} (h : f ∈ ofM l) : f ∈ l := (foldM_mem l [] f h).elim id fun h => by cases h
end Go.Proofs.YtgfkbeipckbkiaaDoor
/- E12 -/
namespace Go.Proofs.YtgfkbeipckbkiaaDoor
set_option linter.unusedSimpArgs false
set_option linter.unusedVariables false
open Go.RowKit
def preV (v : List UInt8) : List UInt8 := 2 :: v
/-- the leaf of a key and a value -/
def leafOf (n : Nat) (k : B32) (v : List UInt8) : Leaf := ⟨k, sumB n (preV v)⟩
def dgT (n : Nat) : Tr → B32
  | .nil => sumB n preE
  | .leaf k v => sumB n (preL (leafOf n k v))
  | .node l r => sumB n (preN (dgT n l) (dgT n r))
/-- the root of a map -/
def rootM (n : Nat) (m : List En) (d : Nat) : B32 := dgT n (mkT m d)
theorem rootM_nil (n d : Nat) : rootM n [] d = sumB n preE := by unfold rootM; rw [mkT_nil]; rfl
theorem rootM_one (n : Nat) (e : En) {d : Nat} (h : d ≤ 256) : rootM n [e] d = sumB n (preL (leafOf n e.key e.val)) := by unfold rootM; rw [mkT_one e h]; rfl
theorem rootM_two (n : Nat) {m : List En} {d : Nat} (h : 1 < m.length) (hd : d ≤ 256) : rootM n m d = sumB n (preN (rootM n (part m d false) (d + 1)) (rootM n (part m d true) (d + 1))) := by unfold rootM; rw [mkT_two h hd]; rfl
/-! sets of depths -/
/-! the proof of a map for a key -/
def leafT (n : Nat) : Tr → Leaf
  | .leaf k v => leafOf n k v
  | _ => zLeaf
end Go.Proofs.YtgfkbeipckbkiaaDoor
/- UT -/
namespace Go.Proofs.YtgfkbeipckbkiaaDoor
set_option linter.unusedSimpArgs false
set_option linter.unusedVariables false
open Go.RowKit
/-- the hasher, its counter, the table of rounds -/
abbrev HR (gh gc n : Nat) : Fa := .rd (some ⟨gh, 0, none⟩) [.pointer (some ⟨gc, 0, none⟩), .int .i64 (n : Int)]
abbrev CN (gc k : Nat) : Fa := .blk gc [.int .i64 (k : Int)] 98
abbrev TBL : Fa := .rd (some ⟨1, 0, none⟩) hashT
/-- some bytes that a slice holds -/
class SlZ (h : Zh) (s : Sl) (b : List UInt8) : Prop where
  len : s.n = b.length
  cap : s.n ≤ s.c
  nil : s.A = none → s.n = 0 ∧ s.c = 0
  rd : RdZ h s.A (bc b)
theorem SlZ.mono {h h' : Zh} (hl : LeZ h h') {s : Sl} {b : List UInt8} (x : SlZ h s b) : SlZ h' s b := ⟨x.len, x.cap, x.nil, x.rd.mono hl⟩
def trZ (n : Nat) (h : Zh) : Tr → Option Addr → Prop
  | .nil, p => p = none
  | .leaf k b, p => ∃ g s, p = some ⟨g, 0, none⟩ ∧ RdZ h p (Nd.cells ⟨.iface 127 (.agg (NLeaf.cells ⟨leafOf n k b, s⟩).toArray), dgT n (.leaf k b)⟩) ∧ SlZ h s b
  | .node l r, p => ∃ g pl pr, p = some ⟨g, 0, none⟩ ∧ RdZ h p (Nd.cells ⟨.iface 131 (.agg (NInner.cells ⟨pl, pr, dgT n l, dgT n r, ((l.cnt + r.cnt : Nat) : Int)⟩).toArray), dgT n (.node l r)⟩) ∧ trZ n h l pl ∧ trZ n h r pr
theorem trZ.mono {n : Nat} {h h' : Zh} (hl : LeZ h h') : ∀ {t : Tr} {p : Option Addr}, trZ n h t p → trZ n h' t p
  | .nil, _, x => x
  | .leaf _ _, _, ⟨g, s, e, r, b⟩ => ⟨g, s, e, r.mono hl, b.mono hl⟩
  | .node _ _, _, ⟨g, pl, pr, e, r, x, y⟩ => ⟨g, pl, pr, e, r.mono hl, trZ.mono hl x, trZ.mono hl y⟩
/-- the tree that a pointer leads to -/
class TrZ (n : Nat) (h : Zh) (t : Tr) (p : Option Addr) : Prop where
  ok : trZ n h t p
instance (n : Nat) (h : Zh) : TrZ n h .nil none := ⟨rfl⟩
instance (priority := 10) (n : Nat) (h h' : Zh) (t : Tr) (p : Option Addr) [hl : LeZ h h'] [x : TrZ n h t p] : TrZ n h' t p := ⟨x.ok.mono hl⟩
instance (priority := 10) (h h' : Zh) (s : Sl) (b : List UInt8) [hl : LeZ h h'] [x : SlZ h s b] : SlZ h' s b := x.mono hl
/-- where a subtree's pointer stands -/
def subP (h : Zh) (b : Bool) : Option Addr → Option Addr
  | some ⟨g, 0, none⟩ => match h.cell g 0 with
    | some (.iface T (.agg cs)) => if T = 131 then (match cs[(if b then 1 else 0 : Nat)]? with | some (.pointer q) => q | _ => none) else none
    | _ => none
  | _ => none
theorem subP_node {h : Zh} {g : Nat} {x : NInner} {d : B32} (hr : RdZ h (some ⟨g, 0, none⟩) (Nd.cells ⟨.iface 131 (.agg x.cells.toArray), d⟩)) (b : Bool) : subP h b (some ⟨g, 0, none⟩) = if b then x.r else x.l := by
  have hc := hr.cell (j := 0) (v := .iface 131 (.agg x.cells.toArray)) rfl
  rw [Nat.zero_add] at hc
  have e : x.cells.toArray[(if b then 1 else 0 : Nat)]? = some (.pointer (if b then x.r else x.l)) := by cases b <;> simp [NInner.cells]
  unfold subP
  simp only [hc, if_true, e]
theorem subP_leaf {h : Zh} {g : Nat} {x : NLeaf} {d : B32} (hr : RdZ h (some ⟨g, 0, none⟩) (Nd.cells ⟨.iface 127 (.agg x.cells.toArray), d⟩)) (b : Bool) : subP h b (some ⟨g, 0, none⟩) = none := by
  have hc := hr.cell (j := 0) (v := .iface 127 (.agg x.cells.toArray)) rfl
  rw [Nat.zero_add] at hc
  have e : ¬ 127 = 131 := by decide
  unfold subP
  simp only [hc, if_neg e]
theorem trZ.sub {n : Nat} {h : Zh} {t : Tr} {p : Option Addr} (x : trZ n h t p) (b : Bool) : trZ n h (t.sub b) (subP h b p) := by
  rcases t with _ | ⟨kk, v⟩ | ⟨l, r⟩
  · obtain rfl : p = none := x
    cases b <;> rfl
  · obtain ⟨g, s, rfl, hr, _⟩ := x
    cases b <;> exact subP_leaf hr _
  · obtain ⟨g, pl, pr, rfl, hr, hl, hr2⟩ := x
    rw [subP_node hr]
    cases b
    · exact hl
    · exact hr2
instance (n : Nat) (h : Zh) (t : Tr) (p : Option Addr) (b : Bool) [x : TrZ n h t p] : TrZ n h (t.sub b) (subP h b p) := ⟨x.ok.sub b⟩
theorem TrZ.left {n : Nat} {h : Zh} {l r : Tr} {p : Option Addr} (x : TrZ n h (.node l r) p) : TrZ n h l (subP h false p) := ⟨x.ok.sub false⟩
theorem TrZ.right {n : Nat} {h : Zh} {l r : Tr} {p : Option Addr} (x : TrZ n h (.node l r) p) : TrZ n h r (subP h true p) := ⟨x.ok.sub true⟩
/-- the way of a key: its subtrees, their pointers -/
def wayK (key : B32) (t : Tr) : Nat → Tr
  | 0 => t
  | k + 1 => (wayK key t k).sub (bitAt key k)
def wayQ (h : Zh) (key : B32) (p : Option Addr) : Nat → Option Addr
  | 0 => p
  | k + 1 => subP h (bitAt key k) (wayQ h key p k)
theorem wayK_ok {n : Nat} {h : Zh} {t : Tr} {p : Option Addr} (x : trZ n h t p) (key : B32) : ∀ k, trZ n h (wayK key t k) (wayQ h key p k)
  | 0 => x
  | k + 1 => (wayK_ok x key k).sub _
instance (n : Nat) (h : Zh) (t : Tr) (p : Option Addr) (key : B32) (k : Nat) [x : TrZ n h t p] : TrZ n h (wayK key t k) (wayQ h key p k) := ⟨wayK_ok x.ok key k⟩
/-- the way ends at a depth -/
structure WayTo (key : B32) (t : Tr) (D : Nat) : Prop where
  le : D ≤ 256
  end_ : (wayK key t D).kind ≠ 2
  on : ∀ i, i < D → (wayK key t i).kind = 2
/-- how many digests the making of a tree takes -/
def Tr.cost : Tr → Nat
  | .nil => 0
  | .leaf .. => 2
  | .node l r => l.cost + r.cost + (if l.kind = 0 then 1 else 0) + (if r.kind = 0 then 1 else 0) + 1
instance (x : NInner) : RowAt x.cells 0 2 [.pointer x.l, .pointer x.r] := .mk' (pre := []) (post := x.dl.cells ++ (x.dr.cells ++ [.int .i64 x.n])) (by simp [NInner.cells]) rfl rfl
instance (x : NInner) : RowAt x.cells 2 64 (x.dl.cells ++ x.dr.cells) := .mk' (pre := [.pointer x.l, .pointer x.r]) (post := [.int .i64 x.n]) (by simp [NInner.cells]) rfl (by simp [B32.cells_length])
instance (x : NInner) (a b : Option Addr) : SetAt x.cells 0 [.pointer a, .pointer b] ({ x with l := a, r := b } : NInner).cells := .mk' (pre := []) (old := [.pointer x.l, .pointer x.r]) (post := x.dl.cells ++ (x.dr.cells ++ [.int .i64 x.n])) (by simp [NInner.cells]) (by simp [NInner.cells]) rfl rfl
instance (x : NInner) (a b : B32) : SetAt x.cells 2 (a.cells ++ b.cells) ({ x with dl := a, dr := b } : NInner).cells := .mk' (pre := [.pointer x.l, .pointer x.r]) (old := x.dl.cells ++ x.dr.cells) (post := [.int .i64 x.n]) (by simp [NInner.cells]) (by simp [NInner.cells]) rfl (by simp [B32.cells_length])
instance : TZ Tryd.prog 129 (zB32.cells ++ zB32.cells) := ⟨⟨.agg (zB32.cells ++ zB32.cells).toArray, by kernel_rfl, rfl⟩⟩
instance : TB Tryd.prog 129 (zB32.cells ++ zB32.cells) (plArr 32) := ⟨fun w ps cells h => run_build_array Tryd.underlying129 (z := (zB32.cells ++ zB32.cells).toArray) (n := 64) (by kernel_rfl) (s := 32) (by kernel_rfl) h⟩
instance (a b c : B32) : SetAt (a.cells ++ b.cells) 0 c.cells (c.cells ++ b.cells) := .mk' (pre := []) (old := a.cells) (post := b.cells) (by simp) (by simp) rfl (by rw [B32.cells_length, B32.cells_length])
instance (a b c : B32) : SetAt (a.cells ++ b.cells) 32 c.cells (a.cells ++ c.cells) := .mk' (pre := a.cells) (old := b.cells) (post := []) (by simp) (by simp) (B32.cells_length _) (by rw [B32.cells_length, B32.cells_length])
instance (a b : B32) : Row (a.cells ++ b.cells) 64 := ⟨by rw [List.length_append, B32.cells_length, B32.cells_length], fun v hv => (List.mem_append.1 hv).elim (B32.cells_one a v) (B32.cells_one b v)⟩
instance (a b : Option Addr) : Row [.pointer a, .pointer b] 2 := ⟨rfl, by simp [Value.oneCell']⟩
instance : TZero Tryd.prog 127 (.agg zNLeaf.cells.toArray) := ⟨fun w => by kernel_rfl⟩
instance : TZero Tryd.prog 131 (.agg zNInner.cells.toArray) := ⟨fun w => by kernel_rfl⟩
instance : MethT Tryd.prog 127 "sparsetree/node.preimage" 140 := ⟨fun v args w => by kernel_rfl⟩
instance : MethT Tryd.prog 131 "sparsetree/node.preimage" 141 := ⟨fun v args w => by kernel_rfl⟩
end Go.Proofs.YtgfkbeipckbkiaaDoor
/- U62 -/
namespace Go.Proofs.YtgfkbeipckbkiaaDoor
set_option linter.unusedSimpArgs false
set_option linter.unusedVariables false
open Go.RowKit
instance : TIf Tryd.prog 82 := ⟨by kernel_rfl⟩
def Sub.tag : Sub → TypeId
  | .one _ => 122
  | .two _ _ => 120
def Sub.val : Sub → Value
  | .one x => .agg x.cells.toArray
  | .two l r => .agg #[.iface l.tag l.val, .iface r.tag r.val]
def its (l : List Item) : List Value := l.flatMap Item.cells
theorem its_len (l : List Item) : (its l).length = l.length * 97 := by
  induction l with
  | nil => rfl
  | cons x l ih =>
    show (x.cells ++ its l).length = _
    rw [List.length_append, ih, Item.cells_length, List.length_cons]; omega
theorem its_cons (x : Item) (l : List Item) : its (x :: l) = x.cells ++ its l := rfl
theorem its_tail {h : Zh} {A : Option Addr} {x : Item} {l : List Item} {c : Nat} (hr : RdZ h A (its (x :: l))) (hc : l.length + 1 ≤ c) : RdZ h (cutA A c 1 97) (its l) := by
  rw [its_cons] at hr
  unfold cutA
  split
  · have : l = [] := List.eq_nil_of_length_eq_zero (by omega)
    rw [this]
    exact RdZ.nil _ _
  · refine ⟨fun j v hv => ?_⟩
    have h1 := hr.at_ (97 + j) v (by rw [List.getElem?_append_right (by rw [Item.cells_length]; omega), Item.cells_length, Nat.add_sub_cancel_left]; exact hv)
    obtain ⟨b, o, rfl, h2⟩ := h1
    exact ⟨b, o + 97, by simp [Addr.add_mid], by rw [Nat.add_assoc]; exact h2⟩
section
variable (h : Zh)
theorem read_nil (A : Option Addr) (c : Nat) (i : Int) : Spec Tryd.prog 67 [.slice A 0 c, .int .i64 i].toArray [.zone false h] [] (fun _ : Unit => .tuple #[.nilIface, .slice none 0 0]) (fun _ => []) := by
  refine spec_of Tryd.func67 rfl (n := 47) rfl rfl ?_
  intro W
  refine h_seq ?_
  refine h_reg ?_
  refine h_op (r_assign rfl) ?_
  refine h_op (r_assign rfl) ?_
  refine h_nil ?_
  refine q_then ?_
  refine h_seq ?_
  refine h_seq ?_
  refine h_reg ?_
  refine h_op (r_move rfl) ?_
  refine h_op (r_len rfl) ?_
  refine h_op (r_bool (r_eql rfl rfl) (show _ = true from rfl)) ?_
  refine h_nil ?_
  refine q_then ?_
  refine h_condT rfl ?_
  refine h_seq ?_
  refine h_reg ?_
  refine h_op (r_assign rfl) ?_
  refine h_op (r_assign rfl) ?_
  refine h_nil ?_
  refine q_then ?_
  refine h_ret ?_
  refine q_thenR ?_
  exact h_ret2 rfl rfl rfl fun w s => ⟨(), rfl, s.res (List.nil_sublist _) (by simp)⟩
theorem read_one (x : Item) (r : List Item) (hk : x.kind ≠ 2) (A : Option Addr) (c : Nat) (i : Int) [hr : RdZ h A (its (x :: r))] (hc : r.length + 1 ≤ c) : Spec Tryd.prog 67 [.slice A (r.length + 1) c, .int .i64 i].toArray [.zone false h] [] (fun _ : Unit => .tuple #[.iface (Sub.one x).tag (Sub.one x).val, .slice (cutA A c 1 97) r.length (c - 1)]) (fun _ => []) := by
  have h0 : 0 < (its (x :: r)).length := by rw [its_len, List.length_cons]; omega
  obtain ⟨b, o, rfl, -⟩ := hr.at_ 0 _ (List.getElem?_eq_getElem h0)
  have hx : ∀ j v, x.cells[j]? = some v → (its (x :: r))[0 + j]? = some v := fun j v hv => by rw [its_cons, Nat.zero_add, List.getElem?_append_left (List.getElem?_eq_some_iff.1 hv).1]; exact hv
  refine spec_of Tryd.func67 rfl (n := 47) rfl rfl ?_
  intro W
  refine h_seq ?_
  refine h_reg ?_
  refine h_op (r_assign rfl) ?_
  refine h_op (r_assign rfl) ?_
  refine h_nil ?_
  refine q_then ?_
  refine h_seq ?_
  refine h_seq ?_
  refine h_reg ?_
  refine h_op (r_move rfl) ?_
  refine h_op (r_len rfl) ?_
  refine h_op (r_bool (r_eql rfl rfl) (decide_eq_false (by omega))) ?_
  refine h_nil ?_
  refine q_then ?_
  refine h_condF rfl ?_
  refine h_skip ?_
  refine q_then ?_
  refine h_seq ?_
  refine ha_start [.zone false h] [] mixed (same) ?_
  refine ha_takeP 0 rfl (r_move rfl) ?_
  refine ha_takeP 1 rfl (r_idx rfl rfl) ?_
  refine ha_take 2 rfl (r_nthr rfl (out := x.cells) (Item.cells_length x) hx) ?_
  refine ha_takeP 3 rfl (r_move rfl) ?_
  refine ha_takeP 4 rfl (r_as (r_slL rfl rfl) (show _ = Value.slice (cutA (some ⟨b, o, none⟩) c 1 97) r.length (c - 1) by rw [Nat.add_sub_cancel])) ?_
  refine ha_one 5 ?_
  refine ho_X 5 rfl (rk (x_alloc)) (fun _ => same) fun g6 => ?_
  refine ha_one 6 ?_
  refine ho_S 6 rfl (s_storer rfl rfl) (same) ?_
  refine ha_takeP 7 rfl (r_assign rfl) ?_
  refine ha_done (by kernel_rfl) ?_
  refine q_then ?_
  refine h_seq ?_
  refine h_seq ?_
  refine h_reg ?_
  refine h_op (r_field rfl) ?_
  refine h_op (r_loadc rfl) ?_
  refine h_op (r_bool (r_neq rfl rfl) (decide_eq_true hk)) ?_
  refine h_nil ?_
  refine q_then ?_
  refine h_condT rfl ?_
  refine h_seq ?_
  refine h_reg ?_
  refine h_op (r_loadr rfl) ?_
  refine h_op (r_build rfl) ?_
  refine h_op (r_mkI rfl) ?_
  refine h_op (r_move rfl) ?_
  refine h_op (r_assign rfl) ?_
  refine h_op (r_assign rfl) ?_
  refine h_nil ?_
  refine q_then ?_
  refine h_ret ?_
  refine q_thenR ?_
  exact h_ret2 rfl rfl rfl fun w s => ⟨(), rfl, s.res (List.nil_sublist _) (by simp)⟩
theorem read_deep (x : Item) (r : List Item) (hk : x.kind = 2) (A : Option Addr) (c : Nat) (i : Int) (hi : 256 ≤ i) [hr : RdZ h A (its (x :: r))] (hc : r.length + 1 ≤ c) : Spec Tryd.prog 67 [.slice A (r.length + 1) c, .int .i64 i].toArray [.zone false h] [] (fun _ : Unit => .tuple #[.nilIface, .slice none 0 0]) (fun _ => []) := by
  have h0 : 0 < (its (x :: r)).length := by rw [its_len, List.length_cons]; omega
  obtain ⟨b, o, rfl, -⟩ := hr.at_ 0 _ (List.getElem?_eq_getElem h0)
  have hx : ∀ j v, x.cells[j]? = some v → (its (x :: r))[0 + j]? = some v := fun j v hv => by rw [its_cons, Nat.zero_add, List.getElem?_append_left (List.getElem?_eq_some_iff.1 hv).1]; exact hv
  refine spec_of Tryd.func67 rfl (n := 47) rfl rfl ?_
  intro W
  refine h_seq ?_
  refine h_reg ?_
  refine h_op (r_assign rfl) ?_
  refine h_op (r_assign rfl) ?_
  refine h_nil ?_
  refine q_then ?_
  refine h_seq ?_
  refine h_seq ?_
  refine h_reg ?_
  refine h_op (r_move rfl) ?_
  refine h_op (r_len rfl) ?_
  refine h_op (r_bool (r_eql rfl rfl) (decide_eq_false (by omega))) ?_
  refine h_nil ?_
  refine q_then ?_
  refine h_condF rfl ?_
  refine h_skip ?_
  refine q_then ?_
  refine h_seq ?_
  refine ha_start [.zone false h] [] mixed (same) ?_
  refine ha_takeP 0 rfl (r_move rfl) ?_
  refine ha_takeP 1 rfl (r_idx rfl rfl) ?_
  refine ha_take 2 rfl (r_nthr rfl (out := x.cells) (Item.cells_length x) hx) ?_
  refine ha_takeP 3 rfl (r_move rfl) ?_
  refine ha_takeP 4 rfl (r_as (r_slL rfl rfl) (show _ = Value.slice (cutA (some ⟨b, o, none⟩) c 1 97) r.length (c - 1) by rw [Nat.add_sub_cancel])) ?_
  refine ha_one 5 ?_
  refine ho_X 5 rfl (rk (x_alloc)) (fun _ => same) fun g6 => ?_
  refine ha_one 6 ?_
  refine ho_S 6 rfl (s_storer rfl rfl) (same) ?_
  refine ha_takeP 7 rfl (r_assign rfl) ?_
  refine ha_done (by kernel_rfl) ?_
  refine q_then ?_
  refine h_seq ?_
  refine h_seq ?_
  refine h_reg ?_
  refine h_op (r_field rfl) ?_
  refine h_op (r_loadc rfl) ?_
  refine h_op (r_bool (r_neq rfl rfl) (decide_eq_false (fun h => h hk))) ?_
  refine h_nil ?_
  refine q_then ?_
  refine h_condF rfl ?_
  refine h_skip ?_
  refine q_then ?_
  refine h_seq ?_
  refine h_seq ?_
  refine h_reg ?_
  refine h_op (r_move rfl) ?_
  refine h_op (r_bool (r_geq rfl rfl) (decide_eq_true (by omega))) ?_
  refine h_nil ?_
  refine q_then ?_
  refine h_condT rfl ?_
  refine h_seq ?_
  refine h_reg ?_
  refine h_op (r_assign rfl) ?_
  refine h_op (r_assign rfl) ?_
  refine h_nil ?_
  refine q_then ?_
  refine h_ret ?_
  refine q_thenR ?_
  exact h_ret2 rfl rfl rfl fun w s => ⟨(), rfl, s.res (List.nil_sublist _) (by simp)⟩
/-- what a call of read brings -/
def ReadS (d : Nat) (l : List Item) : Prop := ∀ (A : Option Addr) (c : Nat), RdZ h A (its l) → l.length ≤ c →
  match readM d l with
  | none => Spec Tryd.prog 67 [.slice A l.length c, .int .i64 (256 - (d : Int))].toArray [.zone false h] [] (fun _ : Unit => .tuple #[.nilIface, .slice none 0 0]) (fun _ => [])
  | some (t, r) => Spec Tryd.prog 67 [.slice A l.length c, .int .i64 (256 - (d : Int))].toArray [.zone false h] [] (fun y : {y : Option Addr × Nat // RdZ h y.1 (its r) ∧ r.length ≤ y.2} => .tuple #[.iface t.tag t.val, .slice y.1.1 r.length y.1.2]) (fun _ => [])
theorem read_no1 (x : Item) (r : List Item) (hk : x.kind = 2) (d : Nat) (hd : d < 256) (h1 : readM d r = none) (hS : ReadS h d r) (A : Option Addr) (c : Nat) [hr : RdZ h A (its (x :: r))] (hc : r.length + 1 ≤ c) : Spec Tryd.prog 67 [.slice A (r.length + 1) c, .int .i64 (256 - ((d + 1 : Nat) : Int))].toArray [.zone false h] [] (fun _ : Unit => .tuple #[.nilIface, .slice none 0 0]) (fun _ => []) := by
  have h0 : 0 < (its (x :: r)).length := by rw [its_len, List.length_cons]; omega
  have hT := hS _ _ (its_tail hr hc) (show r.length ≤ c - 1 by omega)
  rw [h1] at hT
  obtain ⟨b, o, rfl, -⟩ := hr.at_ 0 _ (List.getElem?_eq_getElem h0)
  have hx : ∀ j v, x.cells[j]? = some v → (its (x :: r))[0 + j]? = some v := fun j v hv => by rw [its_cons, Nat.zero_add, List.getElem?_append_left (List.getElem?_eq_some_iff.1 hv).1]; exact hv
  refine spec_of Tryd.func67 rfl (n := 47) rfl rfl ?_
  intro W
  refine h_seq ?_
  refine h_reg ?_
  refine h_op (r_assign rfl) ?_
  refine h_op (r_assign rfl) ?_
  refine h_nil ?_
  refine q_then ?_
  refine h_seq ?_
  refine h_seq ?_
  refine h_reg ?_
  refine h_op (r_move rfl) ?_
  refine h_op (r_len rfl) ?_
  refine h_op (r_bool (r_eql rfl rfl) (decide_eq_false (by omega))) ?_
  refine h_nil ?_
  refine q_then ?_
  refine h_condF rfl ?_
  refine h_skip ?_
  refine q_then ?_
  refine h_seq ?_
  refine ha_start [.zone false h] [] mixed (same) ?_
  refine ha_takeP 0 rfl (r_move rfl) ?_
  refine ha_takeP 1 rfl (r_idx rfl rfl) ?_
  refine ha_take 2 rfl (r_nthr rfl (out := x.cells) (Item.cells_length x) hx) ?_
  refine ha_takeP 3 rfl (r_move rfl) ?_
  refine ha_takeP 4 rfl (r_as (r_slL rfl rfl) (show _ = Value.slice (cutA (some ⟨b, o, none⟩) c 1 97) r.length (c - 1) by rw [Nat.add_sub_cancel])) ?_
  refine ha_one 5 ?_
  refine ho_X 5 rfl (rk (x_alloc)) (fun _ => same) fun g6 => ?_
  refine ha_one 6 ?_
  refine ho_S 6 rfl (s_storer rfl rfl) (same) ?_
  refine ha_takeP 7 rfl (r_assign rfl) ?_
  refine ha_done (by kernel_rfl) ?_
  refine q_then ?_
  refine h_seq ?_
  refine h_seq ?_
  refine h_reg ?_
  refine h_op (r_field rfl) ?_
  refine h_op (r_loadc rfl) ?_
  refine h_op (r_bool (r_neq rfl rfl) (decide_eq_false (fun h => h hk))) ?_
  refine h_nil ?_
  refine q_then ?_
  refine h_condF rfl ?_
  refine h_skip ?_
  refine q_then ?_
  refine h_seq ?_
  refine h_seq ?_
  refine h_reg ?_
  refine h_op (r_move rfl) ?_
  refine h_op (r_bool (r_geq rfl rfl) (decide_eq_false (by omega))) ?_
  refine h_nil ?_
  refine q_then ?_
  refine h_condF rfl ?_
  refine h_skip ?_
  refine q_then ?_
  refine h_seq ?_
  refine h_reg ?_
  refine h_opX (x_alloc) fun g8 => ?_
  refine h_nil ?_
  refine q_then ?_
  refine h_seq ?_
  refine h_seq ?_
  refine h_reg ?_
  refine h_op (r_move rfl) ?_
  refine h_nil ?_
  refine q_then ?_
  refine h_block ?_
  refine h_loop (fun (u : Unit) => True) (fun (u : Unit) => [(27, .int .i64 0), (8, .pointer (some ⟨g8, 0, none⟩)), (7, .slice (cutA (some ⟨b, o, none⟩) c 1 97) r.length (c - 1)), (1, .int .i64 (256 - ((d + 1 : Nat) : Int)))]) (fun (u : Unit) => [.blk g8 [.nilIface, .nilIface] 120, .zone false h]) (fun (u : Unit) => 0) () (trivial) ⟨rfl, rfl, rfl, rfl, trivial⟩ (same) ?_
  rintro ⟨⟩ -
  refine h_seq ?_
  refine h_reg ?_
  refine h_op (r_lss rfl rfl) ?_
  refine h_nil ?_
  refine q_then ?_
  refine h_seq ?_
  refine h_condT rfl ?_
  refine h_skip ?_
  refine q_then ?_
  refine h_seq ?_
  refine h_block ?_
  refine h_seq ?_
  refine h_reg ?_
  refine h_op (r_move rfl) ?_
  refine h_op (r_assign rfl) ?_
  refine h_nil ?_
  refine q_then ?_
  refine h_seq ?_
  refine h_reg ?_
  refine h_op (r_move rfl) ?_
  refine h_op (r_move rfl) ?_
  refine h_op (r_move rfl) ?_
  refine h_op (r_int (r_add rfl rfl) (show _ = 256 - (d : Int) by omega)) ?_
  refine h_call (hT.comes) rfl rfl rfl fun _ => ?_
  refine h_op (r_move rfl) ?_
  refine h_op (r_extract rfl rfl) ?_
  refine h_op (r_extract rfl rfl) ?_
  refine h_op (r_idxA rfl rfl) ?_
  refine h_opS (s_store rfl rfl rfl) ?_
  refine h_op (r_assign rfl) ?_
  refine h_nil ?_
  refine q_then ?_
  refine h_seq ?_
  refine h_reg ?_
  refine h_op (r_move rfl) ?_
  refine h_op (r_idxA rfl rfl) ?_
  refine h_op (r_loadc rfl) ?_
  refine h_op (r_nilnil rfl) ?_
  refine h_nil ?_
  refine q_then ?_
  refine h_condT rfl ?_
  refine h_seq ?_
  refine h_reg ?_
  refine h_op (r_assign rfl) ?_
  refine h_op (r_assign rfl) ?_
  refine h_nil ?_
  refine q_then ?_
  refine h_ret ?_
  refine q_blockR ?_
  refine q_thenR ?_
  refine q_thenR ?_
  refine q_blockR ?_
  refine q_thenR ?_
  exact h_ret2 rfl rfl rfl fun w s => ⟨(), rfl, s.res (List.nil_sublist _) (by simp)⟩
theorem read_no2 (x : Item) (r r1 : List Item) (t1 : Sub) (hk : x.kind = 2) (d : Nat) (hd : d < 256) (h1 : readM d r = some (t1, r1)) (h2 : readM d r1 = none) (hS : ReadS h d r) (hS1 : ReadS h d r1) (A : Option Addr) (c : Nat) [hr : RdZ h A (its (x :: r))] (hc : r.length + 1 ≤ c) : Spec Tryd.prog 67 [.slice A (r.length + 1) c, .int .i64 (256 - ((d + 1 : Nat) : Int))].toArray [.zone false h] [] (fun _ : Unit => .tuple #[.nilIface, .slice none 0 0]) (fun _ => []) := by
  have hT2 : ∀ A c, RdZ h A (its r1) → r1.length ≤ c → Spec Tryd.prog 67 [.slice A r1.length c, .int .i64 (256 - (d : Int))].toArray [.zone false h] [] (fun _ : Unit => .tuple #[.nilIface, .slice none 0 0]) (fun _ => []) := fun A c a b => by
    have := hS1 A c a b
    rw [h2] at this
    exact this
  have h0 : 0 < (its (x :: r)).length := by rw [its_len, List.length_cons]; omega
  have hz0 := its_tail hr hc
  have hT1 : ∀ A c, RdZ h A (its r) → r.length ≤ c → Spec Tryd.prog 67 [.slice A r.length c, .int .i64 (256 - (d : Int))].toArray [.zone false h] [] (fun y : {y : Option Addr × Nat // RdZ h y.1 (its r1) ∧ r1.length ≤ y.2} => .tuple #[.iface t1.tag t1.val, .slice y.1.1 r1.length y.1.2]) (fun _ => []) := fun A c a b => by
    have := hS A c a b
    rw [h1] at this
    exact this
  obtain ⟨b, o, rfl, -⟩ := hr.at_ 0 _ (List.getElem?_eq_getElem h0)
  have hx : ∀ j v, x.cells[j]? = some v → (its (x :: r))[0 + j]? = some v := fun j v hv => by rw [its_cons, Nat.zero_add, List.getElem?_append_left (List.getElem?_eq_some_iff.1 hv).1]; exact hv
  refine spec_of Tryd.func67 rfl (n := 47) rfl rfl ?_
  intro W
  refine h_seq ?_
  refine h_reg ?_
  refine h_op (r_assign rfl) ?_
  refine h_op (r_assign rfl) ?_
  refine h_nil ?_
  refine q_then ?_
  refine h_seq ?_
  refine h_seq ?_
  refine h_reg ?_
  refine h_op (r_move rfl) ?_
  refine h_op (r_len rfl) ?_
  refine h_op (r_bool (r_eql rfl rfl) (decide_eq_false (by omega))) ?_
  refine h_nil ?_
  refine q_then ?_
  refine h_condF rfl ?_
  refine h_skip ?_
  refine q_then ?_
  refine h_seq ?_
  refine ha_start [.zone false h] [] mixed (same) ?_
  refine ha_takeP 0 rfl (r_move rfl) ?_
  refine ha_takeP 1 rfl (r_idx rfl rfl) ?_
  refine ha_take 2 rfl (r_nthr rfl (out := x.cells) (Item.cells_length x) hx) ?_
  refine ha_takeP 3 rfl (r_move rfl) ?_
  refine ha_takeP 4 rfl (r_as (r_slL rfl rfl) (show _ = Value.slice (cutA (some ⟨b, o, none⟩) c 1 97) r.length (c - 1) by rw [Nat.add_sub_cancel])) ?_
  refine ha_one 5 ?_
  refine ho_X 5 rfl (rk (x_alloc)) (fun _ => same) fun g6 => ?_
  refine ha_one 6 ?_
  refine ho_S 6 rfl (s_storer rfl rfl) (same) ?_
  refine ha_takeP 7 rfl (r_assign rfl) ?_
  refine ha_done (by kernel_rfl) ?_
  refine q_then ?_
  refine h_seq ?_
  refine h_seq ?_
  refine h_reg ?_
  refine h_op (r_field rfl) ?_
  refine h_op (r_loadc rfl) ?_
  refine h_op (r_bool (r_neq rfl rfl) (decide_eq_false (fun h => h hk))) ?_
  refine h_nil ?_
  refine q_then ?_
  refine h_condF rfl ?_
  refine h_skip ?_
  refine q_then ?_
  refine h_seq ?_
  refine h_seq ?_
  refine h_reg ?_
  refine h_op (r_move rfl) ?_
  refine h_op (r_bool (r_geq rfl rfl) (decide_eq_false (by omega))) ?_
  refine h_nil ?_
  refine q_then ?_
  refine h_condF rfl ?_
  refine h_skip ?_
  refine q_then ?_
  refine h_seq ?_
  refine h_reg ?_
  refine h_opX (x_alloc) fun g8 => ?_
  refine h_nil ?_
  refine q_then ?_
  refine h_seq ?_
  refine h_seq ?_
  refine h_reg ?_
  refine h_op (r_move rfl) ?_
  refine h_nil ?_
  refine q_then ?_
  refine h_block ?_
  refine h_loop (fun (s : Nat × Value × List Item × Option Addr × Nat) => (s.1 = 0 ∧ s.2.1 = .nilIface ∧ s.2.2.1 = r ∧ RdZ h s.2.2.2.1 (its r) ∧ r.length ≤ s.2.2.2.2) ∨ (s.1 = 1 ∧ s.2.1 = .iface t1.tag t1.val ∧ s.2.2.1 = r1 ∧ RdZ h s.2.2.2.1 (its r1) ∧ r1.length ≤ s.2.2.2.2)) (fun (s : Nat × Value × List Item × Option Addr × Nat) => [(27, .int .i64 (s.1 : Int)), (8, .pointer (some ⟨g8, 0, none⟩)), (7, .slice s.2.2.2.1 s.2.2.1.length s.2.2.2.2), (1, .int .i64 (256 - ((d + 1 : Nat) : Int)))]) (fun (s : Nat × Value × List Item × Option Addr × Nat) => [.blk g8 [s.2.1, .nilIface] 120, .zone false h]) (fun (s : Nat × Value × List Item × Option Addr × Nat) => 2 - s.1) (0, .nilIface, r, cutA (some ⟨b, o, none⟩) c 1 97, c - 1) ((.inl ⟨rfl, rfl, rfl, hz0, (show r.length ≤ c - 1 by omega)⟩)) ⟨rfl, rfl, rfl, rfl, trivial⟩ (same) ?_
  rintro ⟨i, v1, l, Ar, cr⟩ hp
  dsimp only at hp ⊢
  rcases hp with ⟨rfl, rfl, rfl, hz, hcr⟩ | ⟨rfl, rfl, rfl, hz, hcr⟩
  · refine h_seq ?_
    refine h_reg ?_
    refine h_op (r_lss rfl rfl) ?_
    refine h_nil ?_
    refine q_then ?_
    refine h_seq ?_
    refine h_condT rfl ?_
    refine h_skip ?_
    refine q_then ?_
    refine h_seq ?_
    refine h_block ?_
    refine h_seq ?_
    refine h_reg ?_
    refine h_op (r_move rfl) ?_
    refine h_op (r_assign rfl) ?_
    refine h_nil ?_
    refine q_then ?_
    refine h_seq ?_
    refine h_reg ?_
    refine h_op (r_move rfl) ?_
    refine h_op (r_move rfl) ?_
    refine h_op (r_move rfl) ?_
    refine h_op (r_int (r_add rfl rfl) (show _ = 256 - (d : Int) by omega)) ?_
    refine h_call ((hT1 Ar cr hz hcr).comes) rfl rfl rfl fun ⟨⟨A1, c1⟩, hz1, hc1⟩ => ?_
    dsimp only at hz1 hc1 ⊢
    refine h_op (r_move rfl) ?_
    refine h_op (r_extract rfl rfl) ?_
    refine h_op (r_extract rfl rfl) ?_
    refine h_op (r_idxA rfl rfl) ?_
    refine h_opS (s_store rfl rfl rfl) ?_
    refine h_op (r_assign rfl) ?_
    refine h_nil ?_
    refine q_then ?_
    refine h_seq ?_
    refine h_reg ?_
    refine h_op (r_move rfl) ?_
    refine h_op (r_idxA rfl rfl) ?_
    refine h_op (r_loadc rfl) ?_
    refine h_op (r_ifnil rfl) ?_
    refine h_nil ?_
    refine q_then ?_
    refine h_condF rfl ?_
    refine h_skip ?_
    refine q_block ?_
    refine q_then ?_
    refine h_reg ?_
    refine h_op (r_add rfl rfl) ?_
    refine h_op (r_move rfl) ?_
    refine h_nil ?_
    exact h_back (1, .iface t1.tag t1.val, r1, A1, c1) ((.inr ⟨rfl, rfl, rfl, hz1, hc1⟩)) ((show 2 - 1 < 2 - 0 by omega)) ⟨rfl, rfl, rfl, rfl, trivial⟩ (same)
  · refine h_seq ?_
    refine h_reg ?_
    refine h_op (r_lss rfl rfl) ?_
    refine h_nil ?_
    refine q_then ?_
    refine h_seq ?_
    refine h_condT rfl ?_
    refine h_skip ?_
    refine q_then ?_
    refine h_seq ?_
    refine h_block ?_
    refine h_seq ?_
    refine h_reg ?_
    refine h_op (r_move rfl) ?_
    refine h_op (r_assign rfl) ?_
    refine h_nil ?_
    refine q_then ?_
    refine h_seq ?_
    refine h_reg ?_
    refine h_op (r_move rfl) ?_
    refine h_op (r_move rfl) ?_
    refine h_op (r_move rfl) ?_
    refine h_op (r_int (r_add rfl rfl) (show _ = 256 - (d : Int) by omega)) ?_
    refine h_call ((hT2 Ar cr hz hcr).comes) rfl rfl rfl fun _ => ?_
    refine h_op (r_move rfl) ?_
    refine h_op (r_extract rfl rfl) ?_
    refine h_op (r_extract rfl rfl) ?_
    refine h_op (r_idxA rfl rfl) ?_
    refine h_opS (s_store rfl rfl rfl) ?_
    refine h_op (r_assign rfl) ?_
    refine h_nil ?_
    refine q_then ?_
    refine h_seq ?_
    refine h_reg ?_
    refine h_op (r_move rfl) ?_
    refine h_op (r_idxA rfl rfl) ?_
    refine h_op (r_loadc rfl) ?_
    refine h_op (r_nilnil rfl) ?_
    refine h_nil ?_
    refine q_then ?_
    refine h_condT rfl ?_
    refine h_seq ?_
    refine h_reg ?_
    refine h_op (r_assign rfl) ?_
    refine h_op (r_assign rfl) ?_
    refine h_nil ?_
    refine q_then ?_
    refine h_ret ?_
    refine q_blockR ?_
    refine q_thenR ?_
    refine q_thenR ?_
    refine q_blockR ?_
    refine q_thenR ?_
    exact h_ret2 rfl rfl rfl fun w s => ⟨(), rfl, s.res (List.nil_sublist _) (by simp)⟩
theorem read_yes2 (x : Item) (r r1 r2 : List Item) (t1 t2 : Sub) (hk : x.kind = 2) (d : Nat) (hd : d < 256) (h1 : readM d r = some (t1, r1)) (h2 : readM d r1 = some (t2, r2)) (hS : ReadS h d r) (hS1 : ReadS h d r1) (A : Option Addr) (c : Nat) [hr : RdZ h A (its (x :: r))] (hc : r.length + 1 ≤ c) : Spec Tryd.prog 67 [.slice A (r.length + 1) c, .int .i64 (256 - ((d + 1 : Nat) : Int))].toArray [.zone false h] [] (fun y : {y : Option Addr × Nat // RdZ h y.1 (its r2) ∧ r2.length ≤ y.2} => .tuple #[.iface (Sub.two t1 t2).tag (Sub.two t1 t2).val, .slice y.1.1 r2.length y.1.2]) (fun _ => []) := by
  have hT2 : ∀ A c, RdZ h A (its r1) → r1.length ≤ c → Spec Tryd.prog 67 [.slice A r1.length c, .int .i64 (256 - (d : Int))].toArray [.zone false h] [] (fun y : {y : Option Addr × Nat // RdZ h y.1 (its r2) ∧ r2.length ≤ y.2} => .tuple #[.iface t2.tag t2.val, .slice y.1.1 r2.length y.1.2]) (fun _ => []) := fun A c a b => by
    have := hS1 A c a b
    rw [h2] at this
    exact this
  have h0 : 0 < (its (x :: r)).length := by rw [its_len, List.length_cons]; omega
  have hz0 := its_tail hr hc
  have hT1 : ∀ A c, RdZ h A (its r) → r.length ≤ c → Spec Tryd.prog 67 [.slice A r.length c, .int .i64 (256 - (d : Int))].toArray [.zone false h] [] (fun y : {y : Option Addr × Nat // RdZ h y.1 (its r1) ∧ r1.length ≤ y.2} => .tuple #[.iface t1.tag t1.val, .slice y.1.1 r1.length y.1.2]) (fun _ => []) := fun A c a b => by
    have := hS A c a b
    rw [h1] at this
    exact this
  obtain ⟨b, o, rfl, -⟩ := hr.at_ 0 _ (List.getElem?_eq_getElem h0)
  have hx : ∀ j v, x.cells[j]? = some v → (its (x :: r))[0 + j]? = some v := fun j v hv => by rw [its_cons, Nat.zero_add, List.getElem?_append_left (List.getElem?_eq_some_iff.1 hv).1]; exact hv
  refine spec_of Tryd.func67 rfl (n := 47) rfl rfl ?_
  intro W
  refine h_seq ?_
  refine h_reg ?_
  refine h_op (r_assign rfl) ?_
  refine h_op (r_assign rfl) ?_
  refine h_nil ?_
  refine q_then ?_
  refine h_seq ?_
  refine h_seq ?_
  refine h_reg ?_
  refine h_op (r_move rfl) ?_
  refine h_op (r_len rfl) ?_
  refine h_op (r_bool (r_eql rfl rfl) (decide_eq_false (by omega))) ?_
  refine h_nil ?_
  refine q_then ?_
  refine h_condF rfl ?_
  refine h_skip ?_
  refine q_then ?_
  refine h_seq ?_
  refine ha_start [.zone false h] [] mixed (same) ?_
  refine ha_takeP 0 rfl (r_move rfl) ?_
  refine ha_takeP 1 rfl (r_idx rfl rfl) ?_
  refine ha_take 2 rfl (r_nthr rfl (out := x.cells) (Item.cells_length x) hx) ?_
  refine ha_takeP 3 rfl (r_move rfl) ?_
  refine ha_takeP 4 rfl (r_as (r_slL rfl rfl) (show _ = Value.slice (cutA (some ⟨b, o, none⟩) c 1 97) r.length (c - 1) by rw [Nat.add_sub_cancel])) ?_
  refine ha_one 5 ?_
  refine ho_X 5 rfl (rk (x_alloc)) (fun _ => same) fun g6 => ?_
  refine ha_one 6 ?_
  refine ho_S 6 rfl (s_storer rfl rfl) (same) ?_
  refine ha_takeP 7 rfl (r_assign rfl) ?_
  refine ha_done (by kernel_rfl) ?_
  refine q_then ?_
  refine h_seq ?_
  refine h_seq ?_
  refine h_reg ?_
  refine h_op (r_field rfl) ?_
  refine h_op (r_loadc rfl) ?_
  refine h_op (r_bool (r_neq rfl rfl) (decide_eq_false (fun h => h hk))) ?_
  refine h_nil ?_
  refine q_then ?_
  refine h_condF rfl ?_
  refine h_skip ?_
  refine q_then ?_
  refine h_seq ?_
  refine h_seq ?_
  refine h_reg ?_
  refine h_op (r_move rfl) ?_
  refine h_op (r_bool (r_geq rfl rfl) (decide_eq_false (by omega))) ?_
  refine h_nil ?_
  refine q_then ?_
  refine h_condF rfl ?_
  refine h_skip ?_
  refine q_then ?_
  refine h_seq ?_
  refine h_reg ?_
  refine h_opX (x_alloc) fun g8 => ?_
  refine h_nil ?_
  refine q_then ?_
  refine h_seq ?_
  refine h_seq ?_
  refine h_reg ?_
  refine h_op (r_move rfl) ?_
  refine h_nil ?_
  refine q_then ?_
  refine h_block ?_
  refine h_loop (fun (s : Nat × (Value × Value) × List Item × Option Addr × Nat) => (s.1 = 0 ∧ s.2.1 = (.nilIface, .nilIface) ∧ s.2.2.1 = r ∧ RdZ h s.2.2.2.1 (its r) ∧ r.length ≤ s.2.2.2.2) ∨ (s.1 = 1 ∧ s.2.1 = (.iface t1.tag t1.val, .nilIface) ∧ s.2.2.1 = r1 ∧ RdZ h s.2.2.2.1 (its r1) ∧ r1.length ≤ s.2.2.2.2) ∨ (s.1 = 2 ∧ s.2.1 = (.iface t1.tag t1.val, .iface t2.tag t2.val) ∧ s.2.2.1 = r2 ∧ RdZ h s.2.2.2.1 (its r2) ∧ r2.length ≤ s.2.2.2.2)) (fun (s : Nat × (Value × Value) × List Item × Option Addr × Nat) => [(27, .int .i64 (s.1 : Int)), (8, .pointer (some ⟨g8, 0, none⟩)), (7, .slice s.2.2.2.1 s.2.2.1.length s.2.2.2.2), (1, .int .i64 (256 - ((d + 1 : Nat) : Int)))]) (fun (s : Nat × (Value × Value) × List Item × Option Addr × Nat) => [.blk g8 [s.2.1.1, s.2.1.2] 120, .zone false h]) (fun (s : Nat × (Value × Value) × List Item × Option Addr × Nat) => 2 - s.1) (0, (.nilIface, .nilIface), r, cutA (some ⟨b, o, none⟩) c 1 97, c - 1) ((.inl ⟨rfl, rfl, rfl, hz0, (show r.length ≤ c - 1 by omega)⟩)) ⟨rfl, rfl, rfl, rfl, trivial⟩ (same) ?_
  rintro ⟨i, v1, l, Ar, cr⟩ hp
  dsimp only at hp ⊢
  rcases hp with ⟨rfl, rfl, rfl, hz, hcr⟩ | ⟨rfl, rfl, rfl, hz, hcr⟩ | ⟨rfl, rfl, rfl, hz, hcr⟩
  · refine h_seq ?_
    refine h_reg ?_
    refine h_op (r_lss rfl rfl) ?_
    refine h_nil ?_
    refine q_then ?_
    refine h_seq ?_
    refine h_condT rfl ?_
    refine h_skip ?_
    refine q_then ?_
    refine h_seq ?_
    refine h_block ?_
    refine h_seq ?_
    refine h_reg ?_
    refine h_op (r_move rfl) ?_
    refine h_op (r_assign rfl) ?_
    refine h_nil ?_
    refine q_then ?_
    refine h_seq ?_
    refine h_reg ?_
    refine h_op (r_move rfl) ?_
    refine h_op (r_move rfl) ?_
    refine h_op (r_move rfl) ?_
    refine h_op (r_int (r_add rfl rfl) (show _ = 256 - (d : Int) by omega)) ?_
    refine h_call ((hT1 Ar cr hz hcr).comes) rfl rfl rfl fun ⟨⟨A1, c1⟩, hz1, hc1⟩ => ?_
    dsimp only at hz1 hc1 ⊢
    refine h_op (r_move rfl) ?_
    refine h_op (r_extract rfl rfl) ?_
    refine h_op (r_extract rfl rfl) ?_
    refine h_op (r_idxA rfl rfl) ?_
    refine h_opS (s_store rfl rfl rfl) ?_
    refine h_op (r_assign rfl) ?_
    refine h_nil ?_
    refine q_then ?_
    refine h_seq ?_
    refine h_reg ?_
    refine h_op (r_move rfl) ?_
    refine h_op (r_idxA rfl rfl) ?_
    refine h_op (r_loadc rfl) ?_
    refine h_op (r_ifnil rfl) ?_
    refine h_nil ?_
    refine q_then ?_
    refine h_condF rfl ?_
    refine h_skip ?_
    refine q_block ?_
    refine q_then ?_
    refine h_reg ?_
    refine h_op (r_add rfl rfl) ?_
    refine h_op (r_move rfl) ?_
    refine h_nil ?_
    exact h_back (1, (.iface t1.tag t1.val, .nilIface), r1, A1, c1) ((.inr (.inl ⟨rfl, rfl, rfl, hz1, hc1⟩))) ((show 2 - 1 < 2 - 0 by omega)) ⟨rfl, rfl, rfl, rfl, trivial⟩ (same)
  · refine h_seq ?_
    refine h_reg ?_
    refine h_op (r_lss rfl rfl) ?_
    refine h_nil ?_
    refine q_then ?_
    refine h_seq ?_
    refine h_condT rfl ?_
    refine h_skip ?_
    refine q_then ?_
    refine h_seq ?_
    refine h_block ?_
    refine h_seq ?_
    refine h_reg ?_
    refine h_op (r_move rfl) ?_
    refine h_op (r_assign rfl) ?_
    refine h_nil ?_
    refine q_then ?_
    refine h_seq ?_
    refine h_reg ?_
    refine h_op (r_move rfl) ?_
    refine h_op (r_move rfl) ?_
    refine h_op (r_move rfl) ?_
    refine h_op (r_int (r_add rfl rfl) (show _ = 256 - (d : Int) by omega)) ?_
    refine h_call ((hT2 Ar cr hz hcr).comes) rfl rfl rfl fun ⟨⟨A1, c1⟩, hz1, hc1⟩ => ?_
    dsimp only at hz1 hc1 ⊢
    refine h_op (r_move rfl) ?_
    refine h_op (r_extract rfl rfl) ?_
    refine h_op (r_extract rfl rfl) ?_
    refine h_op (r_idxA rfl rfl) ?_
    refine h_opS (s_store rfl rfl rfl) ?_
    refine h_op (r_assign rfl) ?_
    refine h_nil ?_
    refine q_then ?_
    refine h_seq ?_
    refine h_reg ?_
    refine h_op (r_move rfl) ?_
    refine h_op (r_idxA rfl rfl) ?_
    refine h_op (r_loadc rfl) ?_
    refine h_op (r_ifnil rfl) ?_
    refine h_nil ?_
    refine q_then ?_
    refine h_condF rfl ?_
    refine h_skip ?_
    refine q_block ?_
    refine q_then ?_
    refine h_reg ?_
    refine h_op (r_add rfl rfl) ?_
    refine h_op (r_move rfl) ?_
    refine h_nil ?_
    exact h_back (2, (.iface t1.tag t1.val, .iface t2.tag t2.val), r2, A1, c1) ((.inr (.inr ⟨rfl, rfl, rfl, hz1, hc1⟩))) ((show 2 - 2 < 2 - 1 by omega)) ⟨rfl, rfl, rfl, rfl, trivial⟩ (same)
  · refine h_seq ?_
    refine h_reg ?_
    refine h_op (r_lss rfl rfl) ?_
    refine h_nil ?_
    refine q_then ?_
    refine h_seq ?_
    refine h_condF rfl ?_
    refine h_exit ?_
    refine q_thenE ?_
    refine q_thenE ?_
    refine q_blockE ?_
    refine q_then ?_
    refine h_seq ?_
    refine h_reg ?_
    refine h_op (r_loadr rfl) ?_
    refine h_op (r_mkI rfl) ?_
    refine h_op (r_move rfl) ?_
    refine h_op (r_assign rfl) ?_
    refine h_op (r_assign rfl) ?_
    refine h_nil ?_
    refine q_then ?_
    refine h_ret ?_
    exact h_ret2 rfl rfl rfl fun w s => ⟨⟨(Ar, cr), hz, hcr⟩, rfl, s.res (List.nil_sublist _) (by simp)⟩
theorem read_all : ∀ (d : Nat), d ≤ 256 → ∀ l : List Item, ReadS h d l
  | d, hd, [] => fun A c _ _ => by
    have : readM d [] = none := by cases d <;> rfl
    rw [this]
    exact read_nil h A c _
  | 0, hd, x :: r => fun A c hr hc => by
    unfold readM
    by_cases hk : x.kind = 2
    · rw [if_pos hk]
      exact read_deep h x r hk A c _ (by simp) hc
    · rw [if_neg hk]
      intro w hw hR
      exact (read_one h x r hk A c _ (hr := hr) hc w hw hR).mono fun e w' ⟨_, e1, e2⟩ => ⟨⟨(cutA A c 1 97, c - 1), its_tail hr hc, by have : r.length + 1 ≤ c := hc; dsimp only; omega⟩, e1, e2⟩
  | d + 1, hd, x :: r => fun A c hr hc => by
    have ih := fun l => read_all d (by omega) l
    unfold readM
    by_cases hk : x.kind = 2
    · rw [if_pos hk]
      cases h1 : readM d r with
      | none => exact read_no1 h x r hk d (by omega) h1 (ih r) A c hc
      | some p =>
        obtain ⟨t1, r1⟩ := p
        show match (readM d r1).bind fun q => some (Sub.two t1 q.1, q.2) with | none => _ | some (t, r) => _
        cases h2 : readM d r1 with
        | none => exact read_no2 h x r r1 t1 hk d (by omega) h1 h2 (ih r) (ih r1) A c hc
        | some q =>
          obtain ⟨t2, r2⟩ := q
          exact read_yes2 h x r r1 r2 t1 t2 hk d (by omega) h1 h2 (ih r) (ih r1) A c hc
    · rw [if_neg hk]
      intro w hw hR
      exact (read_one h x r hk A c _ (hr := hr) hc w hw hR).mono fun e w' ⟨_, e1, e2⟩ => ⟨⟨(cutA A c 1 97, c - 1), its_tail hr hc, by have : r.length + 1 ≤ c := hc; dsimp only; omega⟩, e1, e2⟩
end
end Go.Proofs.YtgfkbeipckbkiaaDoor
