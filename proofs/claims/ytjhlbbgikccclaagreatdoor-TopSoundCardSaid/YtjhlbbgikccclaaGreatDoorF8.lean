/- joined texts -/
import Derived.Test.YtjhlbbgikccclaaGreatDoorF7
import Derived.LaidMore
import Derived.Stop.Joined
set_option linter.all false
namespace Go.Proofs.YtjhlbbgikccclaaGreatDoor
section
open Go.RowKit
def dgs (l : List B32) : List Value := l.flatMap B32.cells
theorem VW (x : B32) (l : List B32) : dgs (x :: l) = x.cells ++ dgs l := rfl
theorem Yb (l m : List B32) : dgs (l ++ m) = dgs l ++ dgs m := by simp [dgs]
theorem VX (x : B32) : dgs [x] = x.cells := by simp [dgs]
theorem JI (l : List B32) : (dgs l).length = l.length * 32 := by
 induction l with
 | nil => rfl
 | cons x l ih => rw [VW, List.length_append, B32.cells_length, ih, List.length_cons]; omega
theorem QhC (l : List B32) : ∀ v ∈ dgs l, v.oneCell' = true := by
 intro v hv
 obtain ⟨x, _, hx⟩ := List.mem_flatMap.1 hv
 exact B32.cells_one x v hx
theorem VV {l : List B32} {k : Nat} (hk : k < l.length) : ∀ j v, (l.getD k QN).cells[j]? = some v → (dgs l)[k * 32 + j]? = some v := by
 induction l generalizing k with
 | nil => cases hk
 | cons x l ih =>
  intro j v hv
  rw [VW]
  cases k with
  | zero =>
   rw [Nat.zero_mul, Nat.zero_add, List.getElem?_append_left (by have := (List.getElem?_eq_some_iff.1 hv).1; simpa using this)]
   exact hv
  | succ k =>
   rw [List.getElem?_append_right (by rw [B32.cells_length]; omega), B32.cells_length, show (k + 1) * 32 + j - 32 = k * 32 + j by omega]
   exact ih (by simpa using hk) j v hv
theorem QhD (l : List B32) (k : Nat) (x : B32) (hk : k < l.length) : (dgs l).take (k * 32) ++ x.cells ++ (dgs l).drop (k * 32 + 32) = dgs (l.set k x) := by
 have h1 : l = l.take k ++ l[k] :: l.drop (k + 1) := by rw [← List.drop_eq_getElem_cons hk, List.take_append_drop]
 have hl : (dgs (l.take k)).length = k * 32 := by rw [JI, List.length_take]; congr 1; omega
 have h2 : dgs l = dgs (l.take k) ++ (l[k].cells ++ dgs (l.drop (k + 1))) := by conv => lhs; rw [h1, Yb, VW]
 rw [List.set_eq_take_append_cons_drop, if_pos hk, Yb, VW, h2]
 rw [List.take_append_of_le_length (by omega), List.take_of_length_le (by omega), ← hl, List.drop_append, List.drop_of_length_le (by omega), List.nil_append, show (dgs (l.take k)).length + 32 - (dgs (l.take k)).length = 32 by omega, List.drop_append, List.drop_of_length_le (by rw [B32.cells_length]; exact Nat.le_refl _), B32.cells_length, Nat.sub_self, List.drop_zero, List.nil_append, List.append_assoc]
theorem QkL (n : Nat) : dgs (List.replicate n QN) = List.replicate (n * 32) (.int .u8 0) := by
 have hz : QN.cells = List.replicate 32 (.int .u8 0) := by simp [B32.cells, QN, bc]
 induction n with
 | zero => rfl
 | succ n ih => rw [List.replicate_succ, VW, ih, hz, List.replicate_append_replicate]; congr 1; omega
theorem QfG (n : Nat) : (madeCells (Value.agg QN.cells.toArray).cells (n * 32)).toList = dgs (List.replicate n QN) := by
 rw [QkL]
 have hz : QN.cells = List.replicate 32 (.int .u8 0) := by simp [B32.cells, QN, bc]
 apply List.ext_getElem?
 intro j
 rw [List.getElem?_replicate]
 by_cases h : j < n * 32
 ·have hm : j % 32 < 32 := Nat.mod_lt _ (by decide)
  simp [-List.reduceReplicate, madeCells, h, Value.cells, hz, List.getElem?_replicate, hm]
 simp [madeCells, h, Value.cells]
section
variable {P : Program}
theorem QcV (w : World) (dT sT ty elem : TypeId) (g o dLen dCap size : Nat) (a : Addr) (sLen sCap : Nat) (cur : Array Value) (t : TypeId) (cs : List Value)
  (hu : P.underlying dT = some (.slice elem)) (hs : (P.info? elem).map (·.size) = some size)
  (hg : w.heap[g]? = some (.cells cur t (0, 0))) (hn : cs.length = Nat.min sLen dLen * size)
  (hsrc : ∀ j v, cs[j]? = some v → w.cell? (a.add j) = some v) (hfit : o + cs.length ≤ cur.size) (h1 : ∀ v ∈ cs, v.oneCell' = true) :
  (Builtin.copy_ #[dT, sT] ty #[.slice (some ⟨g, o, none⟩) dLen dCap, .slice (some a) sLen sCap]).run P w =
   .ok (goInt (Nat.min sLen dLen)) (w.setRow g (cur.toList.take o ++ cs ++ cur.toList.drop (o + cs.length)).toArray) := by
 have hl := run_loadCells_list (P := P) w a cs hsrc
 have hst := run_storeCells_at P g o t cs 0 cur w hg (by simpa using hfit) h1
 cases hq : P.info? elem with
 | none => simp [hq] at hs
 | some i =>
  have hi : i.size = size := by simpa [hq] using hs
  rw [hn] at hl
  simp [Builtin.copy_, run_underlying hu, Builtin.lenOf, Builtin.firstCells, sizeOf, typeInfo, hq, hi, hl, hst]
variable {A : List Fa} {W : World} {n : Nat} {D : List Deferred} {E : Env} {L M : List Fa} {x y : Operand}
theorem Vu {dT sT e g o dLen dCap N c size bytes m c' q b O : Nat} {z : Value} [E' : TS P dT e size bytes z] {xs cs xs' : List Value} (hd : ev E x = some (.slice (some ⟨g, o, none⟩) dLen dCap)) (hs : ev E y = some (.slice (some ⟨b, O, none⟩) m c')) [ht : TakeG g L N c e size xs M] (hR : ∀ w, Fx w L → Rd w (some ⟨b, O, none⟩) cs) (hq : Nat.min m dLen = q) (hl : cs.length = q * size) (hfit : o + cs.length ≤ xs.length) (h1 : ∀ u ∈ cs, u.oneCell' = true) (hx : xs.take o ++ cs ++ xs.drop (o + cs.length) = xs') :
  JO P A W n D E L (.call { callee := .builtin .copy, args := #[x, y], argTypes := #[dT, sT] }) (fun _ : Unit => .int .i64 (q : Int)) (fun _ => .own (.slice (some ⟨g, 0, none⟩) N c) N e size xs' :: M) := fun a w ka s o' hop => by
 have h2 := s.perm ht.perm
 have ho : w.ownsRow 0 e size (.slice (some ⟨g, 0, none⟩) N c) N xs := h2.ok (.own _ _ _ _ _) (List.mem_cons_self ..)
 obtain ⟨cur, hb, h3, h4, h5, h6⟩ := JT ho
 have hxl := ho.1
 have hcl : xs.length ≤ cur.length := by rw [← h6, List.length_take]; omega
 have hrun := QcV (P := P) w dT sT o'.type e g o dLen dCap size ⟨b, O, none⟩ m c' cur.toArray e cs E'.el.ht (ZB (E' := E')) hb (by rw [hq]; exact hl) (fun j v hv => by
  obtain ⟨b', O', e', hc⟩ := hR w s.toFx j v hv
  injection e' with e'
  injection e' with e1 e2
  subst e1 e2
  rw [Addr.add_mid]
  exact hc) (by simp; omega) h1
 have hbl : Below 0 w (w.setRow g (cur.toArray.toList.take o ++ cs ++ cur.toArray.toList.drop (o + cs.length)).toArray) := below_setRow (Below.refl 0 w) (Nat.zero_le _) _
 refine ⟨(), _, ?_, h2.turn rfl (fun k hk => .inl hk) (qC (setRow_heap w g _ _ e _ hb) ?_ h3 h4 ?_ ?_) hbl.os hbl.tape hbl.output hbl.size fun k _ hne => setRow_other w g k _ fun e => hne (show some g = some k by rw [e])⟩
 ·unfold execOp
  simp only [hop, resolve, invoke, builtin, ka.ev hd, ka.ev hs, List.map_toArray, List.map_cons, List.map_nil, Sem.run_bind, Sem.run_pure, Result.andThen_ok, hrun, hq]
  rfl
 ·rw [← hx, ← hxl]
  simp only [List.length_append, List.length_take, List.length_drop]
  omega
 ·simp only [List.length_append, List.length_take, List.length_drop]
  rw [← h5]
  omega
 have hc : cur = xs ++ cur.drop (N * size) := by rw [← h6, List.take_append_drop]
 rw [hc] at hcl ⊢
 generalize cur.drop (N * size) = rest at *
 simp only
 rw [List.take_append_of_le_length (show o ≤ xs.length by omega), List.drop_append_of_le_length hfit, ← List.append_assoc, ← hx]
 rw [List.take_append_of_le_length, List.take_of_length_le]
 ·simp only [List.length_append, List.length_take, List.length_drop]; omega
 simp only [List.length_append, List.length_take, List.length_drop]; omega
end
end
section
open Go.RowKit Go.ChangeShapes Go.WideShapes
section
variable {H : Type} {enc : TypeId × Value → H} {w : World} {base : Nat} {spare : Nat → Bool} {held : Bool} {v : Value} {d : DataW H} {ps : List MemPlace} {r : Reach} {b0 : Nat}
theorem Qr3 : Tryz.prog.cellsOf 5 = 1 := by kernel_rfl
theorem QqZ : Tryz.prog.cellsOf 251 = 1 := by kernel_rfl
theorem Qk4 : Tryz.prog.cellsOf 391 = 64 := by kernel_rfl
end
theorem QfD : laidOutB Tryz.prog = true := by kernel_rfl
theorem QrC : ownKnob Tryz.prog.godebug = none := by kernel_rfl
abbrev Qlz : List (String × DataW Unit) := [("sparsetree/sha.rounds", Rows.laid_sparsetree_sha_rounds)]
theorem QnI : Tryz.prog.globalNamed "sparsetree/sha.rounds" = some 1 := by kernel_rfl
theorem QoJ : (Tryz.prog.globals[1]?).map (·.type) = some 391 := by kernel_rfl
theorem QmD {W : World} (h : laidMetH Tryz.prog Qlz W) : Rd W (some ⟨1, 0, none⟩) Jd := by
 rw [MakeChecks.laidMetH_plain _ _ _ (by kernel_rfl)] at h
 obtain ⟨ps, ⟨g0, t0, cs0, f0, p0, q0, hg0, ht0, hv0, hd0, _, _⟩, _, _⟩ := h
 obtain rfl := Option.some.inj (QnI.symm.trans hg0)
 obtain rfl := Option.some.inj (QoJ.symm.trans ht0)
 have e : Rows.laid_sparsetree_sha_rounds (H := Unit) = .agg ((K64.map BitVec.toNat).map fun k : Nat => DataW.lit (.int .u32 (k : Int))) := by kernel_rfl
 rw [e] at hd0
 have h1 := QmO Tryz.underlying391 Tryz.underlying251 QqZ Qk4 hd0
 intro j u hu
 refine ⟨1, 0, rfl, ?_⟩
 rw [Nat.zero_add, World.var?_cell hg0 hv0, ← Array.getElem?_toList, h1, ← hu]
 simp [wc]
 rfl
end
section
open Go.RowKit
def Vo (e : B32) (b : B32) (ss : List B32) : Nat → List B32
 | 0 => []
 | k + 1 => Vo e b ss k ++ [if Q4 b k then ss.getD (dep b k).length QN else e]
theorem VY (e : B32) (b : B32) (ss : List B32) : ∀ n, (Vo e b ss n).length = n
 | 0 => rfl
 | n + 1 => by rw [Vo, List.length_append, VY e b ss n]; rfl
theorem Qec (e : B32) (b : B32) (ss : List B32) : ∀ n, Vo e b ss n = (List.range n).map fun i => if Q4 b i then ss.getD (dep b i).length QN else e
 | 0 => rfl
 | n + 1 => by rw [Vo, Qec e b ss n, List.range_succ, List.map_append]; rfl
def Qcj (e : B32) (b : B32) (ss : List B32) (n j : Nat) : List B32 := (List.range n).map fun i => if Q4 b i = true ∧ (dep b i).length < j then ss.getD (dep b i).length QN else e
theorem Qfq (e : B32) (b : B32) (ss : List B32) (n j : Nat) : (Qcj e b ss n j).length = n := by simp [Qcj]
theorem QpL (e : B32) (b : B32) (ss : List B32) (n : Nat) : Qcj e b ss n 0 = List.replicate n e := by
 apply List.ext_getElem?
 intro i
 unfold Qcj
 rw [List.getElem?_map, List.getElem?_replicate]
 by_cases h : i < n
 ·rw [List.getElem?_range h, if_pos h]; simp
 rw [List.getElem?_eq_none (by simpa using h), if_neg h]; rfl
theorem QiK (b : B32) {i : Nat} (h : i < 256) : Jl b = dep b i ++ ((if Q4 b i then [i] else []) ++ ((List.range (255 - i)).map (i + 1 + ·)).filter (Q4 b)) := by
 unfold Jl dep
 have e : (256 : Nat) = (i + 1) + (255 - i) := by omega
 rw [e, List.range_add, List.filter_append, List.range_succ, List.filter_append, List.append_assoc]
 congr 2
 rw [List.filter_cons]
 split <;> rfl
theorem Qeb {b : B32} {i : Nat} (h : i < 256) (hb : Q4 b i = true) : (Jl b)[(dep b i).length]? = some i := by
 rw [QiK b h, if_pos hb, List.getElem?_append_right (Nat.le_refl _), Nat.sub_self]
 rfl
theorem QpH {b : B32} {i : Nat} (h : i < 256) (hb : Q4 b i = true) : (dep b i).length < (Jl b).length := (List.getElem?_eq_some_iff.1 (Qeb h hb)).1
theorem QhB {b : B32} {i j : Nat} (h : (Jl b)[j]? = some i) : i < 256 ∧ Q4 b i = true ∧ (dep b i).length = j := by
 have hm := List.mem_of_getElem? h
 unfold Jl at hm
 rw [List.mem_filter] at hm
 have hi : i < 256 := by simpa using hm.1
 refine ⟨hi, hm.2, ?_⟩
 have h2 := Qeb hi hm.2
 have hnd : (Jl b).Nodup := List.nodup_range.filter _
 obtain ⟨h3, h4⟩ := List.getElem?_eq_some_iff.1 h
 obtain ⟨h5, h6⟩ := List.getElem?_eq_some_iff.1 h2
 exact (List.getElem_inj hnd).1 (h6.trans h4.symm)
theorem QkY (e : B32) (b : B32) (ss : List B32) (n j : Nat) (hn : n ≤ 256) (hj : (Jl b).length ≤ j) : Qcj e b ss n j = Vo e b ss n := by
 rw [Qec]
 unfold Qcj
 apply List.map_congr_left
 intro i hi
 have hi : i < n := by simpa using hi
 by_cases hb : Q4 b i = true
 ·rw [if_pos ⟨hb, by have := QpH (b := b) (i := i) (by omega) hb; omega⟩, if_pos hb]
 rw [if_neg (fun h => hb h.1), if_neg hb]
theorem QkZ (e : B32) (b : B32) (ss : List B32) (n j : Nat) {i0 : Nat} (h : (Jl b)[j]? = some i0) (hn : n ≤ 256) (h0 : i0 < n) : (Qcj e b ss n j).set i0 (ss.getD j QN) = Qcj e b ss n (j + 1) := by
 obtain ⟨h1, h2, h3⟩ := QhB h
 apply List.ext_getElem?
 intro i
 rw [List.getElem?_set, Qfq]
 unfold Qcj
 by_cases e2 : i0 = i
 ·subst e2
  rw [if_pos rfl, if_pos h0, List.getElem?_map, List.getElem?_range h0, Option.map_some, if_pos ⟨h2, by omega⟩, h3]
 rw [if_neg e2, List.getElem?_map, List.getElem?_map]
 by_cases hi : i < n
 ·rw [List.getElem?_range hi, Option.map_some, Option.map_some]
  congr 1
  by_cases hb : Q4 b i = true
  ·have hne : (dep b i).length ≠ j := fun hj => by
    have := Qeb (b := b) (i := i) (by omega) hb
    rw [hj, h] at this
    injection this with this
    exact e2 this
   by_cases hl : (dep b i).length < j
   ·rw [if_pos ⟨hb, hl⟩, if_pos ⟨hb, by omega⟩]
   rw [if_neg (fun h => hl h.2), if_neg (fun h => by have := h.2; omega)]
  rw [if_neg (fun h => hb h.1), if_neg (fun h => hb h.1)]
 rw [List.getElem?_eq_none (by simpa using hi)]; rfl
theorem Qdy (b : B32) : ∀ (n i : Nat), i < n → Q4 b i = true → (i : Int) ≤ Yl b n
 | 0, i, h, _ => by omega
 | n + 1, i, h, hb => by
  rw [qN]
  by_cases hn : Q4 b n = true
  ·rw [if_pos hn]; omega
  rw [if_neg hn]
  have : i ≠ n := fun e => hn (e ▸ hb)
  exact Qdy b n i (by omega) hb
theorem Qa3 (b : B32) : Yl b 256 = match (Jl b).getLast? with | some i => (i : Int) | none => -1 := rfl
end
section
open Go.RowKit
structure En where
 e : Entry
 val : List UInt8
abbrev En.key (x : En) : B32 := x.e.key
inductive Tr where
 | nil
 | leaf (k : B32) (v : List UInt8)
 | node (l r : Tr)
def Tr.cnt : Tr → Nat
 | .nil => 0
 | .leaf .. => 1
 | .node l r => l.cnt + r.cnt
def Tr.kind : Tr → Nat
 | .nil => 0
 | .leaf .. => 1
 | .node .. => 2
def Tr.lf : Tr → Option (B32 × List UInt8)
 | .leaf k v => some (k, v)
 | _ => none
def Tr.sub : Bool → Tr → Tr
 | false, .node l _ => l
 | true, .node _ r => r
 | _, _ => .nil
def part (m : List En) (d : Nat) (b : Bool) : List En := m.filter fun e => Q4 e.key d == b
theorem Zf (m : List En) (d : Nat) : (part m d false).length + (part m d true).length = m.length := by
 unfold part
 induction m with
 | nil => rfl
 | cons e m ih =>
  cases hb : Q4 e.key d
  ·rw [List.filter_cons_of_pos (by simp [hb]), List.filter_cons_of_neg (by simp [hb]), List.length_cons, List.length_cons]; omega
  rw [List.filter_cons_of_neg (by simp [hb]), List.filter_cons_of_pos (by simp [hb]), List.length_cons, List.length_cons]; omega
theorem QbK (m : List En) (d : Nat) (b : Bool) : (part m d b).length ≤ m.length := List.length_filter_le _ _
theorem Yh {m : List En} {d : Nat} {b : Bool} {e : En} : e ∈ part m d b ↔ e ∈ m ∧ Q4 e.key d = b := by simp [part]
structure Alike (m : List En) (d : Nat) : Prop where
 nodup : (m.map En.key).Nodup
 same : ∀ e ∈ m, ∀ f ∈ m, ∀ i, i < d → Q4 e.key i = Q4 f.key i
theorem Alike.part {m : List En} {d : Nat} (h : Alike m d) (b : Bool) : Alike (part m d b) (d + 1) := by
 refine ⟨(h.nodup.sublist ((List.filter_sublist).map _)), fun e he f hf i hi => ?_⟩
 obtain ⟨he, hb⟩ := Yh.1 he
 obtain ⟨hf, hb'⟩ := Yh.1 hf
 rcases Nat.lt_or_ge i d with h1 | h1
 ·exact h.same e he f hf i h1
 obtain rfl : i = d := by omega
 rw [hb, hb']
theorem Alike.start {m : List En} (h : (m.map En.key).Nodup) : Alike m 0 := ⟨h, fun _ _ _ _ _ hi => by omega⟩
theorem Alike.last {m : List En} {d : Nat} (h : Alike m d) (hd : 256 ≤ d) : m.length ≤ 1 := by
 match m, h with
 | [], _ => simp
 | [_], _ => simp
 | e :: f :: m, h =>
  have := YJ (a := e.key) (b := f.key) fun i hi => h.same e (by simp) f (by simp) i (by omega)
  have h1 := h.nodup
  simp [this] at h1
theorem Alike.lt {m : List En} {d : Nat} (h : Alike m d) (hm : 1 < m.length) : d < 256 := by
 rcases Nat.lt_or_ge d 256 with h1 | h1
 ·exact h1
 have := h.last h1; omega
def mkF : Nat → List En → Nat → Tr
 | 0, _, _ => .nil
 | f + 1, m, d => match m with
  | [] => .nil
  | [e] => .leaf e.key e.val
  | _ => .node (mkF f (part m d false) (d + 1)) (mkF f (part m d true) (d + 1))
def mkT (m : List En) (d : Nat) : Tr := mkF (257 - d) m d
theorem Jx (d : Nat) : mkT [] d = .nil := by
 unfold mkT
 cases 257 - d <;> rfl
theorem J0 (e : En) {d : Nat} (h : d ≤ 256) : mkT [e] d = .leaf e.key e.val := by
 unfold mkT
 rw [show 257 - d = 256 - d + 1 by omega]
 rfl
theorem qZ {m : List En} {d : Nat} (h : 1 < m.length) (hd : d ≤ 256) : mkT m d = .node (mkT (part m d false) (d + 1)) (mkT (part m d true) (d + 1)) := by
 unfold mkT
 rw [show 257 - d = 257 - (d + 1) + 1 by omega]
 match m, h with
 | [], h => simp at h
 | [_], h => simp at h
 | _ :: _ :: _, _ => rfl
theorem qO (m : List En) {d : Nat} (hd : d ≤ 256) : (mkT m d).kind = min m.length 2 := by
 match m with
 | [] => rw [Jx]; rfl
 | [e] => rw [J0 e hd]; rfl
 | e :: f :: m => rw [qZ (by simp) hd]; simp [Tr.kind]
theorem Z1 {p : List En → Nat → Prop} (h0 : ∀ d, p [] d) (h1 : ∀ e d, d ≤ 256 → p [e] d) (h2 : ∀ m d, Alike m d → 1 < m.length → d < 256 → p (part m d false) (d + 1) → p (part m d true) (d + 1) → p m d) : ∀ (k : Nat) (m : List En) (d : Nat), 256 - d ≤ k → d ≤ 256 → Alike m d → p m d
 | k, m, d, hk, hd, ha => by
  match m, ha with
  | [], _ => exact h0 d
  | [e], _ => exact h1 e d hd
  | e :: f :: m, ha =>
   have hl : 1 < (e :: f :: m).length := by simp
   have hlt := ha.lt hl
   cases k with
   | zero => omega
   | succ k => exact h2 _ d ha hl hlt (Z1 h0 h1 h2 k _ _ (by omega) (by omega) (ha.part false)) (Z1 h0 h1 h2 k _ _ (by omega) (by omega) (ha.part true))
theorem Qa4 {m : List En} {d : Nat} (hd : d ≤ 256) (ha : Alike m d) : (mkT m d).cnt = m.length :=
 Z1 (p := fun m d => (mkT m d).cnt = m.length) (fun d => by rw [Jx]; rfl) (fun e d h => by rw [J0 e h]; rfl)
  (fun m d _ hm hd i1 i2 => by rw [qZ hm (by omega)]; show _ + _ = _; rw [i1, i2, Zf]) 256 m d (by omega) hd ha
def sibs (k : B32) : Tr → Nat → List Tr
 | .node l r, d => if Q4 k d then l :: sibs k r (d + 1) else r :: sibs k l (d + 1)
 | _, _ => []
def Qn4 (k : B32) : Nat → List En → Nat → List En × Nat
 | 0, m, d => (m, d)
 | f + 1, m, d => if m.length ≤ 1 then (m, d) else Qn4 k f (part m d (Q4 k d)) (d + 1)
def QgG (k : B32) (m : List En) (d : Nat) : List En × Nat := Qn4 k (257 - d) m d
theorem QkO {k : B32} {m : List En} {d : Nat} (h : m.length ≤ 1) : QgG k m d = (m, d) := by
 unfold QgG
 cases 257 - d with
 | zero => rfl
 | succ f => unfold Qn4; rw [if_pos h]
theorem QkP {k : B32} {m : List En} {d : Nat} (h : 1 < m.length) (hd : d ≤ 256) : QgG k m d = QgG k (part m d (Q4 k d)) (d + 1) := by
 unfold QgG
 rw [show 257 - d = 257 - (d + 1) + 1 by omega]
 conv => lhs; unfold Qn4
 rw [if_neg (by omega)]
def atM (k : B32) (m : List En) : Nat → List En
 | 0 => m
 | d + 1 => part (atM k m d) d (Q4 k d)
def Qm8 (k : B32) (m : List En) (d : Nat) : List En := part (atM k m d) d (!Q4 k d)
theorem Qdd {k : B32} {m : List En} (h : Alike m 0) : ∀ d, Alike (atM k m d) d
 | 0 => h
 | d + 1 => (Qdd h d).part _
theorem QhI {k : B32} {m : List En} (h : Alike m 0) : ∀ (j d : Nat), 256 - d ≤ j → d ≤ 256 → ∃ D, d ≤ D ∧ D ≤ 256 ∧ QgG k (atM k m d) d = (atM k m D, D) ∧ (atM k m D).length ≤ 1 ∧ ∀ i, d ≤ i → i < D → 1 < (atM k m i).length
 | j, d, hj, hd => by
  by_cases h1 : (atM k m d).length ≤ 1
  ·exact ⟨d, Nat.le_refl _, hd, QkO h1, h1, fun i a b => by omega⟩
  have hlt := (Qdd (k := k) h d).lt (by omega)
  cases j with
  | zero => omega
  | succ j =>
   obtain ⟨D, a1, a2, a3, a4, a5⟩ := QhI h j (d + 1) (by omega) (by omega)
   refine ⟨D, by omega, a2, by rw [QkP (by omega) hd]; exact a3, a4, fun i b1 b2 => ?_⟩
   rcases Nat.eq_or_lt_of_le b1 with e | e
   ·subst e; omega
   exact a5 i e b2
def VM : List UInt8 → List UInt8 → Int
 | x :: xs, y :: ys => if x < y then -1 else if y < x then 1 else VM xs ys
 | _, _ => 0
def JS (a b : B32) : Int := VM a.1 b.1
def Js (m : List En) (k : B32) : List En := m.filter fun e => decide (e.key ≠ k)
def qv (e : En) : List En → List En
 | [] => [e]
 | f :: m => if JS e.key f.key < 0 then e :: f :: m else f :: qv e m
def qQ (m : List En) (e : En) : List En := qv e (Js m e.key)
def ofM (l : List En) : List En := l.foldl qQ []
theorem Qaz {e x : En} : ∀ {l : List En}, (∃ f ∈ l, JS e.key f.key < 0) → qv e (l ++ [x]) = qv e l ++ [x]
 | [], h => by obtain ⟨f, hf, _⟩ := h; cases hf
 | g :: l, h => by
  by_cases h1 : JS e.key g.key < 0
  ·rw [List.cons_append, qv, qv, if_pos h1, if_pos h1]; rfl
  rw [List.cons_append, qv, qv, if_neg h1, if_neg h1, Qaz (l := l)]
  ·rfl
  obtain ⟨f, hf, h2⟩ := h
  rcases List.mem_cons.1 hf with rfl | hf
  ·exact (h1 h2).elim
  exact ⟨f, hf, h2⟩
theorem Qds {e : En} : ∀ {l : List En}, (∀ f ∈ l, ¬ JS e.key f.key < 0) → qv e l = l ++ [e]
 | [], _ => rfl
 | g :: l, h => by rw [qv, if_neg (h g (List.mem_cons_self ..)), Qds fun f hf => h f (List.mem_cons_of_mem _ hf)]; rfl
theorem ZK {e x : En} : ∀ {l : List En}, (∀ f ∈ l, ¬ JS e.key f.key < 0) → JS e.key x.key < 0 → qv e (l ++ [x]) = l ++ [e, x]
 | [], _, h => by rw [List.nil_append, qv, if_pos h]; rfl
 | g :: l, h, h' => by rw [List.cons_append, qv, if_neg (h g (List.mem_cons_self ..)), ZK (fun f hf => h f (List.mem_cons_of_mem _ hf)) h']; rfl
theorem Qct {e f : En} : ∀ {l : List En}, f ∈ qv e l ↔ f = e ∨ f ∈ l
 | [] => by simp [qv]
 | g :: l => by
  unfold qv
  split
  ·simp
  rw [List.mem_cons, Qct (l := l), List.mem_cons]
  constructor <;> (rintro (h | h | h) <;> simp_all)
theorem Qcs (e : En) : ∀ (l : List En), (qv e l).length = l.length + 1
 | [] => rfl
 | g :: l => by
  unfold qv
  split
  ·rfl
  rw [List.length_cons, Qcs e l]; rfl
theorem QfS {m : List En} {e f : En} (h : f ∈ qQ m e) : f = e ∨ f ∈ m := (Qct.1 h).imp_right fun h => (List.mem_filter.1 h).1
theorem QfR (m : List En) (e : En) : (qQ m e).length ≤ m.length + 1 := by
 unfold qQ
 rw [Qcs]
 have := List.length_filter_le (fun f => decide (f.key ≠ e.key)) m
 unfold Js
 omega
theorem Qdp : ∀ (l m : List En) (f : En), f ∈ l.foldl qQ m → f ∈ l ∨ f ∈ m
 | [], _, _, h => .inr h
 | e :: l, m, f, h => by
  rcases Qdp l _ f h with h | h
  ·exact .inl (List.mem_cons_of_mem _ h)
  rcases QfS h with rfl | h
  ·exact .inl (List.mem_cons_self ..)
  exact .inr h
theorem QnW {l : List En} {f : En} (h : f ∈ ofM l) : f ∈ l := (Qdp l [] f h).elim id fun h => by cases h
end
section
open Go.RowKit
def JK (v : List UInt8) : List UInt8 := 2 :: v
def Y0 (n : Nat) (k : B32) (v : List UInt8) : Leaf := ⟨k, Jj n (JK v)⟩
def dgT (n : Nat) : Tr → B32
 | .nil => Jj n Yw
 | .leaf k v => Jj n (YO (Y0 n k v))
 | .node l r => Jj n (YB (dgT n l) (dgT n r))
def Ve (l : List Nat) : B32 := ⟨(List.range 32).map fun k => UInt8.ofNat (((List.range 8).filter fun j => decide (8 * k + j ∈ l)).map fun j => 2 ^ (7 - j)).sum, by simp⟩
theorem Qk2 (p : Nat → Bool) : ∀ j, j < 8 → J6 (UInt8.ofNat (((List.range 8).filter p).map fun j => 2 ^ (7 - j)).sum) j = p j := by
 have key : ∀ (a b c d e f g h : Bool) (j : Nat), j < 8 → J6 (UInt8.ofNat (((List.range 8).filter fun i => [a, b, c, d, e, f, g, h].getD i false).map fun j => 2 ^ (7 - j)).sum) j = [a, b, c, d, e, f, g, h].getD j false := by decide +kernel
 intro j hj
 have hf : (List.range 8).filter p = (List.range 8).filter fun i => [p 0, p 1, p 2, p 3, p 4, p 5, p 6, p 7].getD i false := by
  apply List.filter_congr
  intro i hi
  have := List.mem_range.1 hi
  match i, this with
  | 0, _ | 1, _ | 2, _ | 3, _ | 4, _ | 5, _ | 6, _ | 7, _ => rfl
 rw [hf, key _ _ _ _ _ _ _ _ j hj]
 match j, hj with
 | 0, _ | 1, _ | 2, _ | 3, _ | 4, _ | 5, _ | 6, _ | 7, _ => rfl
theorem qm (l : List Nat) (i : Nat) (hi : i < 256) : Q4 (Ve l) i = decide (i ∈ l) := by
 unfold Q4 Ve
 simp only [List.getD_eq_getElem?_getD, List.getElem?_map]
 rw [List.getElem?_range (by omega)]
 simp only [Option.map_some, Option.getD_some]
 rw [Qk2 _ _ (by omega), Nat.div_add_mod]
theorem QkN : Ve [] = QN := YJ fun i hi => by rw [qm _ i hi, qa]; simp
theorem QiM (l : List Nat) (i : Nat) (hi : i < 256) (hn : i ∉ l) : JJ (Ve l) i = Ve (l ++ [i]) := YJ fun k hk => by
 rw [qJ _ _ _ hi hk, qm _ k hk, qm _ k hk, qm _ i hi]
 by_cases h : k = i
 ·subst h; simp [hn]
 simp [h]
theorem Qfj {l : List Nat} (h1 : l.Pairwise (· < ·)) (h2 : ∀ i ∈ l, i < 256) : Jl (Ve l) = l := by
 have : Jl (Ve l) = (List.range 256).filter fun i => decide (i ∈ l) := by
  apply List.filter_congr
  intro i hi
  exact qm l i (List.mem_range.1 hi)
 rw [this]
 apply List.Perm.eq_of_pairwise (le := fun a b : Nat => a < b) (fun a b _ _ h h' => by omega)
 ·exact (List.pairwise_lt_range).filter _
 ·exact h1
 rw [List.perm_ext_iff_of_nodup ((List.nodup_range).filter _) (h1.imp (fun h => Nat.ne_of_lt h))]
 intro i
 simp only [List.mem_filter, List.mem_range, decide_eq_true_eq]
 exact ⟨fun h => h.2, fun h => ⟨h2 i h, h⟩⟩
def qY (n : Nat) : Tr → Leaf
 | .leaf k v => Y0 n k v
 | _ => Yi
end
section
open Go.RowKit
abbrev HR (gh gc n : Nat) : Fa := .rd (some ⟨gh, 0, none⟩) [.pointer (some ⟨gc, 0, none⟩), .int .i64 (n : Int)]
abbrev CN (gc k : Nat) : Fa := .blk gc [.int .i64 (k : Int)] 272
abbrev TBL : Fa := .rd (some ⟨1, 0, none⟩) Jd
class SlZ (h : Zh) (s : Sl) (b : List UInt8) : Prop where
 len : s.n = b.length
 cap : s.n ≤ s.c
 nil : s.A = none → s.n = 0 ∧ s.c = 0
 rd : RdZ h s.A (bc b)
theorem SlZ.mono {h h' : Zh} (hl : LeZ h h') {s : Sl} {b : List UInt8} (x : SlZ h s b) : SlZ h' s b := ⟨x.len, x.cap, x.nil, x.rd.mono hl⟩
def trZ (n : Nat) (h : Zh) : Tr → Option Addr → Prop
 | .nil, p => p = none
 | .leaf k b, p => ∃ g s, p = some ⟨g, 0, none⟩ ∧ RdZ h p (Nd.cells ⟨.iface 281 (.agg (NLeaf.cells ⟨Y0 n k b, s⟩).toArray), dgT n (.leaf k b)⟩) ∧ SlZ h s b
 | .node l r, p => ∃ g pl pr, p = some ⟨g, 0, none⟩ ∧ RdZ h p (Nd.cells ⟨.iface 181 (.agg (NInner.cells ⟨pl, pr, dgT n l, dgT n r, ((l.cnt + r.cnt : Nat) : Int)⟩).toArray), dgT n (.node l r)⟩) ∧ trZ n h l pl ∧ trZ n h r pr
theorem trZ.mono {n : Nat} {h h' : Zh} (hl : LeZ h h') : ∀ {t : Tr} {p : Option Addr}, trZ n h t p → trZ n h' t p
 | .nil, _, x => x
 | .leaf _ _, _, ⟨g, s, e, r, b⟩ => ⟨g, s, e, r.mono hl, b.mono hl⟩
 | .node _ _, _, ⟨g, pl, pr, e, r, x, y⟩ => ⟨g, pl, pr, e, r.mono hl, trZ.mono hl x, trZ.mono hl y⟩
class TrZ (n : Nat) (h : Zh) (t : Tr) (p : Option Addr) : Prop where
 ok : trZ n h t p
instance (n : Nat) (h : Zh) : TrZ n h .nil none := ⟨rfl⟩
instance (priority := 10) (n : Nat) (h h' : Zh) (t : Tr) (p : Option Addr) [hl : LeZ h h'] [x : TrZ n h t p] : TrZ n h' t p := ⟨x.ok.mono hl⟩
def YS (h : Zh) (b : Bool) : Option Addr → Option Addr
 | some ⟨g, 0, none⟩ => match h.cell g 0 with
  | some (.iface T (.agg cs)) => if T = 181 then (match cs[(if b then 1 else 0 : Nat)]? with | some (.pointer q) => q | _ => none) else none
  | _ => none
 | _ => none
theorem Qbh {h : Zh} {g : Nat} {x : NInner} {d : B32} (hr : RdZ h (some ⟨g, 0, none⟩) (Nd.cells ⟨.iface 181 (.agg x.cells.toArray), d⟩)) (b : Bool) : YS h b (some ⟨g, 0, none⟩) = if b then x.r else x.l := by
 have hc := hr.cell (j := 0) (v := .iface 181 (.agg x.cells.toArray)) rfl
 rw [Nat.zero_add] at hc
 have e : x.cells.toArray[(if b then 1 else 0 : Nat)]? = some (.pointer (if b then x.r else x.l)) := by cases b <;> simp [NInner.cells]
 unfold YS
 simp only [hc, if_true, e]
theorem QjP {h : Zh} {g : Nat} {x : NLeaf} {d : B32} (hr : RdZ h (some ⟨g, 0, none⟩) (Nd.cells ⟨.iface 281 (.agg x.cells.toArray), d⟩)) (b : Bool) : YS h b (some ⟨g, 0, none⟩) = none := by
 have hc := hr.cell (j := 0) (v := .iface 281 (.agg x.cells.toArray)) rfl
 rw [Nat.zero_add] at hc
 have e : ¬ 281 = 181 := by decide
 unfold YS
 simp only [hc, if_neg e]
theorem trZ.sub {n : Nat} {h : Zh} {t : Tr} {p : Option Addr} (x : trZ n h t p) (b : Bool) : trZ n h (t.sub b) (YS h b p) := by
 rcases t with _ | ⟨kk, v⟩ | ⟨l, r⟩
 ·obtain rfl : p = none := x
  cases b <;> rfl
 ·obtain ⟨g, s, rfl, hr, _⟩ := x
  cases b <;> exact QjP hr _
 obtain ⟨g, pl, pr, rfl, hr, hl, hr2⟩ := x
 rw [Qbh hr]
 cases b
 ·exact hl
 exact hr2
theorem TrZ.left {n : Nat} {h : Zh} {l r : Tr} {p : Option Addr} (x : TrZ n h (.node l r) p) : TrZ n h l (YS h false p) := ⟨x.ok.sub false⟩
theorem TrZ.right {n : Nat} {h : Zh} {l r : Tr} {p : Option Addr} (x : TrZ n h (.node l r) p) : TrZ n h r (YS h true p) := ⟨x.ok.sub true⟩
def Jg (key : B32) (t : Tr) : Nat → Tr
 | 0 => t
 | k + 1 => (Jg key t k).sub (Q4 key k)
def JY (h : Zh) (key : B32) (p : Option Addr) : Nat → Option Addr
 | 0 => p
 | k + 1 => YS h (Q4 key k) (JY h key p k)
theorem QaH {n : Nat} {h : Zh} {t : Tr} {p : Option Addr} (x : trZ n h t p) (key : B32) : ∀ k, trZ n h (Jg key t k) (JY h key p k)
 | 0 => x
 | k + 1 => (QaH x key k).sub _
instance (n : Nat) (h : Zh) (t : Tr) (p : Option Addr) (key : B32) (k : Nat) [x : TrZ n h t p] : TrZ n h (Jg key t k) (JY h key p k) := ⟨QaH x.ok key k⟩
structure WayTo (key : B32) (t : Tr) (D : Nat) : Prop where
 le : D ≤ 256
 end_ : (Jg key t D).kind ≠ 2
 on : ∀ i, i < D → (Jg key t i).kind = 2
theorem Qgo {key : B32} {m : List En} (h : Alike m 0) {D : Nat} (hD : D ≤ 256) (h2 : ∀ i, i < D → 1 < (atM key m i).length) : ∀ i, i ≤ D → Jg key (mkT m 0) i = mkT (atM key m i) i
 | 0, _ => by rw [Jg, atM]
 | i + 1, hi => by
  have hl := h2 i (by omega)
  rw [Jg, atM]
  rw [Qgo h hD h2 i (by omega), qZ hl (by omega)]
  cases Q4 key i <;> simp only [Tr.sub]
theorem QjT {key : B32} {m : List En} (h : Alike m 0) : ∃ D, WayTo key (mkT m 0) D ∧ QgG key m 0 = (atM key m D, D) ∧ (atM key m D).length ≤ 1 ∧ (∀ i, i < D → 1 < (atM key m i).length) ∧ ∀ i, i ≤ D → Jg key (mkT m 0) i = mkT (atM key m i) i := by
 obtain ⟨D, _, hD, h1, h2, h3⟩ := QhI (k := key) h 256 0 (by omega) (by omega)
 have hw := Qgo (key := key) h hD (fun i hi => h3 i (by omega) hi)
 refine ⟨D, ⟨hD, ?_, fun i hi => ?_⟩, h1, h2, fun i hi => h3 i (by omega) hi, hw⟩
 ·rw [hw D (Nat.le_refl _), qO _ hD]; omega
 have := h3 i (by omega) hi
 rw [hw i (by omega), qO _ (by omega)]; omega
instance (x : NInner) : RowAt x.cells 0 2 [.pointer x.l, .pointer x.r] := .mk' (pre := []) (post := x.dl.cells ++ (x.dr.cells ++ [.int .i64 x.n])) (by simp [NInner.cells]) rfl rfl
instance (x : NInner) (a b : Option Addr) : SetAt x.cells 0 [.pointer a, .pointer b] ({ x with l := a, r := b } : NInner).cells := .mk' (pre := []) (old := [.pointer x.l, .pointer x.r]) (post := x.dl.cells ++ (x.dr.cells ++ [.int .i64 x.n])) (by simp [NInner.cells]) (by simp [NInner.cells]) rfl rfl
instance (x : NInner) (a b : B32) : SetAt x.cells 2 (a.cells ++ b.cells) ({ x with dl := a, dr := b } : NInner).cells := .mk' (pre := [.pointer x.l, .pointer x.r]) (old := x.dl.cells ++ x.dr.cells) (post := [.int .i64 x.n]) (by simp [NInner.cells]) (by simp [NInner.cells]) rfl (by simp [B32.cells_length])
instance : TZ Tryz.prog 179 (QN.cells ++ QN.cells) := ⟨⟨.agg (QN.cells ++ QN.cells).toArray, by kernel_rfl, rfl⟩⟩
instance : TB Tryz.prog 179 (QN.cells ++ QN.cells) (Qb0 32) := ⟨fun w ps cells h => JC Tryz.underlying179 (z := (QN.cells ++ QN.cells).toArray) (n := 64) (by kernel_rfl) (s := 32) (by kernel_rfl) h⟩
instance (a b c : B32) : SetAt (a.cells ++ b.cells) 0 c.cells (c.cells ++ b.cells) := .mk' (pre := []) (old := a.cells) (post := b.cells) (by simp) (by simp) rfl (by rw [B32.cells_length, B32.cells_length])
instance (a b c : B32) : SetAt (a.cells ++ b.cells) 32 c.cells (a.cells ++ c.cells) := .mk' (pre := a.cells) (old := b.cells) (post := []) (by simp) (by simp) (B32.cells_length _) (by rw [B32.cells_length, B32.cells_length])
instance (a b : B32) : Row (a.cells ++ b.cells) 64 := ⟨by rw [List.length_append, B32.cells_length, B32.cells_length], fun v hv => (List.mem_append.1 hv).elim (B32.cells_one a v) (B32.cells_one b v)⟩
instance (a b : Option Addr) : Row [.pointer a, .pointer b] 2 := ⟨rfl, by simp [Value.oneCell']⟩
instance : TZero Tryz.prog 281 (.agg Qbk.cells.toArray) := ⟨fun w => by kernel_rfl⟩
instance : MethT Tryz.prog 281 "sparsetree/node.preimage" 316 := ⟨fun v args w => by kernel_rfl⟩
instance : MethT Tryz.prog 181 "sparsetree/node.preimage" 310 := ⟨fun v args w => by kernel_rfl⟩
end
section
open Go.RowKit
instance : Wd 64 4294967295 4294967295 := ⟨rfl⟩
theorem Qnd (n : Nat) (hn : n ≤ 256) : QC Tryz.prog 270 [.int .u64 (((BitVec.ofNat 64 1).toNat : Nat) : Int), .int .u64 (((BitVec.ofNat 64 n).toNat : Nat) : Int)].toArray [] [] (fun _ : Unit => .tuple #[.int .u64 0, .int .u64 (n : Int)]) (fun _ => []) := by
 refine Qk Tryz.func270 rfl (n := 51) rfl rfl ?_
 intro W
 refine yR ?_
 refine yS rfl ?_
 refine yS rfl ?_
 refine yN ?_
 refine yR ?_
 refine yM rfl ?_
 refine Qb (qp rfl rfl) ?_
 refine yS rfl ?_
 refine yN ?_
 refine yR ?_
 refine yM rfl ?_
 refine Qb (YW rfl rfl) ?_
 refine yS rfl ?_
 refine yN ?_
 refine yR ?_
 refine yM rfl ?_
 refine Qb (qp rfl rfl) ?_
 refine yS rfl ?_
 refine yN ?_
 refine yR ?_
 refine yM rfl ?_
 refine Qb (YW rfl rfl) ?_
 refine yS rfl ?_
 refine yN ?_
 refine yR ?_
 refine yM rfl ?_
 refine yM rfl ?_
 refine Qb (Qab rfl rfl) ?_
 refine yS rfl ?_
 refine yN ?_
 refine yR ?_
 refine yM rfl ?_
 refine yM rfl ?_
 refine Qb (Qab rfl rfl) ?_
 refine yM rfl ?_
 refine Qb (YW rfl rfl) ?_
 refine Qb (Jn rfl rfl) ?_
 refine yS rfl ?_
 refine yN ?_
 refine yR ?_
 refine yM rfl ?_
 refine Qb (qp rfl rfl) ?_
 refine yS rfl ?_
 refine yN ?_
 refine yR ?_
 refine yM rfl ?_
 refine Qb (YW rfl rfl) ?_
 refine yS rfl ?_
 refine yN ?_
 refine yR ?_
 refine yM rfl ?_
 refine yM rfl ?_
 refine yM rfl ?_
 refine Qb (Qab rfl rfl) ?_
 refine Qb (Jn rfl rfl) ?_
 refine yS rfl ?_
 refine yN ?_
 refine yR ?_
 refine yM rfl ?_
 refine yM rfl ?_
 refine Qb (Qab rfl rfl) ?_
 refine yM rfl ?_
 refine Qb (Jn rfl rfl) ?_
 refine yM rfl ?_
 refine Qb (YW rfl rfl) ?_
 refine Qb (Jn rfl rfl) ?_
 refine yS rfl ?_
 refine yN ?_
 refine yR ?_
 refine yM rfl ?_
 refine yM rfl ?_
 refine Qb (Qab rfl rfl) ?_
 refine yS rfl ?_
 refine yN ?_
 refine Qs ?_
 exact QO rfl (aI rfl (by obtain ⟨m, rfl⟩ : ∃ m : Fin 257, m.val = n := ⟨⟨n, by omega⟩, rfl⟩; clear hn; revert m; decide +kernel)) (aI rfl (by obtain ⟨m, rfl⟩ : ∃ m : Fin 257, m.val = n := ⟨⟨n, by omega⟩, rfl⟩; clear hn; revert m; decide +kernel)) fun w s => ⟨(), rfl, s.res (List.nil_sublist _) (by simp)⟩
theorem QqM (n : Nat) (hn : n ≤ 256) : QC Tryz.prog 252 [.int .u64 (((BitVec.ofNat 64 1).toNat : Nat) : Int), .int .u64 (((BitVec.ofNat 64 n).toNat : Nat) : Int)].toArray [] [] (fun _ : Unit => .tuple #[.int .u64 0, .int .u64 (n : Int)]) (fun _ => []) := by
 refine Qk Tryz.func252 rfl (n := 30) rfl rfl ?_
 intro W
 refine yR ?_
 refine yS rfl ?_
 refine yS rfl ?_
 refine yN ?_
 refine Qd ?_
 refine Qt rfl ?_
 refine Qn ?_
 refine Qc ?_
 refine yR ?_
 refine yM rfl ?_
 refine yM rfl ?_
 refine Qh ((Qnd n hn).comes) rfl rfl rfl fun _ => ?_
 refine yM rfl ?_
 refine Qb (Qj rfl rfl) ?_
 refine Qb (Qj rfl rfl) ?_
 refine yS rfl ?_
 refine yS rfl ?_
 refine yN ?_
 refine yR ?_
 refine yM rfl ?_
 refine yM rfl ?_
 refine yS rfl ?_
 refine yS rfl ?_
 refine yN ?_
 refine Qs ?_
 exact QO rfl rfl rfl fun w s => ⟨(), rfl, s.res (List.nil_sublist _) (by simp)⟩
def rep (k n : Nat) (x : B32) : List B32 := List.replicate k x ++ List.replicate (n - k) QN
theorem Qie (k n : Nat) (x : B32) (h : k ≤ n) : (rep k n x).length = n := by simp [rep]; omega
theorem QfZ (k n q : Nat) (x : B32) (hk : k + q ≤ n) : (dgs (rep k n x)).take (k * 32) ++ dgs (List.replicate q x) ++ (dgs (rep k n x)).drop (k * 32 + q * 32) = dgs (rep (k + q) n x) := by
 have h1 : rep k n x = List.replicate k x ++ (List.replicate q QN ++ List.replicate (n - (k + q)) QN) := by
  unfold rep
  rw [List.replicate_append_replicate]
  congr 2
  omega
 have h2 : rep (k + q) n x = List.replicate k x ++ (List.replicate q x ++ List.replicate (n - (k + q)) QN) := by
  unfold rep
  rw [← List.append_assoc, List.replicate_append_replicate]
 have l1 : (dgs (List.replicate k x)).length = k * 32 := by rw [JI, List.length_replicate]
 have l2 : (dgs (List.replicate q QN)).length = q * 32 := by rw [JI, List.length_replicate]
 rw [h1, h2]
 simp only [Yb]
 generalize dgs (List.replicate k x) = a at *
 generalize dgs (List.replicate q QN) = b at *
 rw [List.take_append_of_le_length (by omega), List.take_of_length_le (by omega), List.append_assoc]
 congr 2
 rw [List.drop_append, List.drop_of_length_le (by omega), List.nil_append, l1, show k * 32 + q * 32 - k * 32 = q * 32 by omega, List.drop_append, List.drop_of_length_le (by omega), l2, Nat.sub_self, List.drop_zero, List.nil_append]
theorem Qqi {w : World} {B : Option Addr} {x : B32} {q : Nat} (h : q ≤ 1) (hr : Rd w B x.cells) : Rd w B (dgs (List.replicate q x)) := by
 rcases (show q = 0 ∨ q = 1 by omega) with rfl | rfl
 ·exact Rd.nil _ _
 rw [show List.replicate 1 x = [x] from rfl, VX]
 exact hr
theorem Qoq {k n q : Nat} {x : B32} (h : q ≤ k) : ∀ (j : Nat) (v : Value), (dgs (List.replicate q x))[j]? = some v → (dgs (rep k n x))[j]? = some v := fun j v hv => by
 have h1 : rep k n x = List.replicate q x ++ (List.replicate (k - q) x ++ List.replicate (n - k) QN) := by
  unfold rep
  rw [← List.append_assoc, List.replicate_append_replicate]
  congr 2
  omega
 rw [h1, Yb, List.getElem?_append_left (List.getElem?_eq_some_iff.1 hv).1]
 exact hv
theorem Qkl (x : B32) (n b o c : Nat) (hn : n ≤ 256) : QC Tryz.prog 194 [.slice (some ⟨b, o, none⟩) 1 c, .int .i64 (n : Int)].toArray [.rd (some ⟨b, o, none⟩) x.cells] [] (fun g : Nat => .slice (some ⟨g, 0, none⟩) n n) (fun g => [.own (.slice (some ⟨g, 0, none⟩) n n) n 45 32 (dgs (List.replicate n x))]) := by
 refine Qk Tryz.func194 rfl (n := 48) rfl rfl ?_
 intro W
 refine yR ?_
 refine yS rfl ?_
 refine yN ?_
 refine Qd ?_
 refine yR ?_
 refine yM rfl ?_
 refine Qb (Ql (QT rfl rfl) (decide_eq_false (by omega))) ?_
 refine yN ?_
 refine Qt rfl ?_
 refine Qn ?_
 refine Qc ?_
 refine yR ?_
 refine yM rfl ?_
 refine Qb (QF rfl) ?_
 refine Qb (Zi rfl) ?_
 refine yM rfl ?_
 refine Qb (Zi rfl) ?_
 refine Qh ((QqM n hn).comes) rfl rfl rfl fun _ => ?_
 refine yM rfl ?_
 refine Qb (Qj rfl rfl) ?_
 refine Qb (Qj rfl rfl) ?_
 refine yS rfl ?_
 refine yS rfl ?_
 refine yN ?_
 refine Qd ?_
 refine yR ?_
 refine yM rfl ?_
 refine Qb (Ql (Jo rfl rfl) (show _ = false by decide)) ?_
 refine yM rfl ?_
 refine yM rfl ?_
 refine Qb (Ql (Jo rfl rfl) (decide_eq_false (by omega))) ?_
 refine Qb (Qy rfl rfl) ?_
 refine yN ?_
 refine Qt rfl ?_
 refine Qn ?_
 refine Qc ?_
 refine yR ?_
 refine yM rfl ?_
 refine Qb (QlX rfl (IntWalk.i64_in _ (by omega))) ?_
 refine Qo (Qhs rfl rfl) fun g30 => ?_
 refine yS rfl ?_
 refine yN ?_
 refine yR ?_
 rw [QfG]
 rw [show List.replicate n QN = rep 0 n x by simp [rep]]
 obtain ⟨q, hq⟩ : ∃ q, q = Nat.min 1 n := ⟨_, rfl⟩
 have hq1 : q ≤ 1 := hq ▸ Nat.min_le_left 1 n
 have hq2 : q ≤ n := hq ▸ Nat.min_le_right 1 n
 have hq3 : 1 ≤ q ∨ n = 0 := by
  by_cases h0 : n = 0
  ·exact .inr h0
  exact .inl (by rw [hq]; exact Nat.le_min.2 ⟨Nat.le_refl _, by omega⟩)
 have hst := QfZ 0 n q x (by omega)
 have hl := Qie 0 n x (by omega)
 refine yM rfl ?_
 refine yM rfl ?_
 refine Qo (Vu (q := q) (cs := dgs (List.replicate q x)) (xs' := dgs (rep (0 + q) n x)) rfl rfl (fun w hw => Qqi hq1 (hw.ok (.rd _ _) (by simp))) hq.symm (by rw [JI, List.length_replicate]) (by rw [JI, JI, List.length_replicate, hl]; omega) (QhC _) (by rw [JI, List.length_replicate]; simpa using hst)) fun _ => ?_
 refine yS rfl ?_
 refine yN ?_
 refine Qd ?_
 refine Qq ?_
 rw [Nat.zero_add]
 refine QS (fun (k : Nat) => k ≤ n ∧ (1 ≤ k ∨ n = 0)) (fun (k : Nat) => [(8, .int .i64 (k : Int)), (7, .slice (some ⟨g30, 0, none⟩) n n)]) (fun (k : Nat) => [.own (.slice (some ⟨g30, 0, none⟩) n n) n 45 32 (dgs (rep k n x))]) (fun (k : Nat) => n - k) q (⟨hq2, hq3⟩) ⟨rfl, rfl, trivial⟩ (same) ?_
 clear hq hq1 hq2 hq3 hst hl
 intro k hk
 refine Qd ?_
 refine yR ?_
 refine yM rfl ?_
 refine yM rfl ?_
 refine Qb (QF rfl) ?_
 refine Qb (QT rfl rfl) ?_
 refine yN ?_
 refine QU rfl (fun h => ?_) (fun h => ?_)
 ·have hkn : k < n := by omega
  have hk1 : 1 ≤ k := by omega
  obtain ⟨q, hq⟩ : ∃ q, q = Nat.min k (n - k) := ⟨_, rfl⟩
  have hq1 : q ≤ k := hq ▸ Nat.min_le_left k (n - k)
  have hq2 : q ≤ n - k := hq ▸ Nat.min_le_right k (n - k)
  have hq3 : 1 ≤ q := hq ▸ Nat.le_min.2 ⟨hk1, by omega⟩
  have hst := QfZ k n q x (by omega)
  have hl := Qie k n x (by omega)
  refine Qn ?_
  refine Qc ?_
  refine Qq ?_
  refine Q1 [] [] QJ (same) ?_
  refine Qa 0 rfl (Qi rfl) ?_
  refine Qa 1 rfl (Qi rfl) ?_
  refine Qa 2 rfl (Qi rfl) ?_
  refine Qa 3 rfl (QbC (Qb5 rfl rfl) (show _ = Value.slice (some ⟨g30, k * 32, none⟩) (n - k) (n - k) by rw [Qan (by omega), Nat.zero_add])) ?_
  refine Qa 4 rfl (Qi rfl) ?_
  refine Qa 5 rfl (Qi rfl) ?_
  refine Qa 6 rfl (QbC (Qia rfl rfl) (show _ = Value.slice (some ⟨g30, 0, none⟩) k n by rw [Qan (by omega)])) ?_
  refine Qv 7 ?_
  refine JB 7 rfl (rk (Vu (q := q) (cs := dgs (List.replicate q x)) (xs' := dgs (rep (k + q) n x)) rfl rfl (fun w hw => (fun j v hv => ⟨g30, 0, rfl, by rw [Nat.zero_add]; exact Qa5 (hw.ok (.own _ _ _ _ _) (List.mem_cons_self ..)) (Qoq hq1 j v hv)⟩)) hq.symm (by rw [JI, List.length_replicate]) (by rw [JI, JI, List.length_replicate, hl]; omega) (QhC _) (by rw [JI, List.length_replicate]; exact hst))) (fun _ => same) fun _ => ?_
  refine Qa 8 rfl (QI rfl rfl) ?_
  refine Qa 9 rfl (Q6 rfl) ?_
  refine QB (by kernel_rfl) ?_
  refine Q2 ?_
  exact QH (k + q) (⟨by omega, by omega⟩) (by omega) ⟨rfl, rfl, trivial⟩ (same)
 obtain rfl : k = n := by omega
 rw [show rep k k x = List.replicate k x by simp [rep]]
 refine QK ?_
 refine Qx ?_
 refine Qx ?_
 refine Q8 ?_
 refine Qc ?_
 refine yR ?_
 refine yM rfl ?_
 refine yS rfl ?_
 refine yN ?_
 refine Qs ?_
 exact Qu rfl rfl fun w s => ⟨g30, rfl, s.res (List.Sublist.refl _) (by simp [Fa.wr])⟩
theorem QfI (n : Nat) (hn : n ≤ 256) (gh gc k : Nat) (hk : k ≤ 1000000000000) : QC Tryz.prog 43 [.pointer (some ⟨gh, 0, none⟩), .pointer none].toArray [.rd (some ⟨gh, 0, none⟩) [.pointer (some ⟨gc, 0, none⟩), .int .i64 (n : Int)], .rd (some ⟨1, 0, none⟩) Jd] [.blk gc [.int .i64 (k : Int)] 272] (fun _ : Unit => .agg (Jj n Yw).cells.toArray) (fun _ => [.blk gc [.int .i64 ((k + 1 : Nat) : Int)] 272]) := by
 refine Qk Tryz.func43 rfl (n := 14) rfl rfl ?_
 intro W
 refine yR ?_
 refine Qo (Q0) fun g4 => ?_
 refine yN ?_
 refine Qd ?_
 refine yR ?_
 refine yM rfl ?_
 refine Qb (J2 rfl rfl) ?_
 refine yN ?_
 refine Qz rfl ?_
 refine yR ?_
 refine yM rfl ?_
 refine Qh (Qa6.comes) rfl rfl rfl fun ⟨g8, c8⟩ => ?_
 dsimp only
 refine Qh ((VP n hn gh gc k hk Yw (some ⟨g8, 0, none⟩) c8 (fun h => by cases h) (by decide)).comes) rfl rfl rfl fun _ => ?_
 refine Q7 (Qw rfl rfl) ?_
 refine yN ?_
 refine Qs ?_
 refine Qr ?_
 exact Qu rfl (QZ rfl) fun w s => ⟨(), rfl, (same w s).res (List.Sublist.refl _) (by simp [Fa.wr])⟩
end
section
open Go.RowKit
section
variable (n : Nat) (h : Zh) (t : Tr) (p : Option Addr) [ht : TrZ n h t p]
include ht
theorem J3 : QC Tryz.prog 91 [.pointer p].toArray [.zone false h] [] (fun _ : Unit => .int .i64 ((t.kind : Nat) : Int)) (fun _ => []) := by
 have ho := ht.ok
 clear ht
 refine Qk Tryz.func91 rfl (n := 15) rfl rfl ?_
 intro W
 rcases t with _ | ⟨kk, b⟩ | ⟨l, r⟩
 ·obtain rfl : p = none := ho
  refine yR ?_
  refine yS rfl ?_
  refine yN ?_
  refine Qd ?_
  refine yR ?_
  refine yM rfl ?_
  refine Qb (J2 rfl rfl) ?_
  refine yN ?_
  refine Qz rfl ?_
  refine yR ?_
  refine yS rfl ?_
  refine yN ?_
  refine Qs ?_
  refine Qr ?_
  exact Qu rfl rfl fun w s => ⟨(), rfl, s.res (List.nil_sublist _) (by simp)⟩
 ·obtain ⟨g, s, rfl, hr, hs⟩ := ho
  refine yR ?_
  refine yS rfl ?_
  refine yN ?_
  refine Qd ?_
  refine yR ?_
  refine yM rfl ?_
  refine Qb (J2 rfl rfl) ?_
  refine yN ?_
  refine Qt rfl ?_
  refine Qn ?_
  refine Qc ?_
  refine Qd ?_
  refine yR ?_
  refine yM rfl ?_
  refine Qb (QA rfl) ?_
  refine Qb (Qe rfl) ?_
  refine Qb (Qf rfl) ?_
  refine yN ?_
  refine Qq ?_
  refine yR ?_
  refine Qb (QlU rfl) ?_
  refine Qb (Qj rfl rfl) ?_
  refine Qb (Qj rfl rfl) ?_
  refine yN ?_
  refine Qz rfl ?_
  refine yR ?_
  refine yS rfl ?_
  refine yN ?_
  refine Qs ?_
  refine Q3 ?_
  refine Qr ?_
  exact Qu rfl rfl fun w s => ⟨(), rfl, s.res (List.nil_sublist _) (by simp)⟩
 obtain ⟨g, pl, pr, rfl, hr, hl, hr2⟩ := ho
 refine yR ?_
 refine yS rfl ?_
 refine yN ?_
 refine Qd ?_
 refine yR ?_
 refine yM rfl ?_
 refine Qb (J2 rfl rfl) ?_
 refine yN ?_
 refine Qt rfl ?_
 refine Qn ?_
 refine Qc ?_
 refine Qd ?_
 refine yR ?_
 refine yM rfl ?_
 refine Qb (QA rfl) ?_
 refine Qb (Qe rfl) ?_
 refine Qb (Qf rfl) ?_
 refine yN ?_
 refine Qq ?_
 refine yR ?_
 refine Qb (QlV rfl) ?_
 refine Qb (Qj rfl rfl) ?_
 refine Qb (Qj rfl rfl) ?_
 refine yN ?_
 refine Qt rfl ?_
 refine yR ?_
 refine Qb (QlU rfl) ?_
 refine Qb (Qj rfl rfl) ?_
 refine Qb (Qj rfl rfl) ?_
 refine yN ?_
 refine Qz rfl ?_
 refine yR ?_
 refine yS rfl ?_
 refine yN ?_
 refine Qs ?_
 refine Q3 ?_
 refine Qr ?_
 exact Qu rfl rfl fun w s => ⟨(), rfl, s.res (List.nil_sublist _) (by simp)⟩
end
theorem Ql1 (n : Nat) (h : Zh) (kk : B32) (b : List UInt8) (p : Option Addr) [ht : TrZ n h (.leaf kk b) p] : QC Tryz.prog 154 [.pointer p].toArray [.zone false h] [] (fun s : {s : Sl // SlZ h s b} => .agg (NLeaf.cells ⟨Y0 n kk b, s.1⟩).toArray) (fun _ => []) := by
 obtain ⟨g, s, rfl, hr, hs⟩ := ht.ok
 refine Qk Tryz.func154 rfl (n := 12) rfl rfl ?_
 intro W
 refine yR ?_
 refine Qo (Q0) fun g2 => ?_
 refine yN ?_
 refine Qd ?_
 refine yR ?_
 refine yM rfl ?_
 refine Qh ((J3 n h (.leaf kk b) (some ⟨g, 0, none⟩)).comes) rfl rfl rfl fun _ => ?_
 refine Qb (Ql (QL rfl rfl) (show _ = false by simp [Tr.kind])) ?_
 refine yN ?_
 refine Qt rfl ?_
 refine Qn ?_
 refine Qc ?_
 refine yR ?_
 refine yM rfl ?_
 refine Qb (QA rfl) ?_
 refine Qb (Qe rfl) ?_
 refine Qb (Qf rfl) ?_
 refine Qb (Qph rfl) ?_
 refine Q7 (Qw rfl rfl) ?_
 refine yN ?_
 refine Qs ?_
 exact Qu rfl (QZ rfl) fun w s' => ⟨⟨s, hs⟩, rfl, s'.res (List.nil_sublist _) (by simp)⟩
theorem QhR (n : Nat) (h : Zh) (t : Tr) (p : Option Addr) [ht : TrZ n h t p] (hk : t.kind ≠ 1) : QC Tryz.prog 154 [.pointer p].toArray [.zone false h] [] (fun _ : Unit => .agg Qbk.cells.toArray) (fun _ => []) := by
 refine Qk Tryz.func154 rfl (n := 12) rfl rfl ?_
 intro W
 refine yR ?_
 refine Qo (Q0) fun g2 => ?_
 refine yN ?_
 refine Qd ?_
 refine yR ?_
 refine yM rfl ?_
 refine Qh ((J3 n h t p).comes) rfl rfl rfl fun _ => ?_
 refine Qb (Ql (QL rfl rfl) (show _ = true by simp; omega)) ?_
 refine yN ?_
 refine Qz rfl ?_
 refine yR ?_
 refine Qb (QD rfl) ?_
 refine Q7 (Qw rfl rfl) ?_
 refine yN ?_
 refine Qs ?_
 refine Qr ?_
 exact Qu rfl (QZ rfl) fun w s' => ⟨(), rfl, s'.res (List.nil_sublist _) (by simp)⟩
theorem Vv (n : Nat) (h : Zh) (t : Tr) (p : Option Addr) [ht : TrZ n h t p] : QC Tryz.prog 99 [.pointer p].toArray [.zone false h] [] (fun _ : Unit => .agg (qY n t).cells.toArray) (fun _ => []) := by
 refine Qk Tryz.func99 rfl (n := 6) rfl rfl ?_
 intro W
 rcases t with _ | ⟨kk, b⟩ | ⟨l, r⟩
 ·refine Qd ?_
  refine Q5 ?_
  refine Qo (Q0) fun g2 => ?_
  refine yN ?_
  refine yR ?_
  refine yM rfl ?_
  refine Qh ((QhR n h .nil p (by simp [Tr.kind])).comes) rfl rfl rfl fun _ => ?_
  refine Qb (YC rfl) ?_
  refine Q7 (Qw rfl rfl) ?_
  refine yN ?_
  refine Qs ?_
  exact Qu rfl (QZ rfl) fun w s' => ⟨(), rfl, s'.res (List.nil_sublist _) (by simp)⟩
 ·refine Qd ?_
  refine Q5 ?_
  refine Qo (Q0) fun g2 => ?_
  refine yN ?_
  refine yR ?_
  refine yM rfl ?_
  refine Qh ((Ql1 n h kk b p).comes) rfl rfl rfl fun ⟨s, hs⟩ => ?_
  refine Qb (YC rfl) ?_
  refine Q7 (Qw rfl rfl) ?_
  refine yN ?_
  refine Qs ?_
  exact Qu rfl (QZ rfl) fun w s' => ⟨(), rfl, s'.res (List.nil_sublist _) (by simp)⟩
 refine Qd ?_
 refine Q5 ?_
 refine Qo (Q0) fun g2 => ?_
 refine yN ?_
 refine yR ?_
 refine yM rfl ?_
 refine Qh ((QhR n h (.node l r) p (by simp [Tr.kind])).comes) rfl rfl rfl fun _ => ?_
 refine Qb (YC rfl) ?_
 refine Q7 (Qw rfl rfl) ?_
 refine yN ?_
 refine Qs ?_
 exact Qu rfl (QZ rfl) fun w s' => ⟨(), rfl, s'.res (List.nil_sublist _) (by simp)⟩
theorem Qeh (n : Nat) (h : Zh) (l r : Tr) (p : Option Addr) [ht : TrZ n h (.node l r) p] : QC Tryz.prog 92 [.pointer p].toArray [.zone false h] [] (fun _ : Unit => .agg (NInner.cells ⟨YS h false p, YS h true p, dgT n l, dgT n r, ((l.cnt + r.cnt : Nat) : Int)⟩).toArray) (fun _ => []) := by
 obtain ⟨g, pl, pr, rfl, hr, hl, hr2⟩ := ht.ok
 rw [Qbh hr, Qbh hr]
 refine Qk Tryz.func92 rfl (n := 12) rfl rfl ?_
 intro W
 refine yR ?_
 refine Qo (Q0) fun g2 => ?_
 refine yN ?_
 refine Qd ?_
 refine yR ?_
 refine yM rfl ?_
 refine Qh ((J3 n h (.node l r) (some ⟨g, 0, none⟩)).comes) rfl rfl rfl fun _ => ?_
 refine Qb (Ql (QL rfl rfl) (show _ = false by simp [Tr.kind])) ?_
 refine yN ?_
 refine Qt rfl ?_
 refine Qn ?_
 refine Qc ?_
 refine yR ?_
 refine yM rfl ?_
 refine Qb (QA rfl) ?_
 refine Qb (Qe rfl) ?_
 refine Qb (Qf rfl) ?_
 refine Qb (Qph rfl) ?_
 refine Q7 (Qw rfl rfl) ?_
 refine yN ?_
 refine Qs ?_
 exact Qu rfl (QZ rfl) fun w s' => ⟨(), rfl, s'.res (List.nil_sublist _) (by simp)⟩
theorem Qcr (n : Nat) (h : Zh) (t : Tr) (p : Option Addr) [ht : TrZ n h t p] (hk : t.kind ≠ 2) : QC Tryz.prog 92 [.pointer p].toArray [.zone false h] [] (fun _ : Unit => .agg QaJ.cells.toArray) (fun _ => []) := by
 refine Qk Tryz.func92 rfl (n := 12) rfl rfl ?_
 intro W
 refine yR ?_
 refine Qo (Q0) fun g2 => ?_
 refine yN ?_
 refine Qd ?_
 refine yR ?_
 refine yM rfl ?_
 refine Qh ((J3 n h t p).comes) rfl rfl rfl fun _ => ?_
 refine Qb (Ql (QL rfl rfl) (show _ = true by simp; omega)) ?_
 refine yN ?_
 refine Qz rfl ?_
 refine yR ?_
 refine Qb (QD rfl) ?_
 refine Q7 (Qw rfl rfl) ?_
 refine yN ?_
 refine Qs ?_
 refine Qr ?_
 exact Qu rfl (QZ rfl) fun w s' => ⟨(), rfl, s'.res (List.nil_sublist _) (by simp)⟩
theorem Qgy (n : Nat) (h : Zh) (t : Tr) (p : Option Addr) [ht : TrZ n h t p] : QC Tryz.prog 226 [.pointer p].toArray [.zone false h] [] (fun _ : Unit => .pointer (YS h false p)) (fun _ => []) := by
 refine Qk Tryz.func226 rfl (n := 7) rfl rfl ?_
 intro W
 by_cases hk : t.kind = 2
 ·rcases t with _ | ⟨kk, b⟩ | ⟨l, r⟩
  ·cases hk
  ·cases hk
  refine yR ?_
  refine yS rfl ?_
  refine yN ?_
  refine yR ?_
  refine yM rfl ?_
  refine Qh ((Qeh n h l r p).comes) rfl rfl rfl fun _ => ?_
  refine Qb (YC rfl) ?_
  refine Qb (Qc8 rfl rfl (v := .pointer (YS h false p)) rfl) ?_
  refine yS rfl ?_
  refine yN ?_
  refine Qs ?_
  exact Qu rfl rfl fun w s' => ⟨(), rfl, s'.res (List.nil_sublist _) (by simp)⟩
 have e : YS h false p = none := by
  have := ht.ok.sub false
  rcases t with _ | ⟨kk, b⟩ | ⟨l, r⟩
  ·exact this
  ·exact this
  exact (hk rfl).elim
 rw [e]
 refine yR ?_
 refine yS rfl ?_
 refine yN ?_
 refine yR ?_
 refine yM rfl ?_
 refine Qh ((Qcr n h t p hk).comes) rfl rfl rfl fun _ => ?_
 refine Qb (YC rfl) ?_
 refine Qb (Qc8 rfl rfl (v := .pointer none) rfl) ?_
 refine yS rfl ?_
 refine yN ?_
 refine Qs ?_
 exact Qu rfl rfl fun w s' => ⟨(), rfl, s'.res (List.nil_sublist _) (by simp)⟩
theorem QdR (n : Nat) (h : Zh) (t : Tr) (p : Option Addr) [ht : TrZ n h t p] : QC Tryz.prog 227 [.pointer p].toArray [.zone false h] [] (fun _ : Unit => .pointer (YS h true p)) (fun _ => []) := by
 refine Qk Tryz.func227 rfl (n := 7) rfl rfl ?_
 intro W
 by_cases hk : t.kind = 2
 ·rcases t with _ | ⟨kk, b⟩ | ⟨l, r⟩
  ·cases hk
  ·cases hk
  refine yR ?_
  refine yS rfl ?_
  refine yN ?_
  refine yR ?_
  refine yM rfl ?_
  refine Qh ((Qeh n h l r p).comes) rfl rfl rfl fun _ => ?_
  refine Qb (YC rfl) ?_
  refine Qb (Qc8 rfl rfl (v := .pointer (YS h true p)) rfl) ?_
  refine yS rfl ?_
  refine yN ?_
  refine Qs ?_
  exact Qu rfl rfl fun w s' => ⟨(), rfl, s'.res (List.nil_sublist _) (by simp)⟩
 have e : YS h true p = none := by
  have := ht.ok.sub true
  rcases t with _ | ⟨kk, b⟩ | ⟨l, r⟩
  ·exact this
  ·exact this
  exact (hk rfl).elim
 rw [e]
 refine yR ?_
 refine yS rfl ?_
 refine yN ?_
 refine yR ?_
 refine yM rfl ?_
 refine Qh ((Qcr n h t p hk).comes) rfl rfl rfl fun _ => ?_
 refine Qb (YC rfl) ?_
 refine Qb (Qc8 rfl rfl (v := .pointer none) rfl) ?_
 refine yS rfl ?_
 refine yN ?_
 refine Qs ?_
 exact Qu rfl rfl fun w s' => ⟨(), rfl, s'.res (List.nil_sublist _) (by simp)⟩
theorem QaN (n : Nat) (h : Zh) (t : Tr) (p : Option Addr) [ht : TrZ n h t p] : QC Tryz.prog 44 [.pointer p].toArray [.zone false h] [] (fun _ : Unit => .int .i64 ((t.cnt : Nat) : Int)) (fun _ => []) := by
 refine Qk Tryz.func44 rfl (n := 9) rfl rfl ?_
 intro W
 rcases t with _ | ⟨kk, b⟩ | ⟨l, r⟩
 ·refine Qd ?_
  refine Q5 ?_
  refine yS rfl ?_
  refine yN ?_
  refine Qd ?_
  refine yR ?_
  refine yM rfl ?_
  refine Qh ((J3 n h .nil p).comes) rfl rfl rfl fun _ => ?_
  refine Qb (Ql (QG rfl rfl) (show _ = false by simp [Tr.kind])) ?_
  refine yN ?_
  refine Qt rfl ?_
  refine Qn ?_
  refine Qc ?_
  refine yR ?_
  refine yM rfl ?_
  refine Qh ((Qcr n h .nil p (by simp [Tr.kind])).comes) rfl rfl rfl fun _ => ?_
  refine Qb (Qhc rfl) ?_
  refine yS rfl ?_
  refine yN ?_
  refine Qs ?_
  exact Qu rfl rfl fun w s' => ⟨(), rfl, s'.res (List.nil_sublist _) (by simp)⟩
 ·refine Qd ?_
  refine Q5 ?_
  refine yS rfl ?_
  refine yN ?_
  refine Qd ?_
  refine yR ?_
  refine yM rfl ?_
  refine Qh ((J3 n h (.leaf kk b) p).comes) rfl rfl rfl fun _ => ?_
  refine Qb (Ql (QG rfl rfl) (show _ = true by simp [Tr.kind])) ?_
  refine yN ?_
  refine Qz rfl ?_
  refine yR ?_
  refine yS rfl ?_
  refine yN ?_
  refine Qs ?_
  refine Qr ?_
  exact Qu rfl rfl fun w s' => ⟨(), rfl, s'.res (List.nil_sublist _) (by simp)⟩
 refine Qd ?_
 refine Q5 ?_
 refine yS rfl ?_
 refine yN ?_
 refine Qd ?_
 refine yR ?_
 refine yM rfl ?_
 refine Qh ((J3 n h (.node l r) p).comes) rfl rfl rfl fun _ => ?_
 refine Qb (Ql (QG rfl rfl) (show _ = false by simp [Tr.kind])) ?_
 refine yN ?_
 refine Qt rfl ?_
 refine Qn ?_
 refine Qc ?_
 refine yR ?_
 refine yM rfl ?_
 refine Qh ((Qeh n h l r p).comes) rfl rfl rfl fun _ => ?_
 refine Qb (Qhc rfl) ?_
 refine yS rfl ?_
 refine yN ?_
 refine Qs ?_
 exact Qu rfl rfl fun w s' => ⟨(), rfl, s'.res (List.nil_sublist _) (by simp)⟩
theorem Yq (n : Nat) (hn : n ≤ 256) (gh gc k : Nat) (hk : k ≤ 1000000000000) (h : Zh) (t : Tr) (p : Option Addr) [ht : TrZ n h t p] : QC Tryz.prog 43 [.pointer (some ⟨gh, 0, none⟩), .pointer p].toArray [HR gh gc n, .zone false h, TBL] [CN gc k] (fun _ : Unit => .agg (dgT n t).cells.toArray) (fun _ => [CN gc (k + if t.kind = 0 then 1 else 0)]) := by
 have ho := ht.ok
 rcases t with _ | ⟨kk, b⟩ | ⟨l, r⟩
 ·obtain rfl : p = none := ho
  refine Qk Tryz.func43 rfl (n := 14) rfl rfl ?_
  intro W
  refine yR ?_
  refine Qo (Q0) fun g4 => ?_
  refine yN ?_
  refine Qd ?_
  refine yR ?_
  refine yM rfl ?_
  refine Qb (J2 rfl rfl) ?_
  refine yN ?_
  refine Qz rfl ?_
  refine yR ?_
  refine yM rfl ?_
  refine Qh (Qa6.comes) rfl rfl rfl fun ⟨g8, c8⟩ => ?_
  dsimp only
  refine Qh ((VP n hn gh gc k hk Yw (some ⟨g8, 0, none⟩) c8 (fun h => by cases h) (by decide)).comes) rfl rfl rfl fun _ => ?_
  refine Q7 (Qw rfl rfl) ?_
  refine yN ?_
  refine Qs ?_
  refine Qr ?_
  exact Qu rfl (QZ rfl) fun w s => ⟨(), rfl, (same (L' := [CN gc (k + 1)]) w s).res (List.Sublist.refl _) (by simp [Fa.wr])⟩
 ·obtain ⟨g, s, rfl, hr, hs⟩ := ho
  refine Qk Tryz.func43 rfl (n := 14) rfl rfl ?_
  intro W
  refine yR ?_
  refine Qo (Q0) fun g4 => ?_
  refine yN ?_
  refine Qd ?_
  refine yR ?_
  refine yM rfl ?_
  refine Qb (J2 rfl rfl) ?_
  refine yN ?_
  refine Qt rfl ?_
  refine Qn ?_
  refine Qc ?_
  refine yR ?_
  refine yM rfl ?_
  refine Qb (QA rfl) ?_
  refine Qb (Qe rfl) ?_
  refine Qb (Qm rfl) ?_
  refine Q7 (Qw rfl rfl) ?_
  refine yN ?_
  refine Qs ?_
  exact Qu rfl (QZ rfl) fun w s => ⟨(), rfl, (same (L' := [CN gc k]) w s).res (List.Sublist.refl _) (by simp [Fa.wr])⟩
 obtain ⟨g, pl, pr, rfl, hr, hl, hr2⟩ := ho
 refine Qk Tryz.func43 rfl (n := 14) rfl rfl ?_
 intro W
 refine yR ?_
 refine Qo (Q0) fun g4 => ?_
 refine yN ?_
 refine Qd ?_
 refine yR ?_
 refine yM rfl ?_
 refine Qb (J2 rfl rfl) ?_
 refine yN ?_
 refine Qt rfl ?_
 refine Qn ?_
 refine Qc ?_
 refine yR ?_
 refine yM rfl ?_
 refine Qb (QA rfl) ?_
 refine Qb (Qe rfl) ?_
 refine Qb (Qm rfl) ?_
 refine Q7 (Qw rfl rfl) ?_
 refine yN ?_
 refine Qs ?_
 exact Qu rfl (QZ rfl) fun w s => ⟨(), rfl, (same (L' := [CN gc k]) w s).res (List.Sublist.refl _) (by simp [Fa.wr])⟩
end
section
open Go.RowKit
theorem Qhv (l : List UInt8) (B : Option Addr) (c : Nat) (hB : B = none → l.length = 0 ∧ c = 0) (hl : l.length ≤ 1000000000) : QC Tryz.prog 161 [.slice B l.length c].toArray [.rd B (bc l)] [] (fun u : Option Addr × Nat => .slice u.1 l.length u.2) (fun u => [.own (.slice u.1 l.length u.2) l.length 5 1 (bc l)]) := by
 refine Qk Tryz.func161 rfl (n := 8) rfl rfl ?_
 intro W
 rcases B with _ | B
 ·obtain ⟨h1, h2⟩ := hB rfl
  obtain rfl : l = [] := List.eq_nil_of_length_eq_zero h1
  refine yR ?_
  refine yS rfl ?_
  refine yN ?_
  refine Qd ?_
  refine yR ?_
  refine yM rfl ?_
  refine Qb (Qe0 rfl rfl) ?_
  refine yN ?_
  refine Qz rfl ?_
  refine yR ?_
  refine yS rfl ?_
  refine yN ?_
  refine Qs ?_
  refine Qr ?_
  refine Ju 5 1 (xs := bc []) rfl ?_
  exact Qu rfl rfl fun w s => ⟨(none, 0), rfl, (same w s).res (List.Sublist.refl _) (by simp [Fa.wr])⟩
 refine Qd ?_
 refine Q5 ?_
 refine yS rfl ?_
 refine yN ?_
 refine Qd ?_
 refine yR ?_
 refine yM rfl ?_
 refine Qb (Qe0 rfl rfl) ?_
 refine yN ?_
 refine Qt rfl ?_
 refine Qn ?_
 refine Qc ?_
 refine yR ?_
 refine Qo (Qhr (xs := bc [])) fun g5 => ?_
 refine yM rfl ?_
 refine Qo (Vd rfl rfl hB rfl (hN := Nat.zero_add _)) fun ⟨A7, c7⟩ => ?_
 refine yS rfl ?_
 refine yN ?_
 refine Qs ?_
 rw [List.nil_append]
 exact Qu rfl rfl fun w s => ⟨(A7, c7), rfl, (same w s).res (List.Sublist.refl _) (by simp [Fa.wr])⟩
theorem Qa7 (l : List UInt8) (B : Option Addr) (c : Nat) (hB : B = none → l.length = 0 ∧ c = 0) (hl : l.length ≤ 100000000) : QC Tryz.prog 129 [.slice B l.length c].toArray [.rd B (bc l)] [] (fun u : Nat × Nat => .slice (some ⟨u.1, 0, none⟩) (JK l).length u.2) (fun u => [.own (.slice (some ⟨u.1, 0, none⟩) (JK l).length u.2) (JK l).length 5 1 (bc (JK l))]) := by
 have hseg : (2 : UInt8) :: YH [(B, c, l)] = JK l := by simp [YH, JK]
 refine Qk Tryz.func129 rfl (n := 6) rfl rfl ?_
 intro W
 refine yR ?_
 refine yS rfl ?_
 refine yN ?_
 refine yR ?_
 refine yM rfl ?_
 refine Qo (qT (ys := [.slice B l.length c]) (svs [(B, c, l)]) rfl rfl (QaF _)) fun g4 => ?_
 refine Qh ((QbF 2 [(B, c, l)] (some ⟨g4, 0, none⟩) 1 (by simpa using hB) (by simp [ZE]; omega)).comes) rfl rfl rfl fun ⟨g8, c8⟩ => ?_
 dsimp only
 rw [hseg]
 refine yS rfl ?_
 refine yN ?_
 refine Qs ?_
 exact Qu rfl rfl fun w s => ⟨(g8, c8), rfl, (same w s).res (List.Sublist.refl _) (by simp [Fa.wr])⟩
theorem Qki (n : Nat) (hn : n ≤ 256) (gh gc k : Nat) (hk : k ≤ 1000000000000) (key : B32) (l : List UInt8) (B : Option Addr) (c : Nat) (hB : B = none → l.length = 0 ∧ c = 0) (hl : l.length ≤ 100000000) : QC Tryz.prog 245 [.pointer (some ⟨gh, 0, none⟩), .agg key.cells.toArray, .slice B l.length c].toArray [HR gh gc n, .rd B (bc l), TBL] [CN gc k] (fun _ : Unit => .agg (Y0 n key l).cells.toArray) (fun _ => [CN gc (k + 1)]) := by
 have hpl : (JK l).length = l.length + 1 := rfl
 refine Qk Tryz.func245 rfl (n := 13) rfl rfl ?_
 intro W
 refine yR ?_
 refine Qo (Q9 rfl) fun g4 => ?_
 refine Qo (Q0) fun g6 => ?_
 refine yN ?_
 refine Qd ?_
 refine Q1 [.blk g4 key.cells 34] [] QJ (same) ?_
 refine Qp 0 rfl (Qm rfl) ?_
 refine Qa 1 rfl (Qi rfl) ?_
 refine Qa 2 rfl (Qi rfl) ?_
 refine Qv 3 ?_
 refine QR 3 rfl ((Qa7 l B c hB hl).comes) rfl rfl rfl (fun xx => same) fun ⟨g10, c10⟩ => ?_
 refine Qv 4 ?_
 refine QR 4 rfl ((VP n hn gh gc k hk (JK l) (some ⟨g10, 0, none⟩) c10 (fun h => by cases h) (by omega)).comes) rfl rfl rfl (fun xx => same) fun _ => ?_
 refine Qa 5 rfl (QD rfl) ?_
 refine Qv 6 ?_
 refine J4 6 rfl (Qw rfl rfl) ?_
 refine Qc ?_
 refine Qs ?_
 exact Qu rfl (QZ rfl) fun w s => ⟨(), rfl, (same w s).res (List.Sublist.refl _) (by simp [Fa.wr])⟩
theorem QpS (x : NLeaf) : QC Tryz.prog 316 [.agg x.cells.toArray].toArray [] [] (fun u : Nat × Nat => .slice (some ⟨u.1, 0, none⟩) (YO x.leaf).length u.2) (fun u => [.own (.slice (some ⟨u.1, 0, none⟩) (YO x.leaf).length u.2) (YO x.leaf).length 5 1 (bc (YO x.leaf))]) := by
 refine Qk Tryz.func316 rfl (n := 6) rfl rfl ?_
 intro W
 refine yR ?_
 refine Qo (Q9 rfl) fun g1 => ?_
 refine yS rfl ?_
 refine yN ?_
 refine yR ?_
 refine Qb (Qe rfl) ?_
 refine Qb (Qm rfl) ?_
 refine Qh ((Qeo x.leaf).comes) rfl rfl rfl fun ⟨g5, c5⟩ => ?_
 refine yS rfl ?_
 refine yN ?_
 refine Qs ?_
 exact Qu rfl rfl fun w s => ⟨(g5, c5), rfl, (same w s).res (List.Sublist.refl _) (by simp [Fa.wr])⟩
theorem QgM (x : NInner) : QC Tryz.prog 310 [.agg x.cells.toArray].toArray [] [] (fun u : Nat × Nat => .slice (some ⟨u.1, 0, none⟩) (YB x.dl x.dr).length u.2) (fun u => [.own (.slice (some ⟨u.1, 0, none⟩) (YB x.dl x.dr).length u.2) (YB x.dl x.dr).length 5 1 (bc (YB x.dl x.dr))]) := by
 refine Qk Tryz.func310 rfl (n := 10) rfl rfl ?_
 intro W
 refine yR ?_
 refine Qo (Q9 rfl) fun g1 => ?_
 refine yS rfl ?_
 refine yN ?_
 refine yR ?_
 refine Qb (Qe rfl) ?_
 refine Qb (QP rfl rfl) ?_
 refine Qb (Qm rfl) ?_
 refine Qb (Qe rfl) ?_
 refine Qb (QP rfl rfl) ?_
 refine Qb (Qm rfl) ?_
 refine Qh ((QbJ x.dl x.dr).comes) rfl rfl rfl fun ⟨g9, c9⟩ => ?_
 refine yS rfl ?_
 refine yN ?_
 refine Qs ?_
 exact Qu rfl rfl fun w s => ⟨(g9, c9), rfl, (same w s).res (List.Sublist.refl _) (by simp [Fa.wr])⟩
theorem Qe9 (n : Nat) (hn : n ≤ 256) (gh gc k : Nat) (hk : k ≤ 1000000000000) (T f : Nat) (u : Value) (pre : List UInt8) [MethT Tryz.prog T "sparsetree/node.preimage" f] [Ent Tryz.prog f] (hp : pre.length ≤ 1000000000)
  (hm : QC Tryz.prog f [u].toArray [] [] (fun u : Nat × Nat => .slice (some ⟨u.1, 0, none⟩) pre.length u.2) (fun u => [.own (.slice (some ⟨u.1, 0, none⟩) pre.length u.2) pre.length 5 1 (bc pre)])) :
  QC Tryz.prog 244 [.pointer (some ⟨gh, 0, none⟩), .iface T u].toArray [HR gh gc n, TBL] [CN gc k] (fun g : Nat => .pointer (some ⟨g, 0, none⟩)) (fun g => [.blk g (Nd.cells ⟨.iface T u, Jj n pre⟩) 177, CN gc (k + 1)]) := by
 refine Qk Tryz.func244 rfl (n := 12) rfl rfl ?_
 intro W
 refine yR ?_
 refine yS rfl ?_
 refine yN ?_
 refine yR ?_
 refine yM rfl ?_
 refine yM rfl ?_
 refine yM rfl ?_
 refine QhM (hm.comes) rfl rfl rfl fun ⟨g8, c8⟩ => ?_
 refine Qh ((VP n hn gh gc k hk pre (some ⟨g8, 0, none⟩) c8 (fun h => by cases h) (by omega)).comes) rfl rfl rfl fun _ => ?_
 refine Qb (QD rfl) ?_
 refine Qo (Q9 rfl) fun g11 => ?_
 refine yS rfl ?_
 refine yN ?_
 refine Qs ?_
 exact Qu rfl rfl fun w s => ⟨g11, rfl, (same w s).res (List.Sublist.refl _) (by simp [Fa.wr])⟩
theorem QcZ (n : Nat) (hn : n ≤ 256) (gh gc k : Nat) (hk : k ≤ 100000000000) (h : Zh) [ht : RdZ h (some ⟨1, 0, none⟩) Jd] (key : B32) (s : Sl) (b : List UInt8) [hs : SlZ h s b] (hb : b.length ≤ 100000000) :
  QC Tryz.prog 172 [.pointer (some ⟨gh, 0, none⟩), .agg (Entry.cells ⟨key, s⟩).toArray].toArray [HR gh gc n] [.zone true h, CN gc k] (fun x : {x : Zh × Option Addr // LeZ h x.1 ∧ TrZ n x.1 (.leaf key b) x.2} => .pointer x.1.2) (fun x => [.zone true x.1.1, CN gc (k + 2)]) := by
 obtain ⟨B, N, c⟩ := s
 obtain rfl : N = b.length := hs.len
 have hB : B = none → b.length = 0 ∧ c = 0 := hs.nil
 have hrd : RdZ h B (bc b) := hs.rd
 refine Qk Tryz.func172 rfl (n := 18) rfl rfl ?_
 intro W
 refine yR ?_
 refine Qo (Q9 rfl) fun g3 => ?_
 refine yS rfl ?_
 refine yN ?_
 refine Qd ?_
 refine Q1 [.blk g3 (Entry.cells ⟨key, ⟨B, b.length, c⟩⟩) 89] [] QJ (same) ?_
 refine Qa 0 rfl (Qi rfl) ?_
 refine Qa 1 rfl (Qi rfl) ?_
 refine Qa 2 rfl (Qe rfl) ?_
 refine Qp 3 rfl (Qm rfl) ?_
 refine Qa 4 rfl (Qe rfl) ?_
 refine Qp 5 rfl (Qf rfl) ?_
 refine Qa 7 rfl (Qe rfl) ?_
 refine Qp 8 rfl (Qf rfl) ?_
 refine Qv 6 ?_
 refine QR 6 rfl ((Qki n hn gh gc k (by omega) key b B c hB hb).comes) rfl rfl rfl (fun xx => same) fun _ => ?_
 refine Qv 9 ?_
 refine QR 9 rfl ((Qhv b B c hB (by omega)).comes) rfl rfl rfl (fun xx => same) fun ⟨A14, c14⟩ => ?_
 refine Qa 10 rfl (QD rfl) ?_
 refine Qa 11 rfl (qq rfl) ?_
 refine Qv 12 ?_
 refine QR 12 rfl ((Qe9 n hn gh gc (k + 1) (by omega) 281 316 (.agg (NLeaf.cells ⟨Y0 n key b, ⟨A14, b.length, c14⟩⟩).toArray) (YO (Y0 n key b)) (by rw [Qc5]; decide) (QpS ⟨Y0 n key b, ⟨A14, b.length, c14⟩⟩)).comes) rfl rfl rfl (fun xx => same) fun g17 => ?_
 refine Qa 13 rfl (Q6 rfl) ?_
 refine QB (by kernel_rfl) ?_
 refine Qc ?_
 dsimp only
 refine Jp (.slice A14 b.length c14) fun h1 B1 c1 e1 hle1 hlen1 hnil1 hz1 hr1 => ?_
 injection e1 with e1 _ e2
 subst e1 e2
 refine qL g17 fun h2 hz2 hr2 => ?_
 refine Qs ?_
 exact Qu rfl rfl fun w s => ⟨⟨(h2, some ⟨g17, 0, none⟩), hz1.trans hz2, ⟨g17, ⟨A14, b.length, c14⟩, rfl, hr2, ⟨rfl, hle1, hnil1, hr1.mono hz2⟩⟩⟩, rfl, (same w s).res (List.Sublist.refl _) (by simp [Fa.wr])⟩
end
section
open Go.RowKit
def YG (l r : Tr) : Tr := if l.kind = 0 ∧ r.kind ≠ 2 then r else if r.kind = 0 ∧ l.kind ≠ 2 then l else .node l r
def YF (l r : Tr) : Nat := if l.kind = 0 ∧ r.kind ≠ 2 then 0 else if r.kind = 0 ∧ l.kind ≠ 2 then 0 else (if l.kind = 0 then 1 else 0) + (if r.kind = 0 then 1 else 0) + 1
theorem i01 (p : Prop) [Decidable p] : (if p then 1 else 0 : Nat) ≤ 1 := by split <;> omega
theorem Qa1 (l r : Tr) : YF l r ≤ 3 := by
 unfold YF
 repeat' split
 all_goals omega
theorem Qgm {n : Nat} {h : Zh} {t : Tr} {p : Option Addr} (x : trZ n h t p) : p.isNone = decide (t.kind = 0) := by
 rcases t with _ | ⟨kk, b⟩ | ⟨l, r⟩
 ·obtain rfl : p = none := x
  rfl
 ·obtain ⟨g, s, rfl, _⟩ := x
  rfl
 obtain ⟨g, pl, pr, rfl, _⟩ := x
 rfl
theorem QbS (n : Nat) (hn : n ≤ 256) (gh gc k : Nat) (hk : k ≤ 100000000000) (h : Zh) [ht : RdZ h (some ⟨1, 0, none⟩) Jd] (l r : Tr) (pl pr : Option Addr) [hl : TrZ n h l pl] [hr : TrZ n h r pr] (hct : l.cnt + r.cnt ≤ 1000000000000) :
  QC Tryz.prog 175 [.pointer (some ⟨gh, 0, none⟩), .pointer pl, .pointer pr].toArray [HR gh gc n] [.zone true h, CN gc k] (fun x : {x : Zh × Option Addr // LeZ h x.1 ∧ TrZ n x.1 (YG l r) x.2} => .pointer x.1.2) (fun x => [.zone true x.1.1, CN gc (k + YF l r)]) := by
 have el := Qgm hl.ok
 have er := Qgm hr.ok
 refine Qk Tryz.func175 rfl (n := 44) rfl rfl ?_
 intro W
 by_cases h1 : l.kind = 0
 ·by_cases h2 : r.kind = 2
  ·have hj : YG l r = .node l r := by unfold YG; rw [if_neg (by omega), if_neg (by omega)]
   have hc : k + YF l r = k + (if l.kind = 0 then 1 else 0) + (if r.kind = 0 then 1 else 0) + 1 := by unfold YF; rw [if_neg (by omega), if_neg (by omega)]; omega
   refine yR ?_
   refine yS rfl ?_
   refine yN ?_
   refine Qd ?_
   refine yR ?_
   refine yM rfl ?_
   refine Qb (Ql (J2 rfl rfl) (el.trans (decide_eq_true h1))) ?_
   refine yM rfl ?_
   refine yM rfl ?_
   refine Qh ((J3 n h r pr).comes) rfl rfl rfl fun _ => ?_
   refine Qb (Ql (QL rfl rfl) (decide_eq_false (fun e => e (by omega)))) ?_
   refine Qb (Qy rfl rfl) ?_
   refine yN ?_
   refine Qt rfl ?_
   refine Qn ?_
   refine Qc ?_
   refine Qd ?_
   refine yR ?_
   refine yM rfl ?_
   refine Qb (Ql (J2 rfl rfl) (er.trans (decide_eq_false (by omega)))) ?_
   refine yM rfl ?_
   refine Qg ?_
   refine Qg ?_
   refine Qg ?_
   refine Qb (Qy rfl rfl) ?_
   refine yN ?_
   refine Qt rfl ?_
   refine Qn ?_
   refine Qc ?_
   refine yR ?_
   refine yM rfl ?_
   refine yM rfl ?_
   refine Qb (QD rfl) ?_
   refine Qo (Q0) fun g7 => ?_
   refine Q7 (Qw rfl rfl) ?_
   refine yN ?_
   refine Qd ?_
   refine Q1 [.blk g7 [.pointer pl, .pointer pr] 178] [] QJ (same) ?_
   refine Qa 0 rfl (Qi rfl) ?_
   refine Qp 1 rfl (Qm rfl) ?_
   refine Qa 2 rfl (Qi rfl) ?_
   refine Qa 3 rfl (Qi rfl) ?_
   refine Qa 5 rfl (Qi rfl) ?_
   refine Qa 6 rfl (Qi rfl) ?_
   refine Qa 9 rfl (Qi rfl) ?_
   refine Qa 11 rfl (Qi rfl) ?_
   refine Qv 4 ?_
   refine QR 4 rfl ((Yq n hn gh gc k (by omega) h l pl).comes) rfl rfl rfl (fun xx => same) fun _ => ?_
   refine Qv 7 ?_
   refine QR 7 rfl ((Yq n hn gh gc (k + if l.kind = 0 then 1 else 0) (by have := i01 (l.kind = 0); omega) h r pr).comes) rfl rfl rfl (fun xx => same) fun _ => ?_
   refine Qa 8 rfl (QD rfl) ?_
   refine Qv 10 ?_
   refine QR 10 rfl ((QaN n h l pl).comes) rfl rfl rfl (fun xx => same) fun _ => ?_
   refine Qv 12 ?_
   refine QR 12 rfl ((QaN n h r pr).comes) rfl rfl rfl (fun xx => same) fun _ => ?_
   refine Qa 13 rfl (Jv (QI rfl rfl) (show _ = ((l.cnt + r.cnt : Nat) : Int) by omega)) ?_
   refine Qa 14 rfl (QD rfl) ?_
   refine Qa 15 rfl (qq rfl) ?_
   refine Qv 16 ?_
   refine QR 16 rfl ((Qe9 n hn gh gc (k + (if l.kind = 0 then 1 else 0) + if r.kind = 0 then 1 else 0) (by have := i01 (l.kind = 0); have := i01 (r.kind = 0); omega) 181 310 (.agg (NInner.cells ⟨pl, pr, dgT n l, dgT n r, ((l.cnt + r.cnt : Nat) : Int)⟩).toArray) (YB (dgT n l) (dgT n r)) (by rw [Zg]; decide) (QgM ⟨pl, pr, dgT n l, dgT n r, ((l.cnt + r.cnt : Nat) : Int)⟩)).comes) rfl rfl rfl (fun xx => same) fun g43 => ?_
   refine Qa 17 rfl (Q6 rfl) ?_
   refine QB (by kernel_rfl) ?_
   refine Qc ?_
   dsimp only
   refine qL g43 fun h2 hz2 hr2 => ?_
   refine Qs ?_
   exact Qu rfl rfl fun w s => ⟨⟨(h2, some ⟨g43, 0, none⟩), hz2, by rw [hj]; exact ⟨g43, pl, pr, rfl, hr2, hl.ok.mono hz2, hr.ok.mono hz2⟩⟩, rfl, by rw [hc]; exact (same w s).res (List.Sublist.refl _) (by simp [Fa.wr])⟩
  have hj : YG l r = r := by unfold YG; rw [if_pos ⟨h1, h2⟩]
  have hc : YF l r = 0 := by unfold YF; rw [if_pos ⟨h1, h2⟩]
  refine yR ?_
  refine yS rfl ?_
  refine yN ?_
  refine Qd ?_
  refine yR ?_
  refine yM rfl ?_
  refine Qb (Ql (J2 rfl rfl) (el.trans (decide_eq_true h1))) ?_
  refine yM rfl ?_
  refine yM rfl ?_
  refine Qh ((J3 n h r pr).comes) rfl rfl rfl fun _ => ?_
  refine Qb (Ql (QL rfl rfl) (decide_eq_true (by omega))) ?_
  refine Qb (Qy rfl rfl) ?_
  refine yN ?_
  refine Qz rfl ?_
  refine yR ?_
  refine yM rfl ?_
  refine yS rfl ?_
  refine yN ?_
  refine Qs ?_
  refine Qr ?_
  exact Qu rfl rfl fun w s => ⟨⟨(h, pr), LeZ.refl h, by rw [hj]; exact hr⟩, rfl, by rw [hc]; exact (same w s).res (List.Sublist.refl _) (by simp [Fa.wr])⟩
 by_cases h2 : r.kind = 0
 ·by_cases h3 : l.kind = 2
  ·have hj : YG l r = .node l r := by unfold YG; rw [if_neg (by omega), if_neg (by omega)]
   have hc : k + YF l r = k + (if l.kind = 0 then 1 else 0) + (if r.kind = 0 then 1 else 0) + 1 := by unfold YF; rw [if_neg (by omega), if_neg (by omega)]; omega
   refine yR ?_
   refine yS rfl ?_
   refine yN ?_
   refine Qd ?_
   refine yR ?_
   refine yM rfl ?_
   refine Qb (Ql (J2 rfl rfl) (el.trans (decide_eq_false h1))) ?_
   refine yM rfl ?_
   refine Qg ?_
   refine Qg ?_
   refine Qg ?_
   refine Qb (Qy rfl rfl) ?_
   refine yN ?_
   refine Qt rfl ?_
   refine Qn ?_
   refine Qc ?_
   refine Qd ?_
   refine yR ?_
   refine yM rfl ?_
   refine Qb (Ql (J2 rfl rfl) (er.trans (decide_eq_true h2))) ?_
   refine yM rfl ?_
   refine yM rfl ?_
   refine Qh ((J3 n h l pl).comes) rfl rfl rfl fun _ => ?_
   refine Qb (Ql (QL rfl rfl) (decide_eq_false (fun e => e (by omega)))) ?_
   refine Qb (Qy rfl rfl) ?_
   refine yN ?_
   refine Qt rfl ?_
   refine Qn ?_
   refine Qc ?_
   refine yR ?_
   refine yM rfl ?_
   refine yM rfl ?_
   refine Qb (QD rfl) ?_
   refine Qo (Q0) fun g7 => ?_
   refine Q7 (Qw rfl rfl) ?_
   refine yN ?_
   refine Qd ?_
   refine Q1 [.blk g7 [.pointer pl, .pointer pr] 178] [] QJ (same) ?_
   refine Qa 0 rfl (Qi rfl) ?_
   refine Qp 1 rfl (Qm rfl) ?_
   refine Qa 2 rfl (Qi rfl) ?_
   refine Qa 3 rfl (Qi rfl) ?_
   refine Qa 5 rfl (Qi rfl) ?_
   refine Qa 6 rfl (Qi rfl) ?_
   refine Qa 9 rfl (Qi rfl) ?_
   refine Qa 11 rfl (Qi rfl) ?_
   refine Qv 4 ?_
   refine QR 4 rfl ((Yq n hn gh gc k (by omega) h l pl).comes) rfl rfl rfl (fun xx => same) fun _ => ?_
   refine Qv 7 ?_
   refine QR 7 rfl ((Yq n hn gh gc (k + if l.kind = 0 then 1 else 0) (by have := i01 (l.kind = 0); omega) h r pr).comes) rfl rfl rfl (fun xx => same) fun _ => ?_
   refine Qa 8 rfl (QD rfl) ?_
   refine Qv 10 ?_
   refine QR 10 rfl ((QaN n h l pl).comes) rfl rfl rfl (fun xx => same) fun _ => ?_
   refine Qv 12 ?_
   refine QR 12 rfl ((QaN n h r pr).comes) rfl rfl rfl (fun xx => same) fun _ => ?_
   refine Qa 13 rfl (Jv (QI rfl rfl) (show _ = ((l.cnt + r.cnt : Nat) : Int) by omega)) ?_
   refine Qa 14 rfl (QD rfl) ?_
   refine Qa 15 rfl (qq rfl) ?_
   refine Qv 16 ?_
   refine QR 16 rfl ((Qe9 n hn gh gc (k + (if l.kind = 0 then 1 else 0) + if r.kind = 0 then 1 else 0) (by have := i01 (l.kind = 0); have := i01 (r.kind = 0); omega) 181 310 (.agg (NInner.cells ⟨pl, pr, dgT n l, dgT n r, ((l.cnt + r.cnt : Nat) : Int)⟩).toArray) (YB (dgT n l) (dgT n r)) (by rw [Zg]; decide) (QgM ⟨pl, pr, dgT n l, dgT n r, ((l.cnt + r.cnt : Nat) : Int)⟩)).comes) rfl rfl rfl (fun xx => same) fun g43 => ?_
   refine Qa 17 rfl (Q6 rfl) ?_
   refine QB (by kernel_rfl) ?_
   refine Qc ?_
   dsimp only
   refine qL g43 fun h2 hz2 hr2 => ?_
   refine Qs ?_
   exact Qu rfl rfl fun w s => ⟨⟨(h2, some ⟨g43, 0, none⟩), hz2, by rw [hj]; exact ⟨g43, pl, pr, rfl, hr2, hl.ok.mono hz2, hr.ok.mono hz2⟩⟩, rfl, by rw [hc]; exact (same w s).res (List.Sublist.refl _) (by simp [Fa.wr])⟩
  have hj : YG l r = l := by unfold YG; rw [if_neg (by omega), if_pos ⟨h2, h3⟩]
  have hc : YF l r = 0 := by unfold YF; rw [if_neg (by omega), if_pos ⟨h2, h3⟩]
  refine yR ?_
  refine yS rfl ?_
  refine yN ?_
  refine Qd ?_
  refine yR ?_
  refine yM rfl ?_
  refine Qb (Ql (J2 rfl rfl) (el.trans (decide_eq_false h1))) ?_
  refine yM rfl ?_
  refine Qg ?_
  refine Qg ?_
  refine Qg ?_
  refine Qb (Qy rfl rfl) ?_
  refine yN ?_
  refine Qt rfl ?_
  refine Qn ?_
  refine Qc ?_
  refine Qd ?_
  refine yR ?_
  refine yM rfl ?_
  refine Qb (Ql (J2 rfl rfl) (er.trans (decide_eq_true h2))) ?_
  refine yM rfl ?_
  refine yM rfl ?_
  refine Qh ((J3 n h l pl).comes) rfl rfl rfl fun _ => ?_
  refine Qb (Ql (QL rfl rfl) (decide_eq_true (by omega))) ?_
  refine Qb (Qy rfl rfl) ?_
  refine yN ?_
  refine Qz rfl ?_
  refine yR ?_
  refine yM rfl ?_
  refine yS rfl ?_
  refine yN ?_
  refine Qs ?_
  refine Qr ?_
  exact Qu rfl rfl fun w s => ⟨⟨(h, pl), LeZ.refl h, by rw [hj]; exact hl⟩, rfl, by rw [hc]; exact (same w s).res (List.Sublist.refl _) (by simp [Fa.wr])⟩
 have hj : YG l r = .node l r := by unfold YG; rw [if_neg (by omega), if_neg (by omega)]
 have hc : k + YF l r = k + (if l.kind = 0 then 1 else 0) + (if r.kind = 0 then 1 else 0) + 1 := by unfold YF; rw [if_neg (by omega), if_neg (by omega)]; omega
 refine yR ?_
 refine yS rfl ?_
 refine yN ?_
 refine Qd ?_
 refine yR ?_
 refine yM rfl ?_
 refine Qb (Ql (J2 rfl rfl) (el.trans (decide_eq_false h1))) ?_
 refine yM rfl ?_
 refine Qg ?_
 refine Qg ?_
 refine Qg ?_
 refine Qb (Qy rfl rfl) ?_
 refine yN ?_
 refine Qt rfl ?_
 refine Qn ?_
 refine Qc ?_
 refine Qd ?_
 refine yR ?_
 refine yM rfl ?_
 refine Qb (Ql (J2 rfl rfl) (er.trans (decide_eq_false h2))) ?_
 refine yM rfl ?_
 refine Qg ?_
 refine Qg ?_
 refine Qg ?_
 refine Qb (Qy rfl rfl) ?_
 refine yN ?_
 refine Qt rfl ?_
 refine Qn ?_
 refine Qc ?_
 refine yR ?_
 refine yM rfl ?_
 refine yM rfl ?_
 refine Qb (QD rfl) ?_
 refine Qo (Q0) fun g7 => ?_
 refine Q7 (Qw rfl rfl) ?_
 refine yN ?_
 refine Qd ?_
 refine Q1 [.blk g7 [.pointer pl, .pointer pr] 178] [] QJ (same) ?_
 refine Qa 0 rfl (Qi rfl) ?_
 refine Qp 1 rfl (Qm rfl) ?_
 refine Qa 2 rfl (Qi rfl) ?_
 refine Qa 3 rfl (Qi rfl) ?_
 refine Qa 5 rfl (Qi rfl) ?_
 refine Qa 6 rfl (Qi rfl) ?_
 refine Qa 9 rfl (Qi rfl) ?_
 refine Qa 11 rfl (Qi rfl) ?_
 refine Qv 4 ?_
 refine QR 4 rfl ((Yq n hn gh gc k (by omega) h l pl).comes) rfl rfl rfl (fun xx => same) fun _ => ?_
 refine Qv 7 ?_
 refine QR 7 rfl ((Yq n hn gh gc (k + if l.kind = 0 then 1 else 0) (by have := i01 (l.kind = 0); omega) h r pr).comes) rfl rfl rfl (fun xx => same) fun _ => ?_
 refine Qa 8 rfl (QD rfl) ?_
 refine Qv 10 ?_
 refine QR 10 rfl ((QaN n h l pl).comes) rfl rfl rfl (fun xx => same) fun _ => ?_
 refine Qv 12 ?_
 refine QR 12 rfl ((QaN n h r pr).comes) rfl rfl rfl (fun xx => same) fun _ => ?_
 refine Qa 13 rfl (Jv (QI rfl rfl) (show _ = ((l.cnt + r.cnt : Nat) : Int) by omega)) ?_
 refine Qa 14 rfl (QD rfl) ?_
 refine Qa 15 rfl (qq rfl) ?_
 refine Qv 16 ?_
 refine QR 16 rfl ((Qe9 n hn gh gc (k + (if l.kind = 0 then 1 else 0) + if r.kind = 0 then 1 else 0) (by have := i01 (l.kind = 0); have := i01 (r.kind = 0); omega) 181 310 (.agg (NInner.cells ⟨pl, pr, dgT n l, dgT n r, ((l.cnt + r.cnt : Nat) : Int)⟩).toArray) (YB (dgT n l) (dgT n r)) (by rw [Zg]; decide) (QgM ⟨pl, pr, dgT n l, dgT n r, ((l.cnt + r.cnt : Nat) : Int)⟩)).comes) rfl rfl rfl (fun xx => same) fun g43 => ?_
 refine Qa 17 rfl (Q6 rfl) ?_
 refine QB (by kernel_rfl) ?_
 refine Qc ?_
 dsimp only
 refine qL g43 fun h2 hz2 hr2 => ?_
 refine Qs ?_
 exact Qu rfl rfl fun w s => ⟨⟨(h2, some ⟨g43, 0, none⟩), hz2, by rw [hj]; exact ⟨g43, pl, pr, rfl, hr2, hl.ok.mono hz2, hr.ok.mono hz2⟩⟩, rfl, by rw [hc]; exact (same w s).res (List.Sublist.refl _) (by simp [Fa.wr])⟩
end
section
open Go.RowKit
theorem Zt (n : Nat) (h : Zh) (t : Tr) (p : Option Addr) [ht : TrZ n h t p] (i : Int) (b : Bool) (hb : (i = 0) = (b = false)) : QC Tryz.prog 155 [.pointer p, .int .i64 i].toArray [.zone false h] [] (fun _ : Unit => .pointer (YS h b p)) (fun _ => []) := by
 refine Qk Tryz.func155 rfl (n := 11) rfl rfl ?_
 intro W
 refine yR ?_
 refine yS rfl ?_
 refine yN ?_
 refine Qd ?_
 refine yR ?_
 refine yM rfl ?_
 refine Qb (QG rfl rfl) ?_
 refine yN ?_
 refine QU rfl (fun h1 => ?_) (fun h1 => ?_)
 ·obtain rfl : b = false := hb.mp h1
  refine yR ?_
  refine yM rfl ?_
  refine Qh ((Qgy n h t p).comes) rfl rfl rfl fun _ => ?_
  refine yS rfl ?_
  refine yN ?_
  refine Qs ?_
  refine Qr ?_
  exact Qu rfl rfl fun w s => ⟨(), rfl, s.res (List.nil_sublist _) (by simp)⟩
 obtain rfl : b = true := by cases b <;> simp_all
 refine Qn ?_
 refine Qc ?_
 refine yR ?_
 refine yM rfl ?_
 refine Qh ((QdR n h t p).comes) rfl rfl rfl fun _ => ?_
 refine yS rfl ?_
 refine yN ?_
 refine Qs ?_
 exact Qu rfl rfl fun w s => ⟨(), rfl, s.res (List.nil_sublist _) (by simp)⟩
theorem Qde (b : B32) (i : Nat) : (((Y2 b i : Nat) : Int) = 0) = (Q4 b i = false) := by
 unfold Y2
 cases Q4 b i <;> simp
theorem QeS (b : B32) (i : Nat) : ((1 - ((Y2 b i : Nat) : Int)) = 0) = ((!Q4 b i) = false) := by
 unfold Y2
 cases Q4 b i <;> simp
theorem QmI (p : Option Addr) (key : B32) : QC Tryz.prog 153 [.pointer p, .agg key.cells.toArray].toArray [] [] (fun u : Nat × Nat => .func (.func 228) #[] [.pointer (some ⟨u.1, 0, none⟩), .pointer (some ⟨u.2, 0, none⟩)].toArray) (fun u => [.blk u.1 [.pointer p] 31, .blk u.2 key.cells 34]) := by
 refine Qk Tryz.func153 rfl (n := 6) rfl rfl ?_
 intro W
 refine yR ?_
 refine Qo (JW rfl) fun g2 => ?_
 refine Qo (Q9 rfl) fun g3 => ?_
 refine yS rfl ?_
 refine yN ?_
 refine yR ?_
 refine Qb (Y1 rfl rfl) ?_
 refine yS rfl ?_
 refine yN ?_
 refine Qs ?_
 exact Qu rfl rfl fun w s => ⟨(g2, g3), rfl, (same w s).res (List.Sublist.refl _) (by simp [Fa.wr])⟩
theorem Qhn (n : Nat) (h : Zh) (t : Tr) (p : Option Addr) [ht : TrZ n h t p] (key : B32) (D : Nat) (hD : WayTo key t D) (g1 g2 : Nat) : Qnc Tryz.prog 228 [.pointer (some ⟨g1, 0, none⟩), .pointer (some ⟨g2, 0, none⟩)] [.rd (some ⟨g2, 0, none⟩) key.cells, .zone false h] [.blk g1 [.pointer p] 31] (List.range (D + 1)) (fun i => [.int .i64 (i : Int), .pointer (JY h key p i)]) [.blk g1 [.pointer (JY h key p D)] 31] := by
 have hle := hD.le
 refine QhN Tryz.func228 rfl (n := 21) rfl rfl ?_
 intro l J Rm m0 W hJw hRm hy h0
 refine yR ?_
 refine yS rfl ?_
 refine yN ?_
 refine Qq ?_
 refine QS (fun (s : Nat × List Fa) => s.1 ≤ D ∧ J (List.range s.1) s.2) (fun (s : Nat × List Fa) => [(4, .int .i64 (s.1 : Int)), (0, .func (.yield l) #[] #[]), (1, .pointer (some ⟨g1, 0, none⟩)), (2, .pointer (some ⟨g2, 0, none⟩))]) (fun (s : Nat × List Fa) => .blk g1 [.pointer (JY h key p s.1)] 31 :: .rd (some ⟨g2, 0, none⟩) key.cells :: .zone false h :: (s.2 ++ Rm)) (fun (s : Nat × List Fa) => D + 1 - s.1) (0, m0) ((show 0 ≤ D ∧ J (List.range 0) m0 from ⟨by omega, h0⟩)) ⟨rfl, rfl, rfl, rfl, trivial⟩ (fun _ s => s) ?_
 rintro ⟨i, mm⟩ ⟨hi, hJ⟩
 dsimp only at hi hJ ⊢
 refine Qd ?_
 refine yR ?_
 refine yM rfl ?_
 refine yM rfl ?_
 refine Qb (Qf rfl) ?_
 refine Zz (hy _ _ _ _ (QdE (m := D + 1) (i := i) (by omega)) hJ) hRm rfl rfl fun m' hJ' => ?_
 rw [← List.range_succ] at hJ'
 by_cases hk : (Jg key t i).kind = 2
 ·have hiD : i < D := by
   rcases Nat.lt_or_ge i D with h1 | h1
   ·exact h1
   obtain rfl : i = D := by omega
   exact (hD.end_ hk).elim
  refine yM rfl ?_
  refine Qb (Qf rfl) ?_
  refine Qh ((J3 n h (Jg key t i) (JY h key p i)).comes) rfl rfl rfl fun _ => ?_
  refine Qb (Ql (QG rfl rfl) (decide_eq_true (by omega))) ?_
  refine Qb (Qy rfl rfl) ?_
  refine yN ?_
  refine Qz rfl ?_
  refine Qn ?_
  refine Qc ?_
  refine Qd ?_
  refine Qq ?_
  refine Q1 [.blk g1 [.pointer (JY h key p i)] 31, .rd (some ⟨g2, 0, none⟩) key.cells] [] QJ (same) ?_
  refine Qp 0 rfl (Qf rfl) ?_
  refine Qp 1 rfl (Qm rfl) ?_
  refine Qa 2 rfl (Qi rfl) ?_
  refine Qv 3 ?_
  refine QR 3 rfl ((ZH key i (by omega)).comes) rfl rfl rfl (fun xx => same) fun _ => ?_
  refine Qv 4 ?_
  refine QR 4 rfl ((Zt n h (Jg key t i) (JY h key p i) _ (Q4 key i) (Qde key i)).comes) rfl rfl rfl (fun xx => same) fun _ => ?_
  refine Qv 5 ?_
  refine J4 5 rfl (QV rfl rfl rfl) ?_
  refine Q2 ?_
  refine Qc ?_
  refine Q5 ?_
  refine yM rfl ?_
  refine Qb (QI rfl rfl) ?_
  refine yS rfl ?_
  refine QE ?_
  exact QH (i + 1, m') ((show i + 1 ≤ D ∧ J (List.range (i + 1)) m' from ⟨by omega, hJ'⟩)) ((show D + 1 - (i + 1) < D + 1 - i by omega)) ⟨rfl, rfl, rfl, rfl, trivial⟩ (fun _ s => s)
 have hiD : i = D := by
  rcases Nat.lt_or_ge i D with h1 | h1
  ·exact (hk (hD.on i h1)).elim
  omega
 subst hiD
 refine yM rfl ?_
 refine Qb (Qf rfl) ?_
 refine Qh ((J3 n h (Jg key t i) (JY h key p i)).comes) rfl rfl rfl fun _ => ?_
 refine Qb (Ql (QG rfl rfl) (decide_eq_false (by omega))) ?_
 refine Qb (Qy rfl rfl) ?_
 refine yN ?_
 refine Qt rfl ?_
 refine QK ?_
 refine Qx ?_
 refine Qx ?_
 refine Q8 ?_
 refine ZJ ?_
 exact Vg rfl fun w s => ⟨_, m', rfl, hJ', s.res ((((List.sublist_append_left _ _).cons _).cons _).cons_cons _) (by
  intro f hf
  rcases List.mem_cons.1 hf with rfl | hf
  ·rfl
  exact hJw _ _ hJ' f hf)⟩
end
end Go.Proofs.YtjhlbbgikccclaaGreatDoor
