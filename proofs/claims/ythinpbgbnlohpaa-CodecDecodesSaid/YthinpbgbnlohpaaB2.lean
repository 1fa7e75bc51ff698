/- Laws of my own, part 2: building rows, comparing them, loads in a region that draws. -/
import Derived.Test.YthinpbgbnlohpaaB1
import Derived.StillTailTactics
import Derived.BigQuiet
import Derived.Deep.QuietTactic
namespace Go.Proofs.Ythinpbgbnlohpaa
set_option linter.unusedSimpArgs false
set_option linter.unusedVariables false
open Go.RowKit

/-! ### build -/
theorem foldl_set (off : Nat) : ∀ (cs : List Value) (k : Nat) (Z : Array Value), off + k + cs.length ≤ Z.size →
    (cs.zipIdx k).foldl (fun acc (x : Value × Nat) => acc.setIfInBounds (off + x.2) x.1) Z = (Z.toList.take (off + k) ++ cs ++ Z.toList.drop (off + k + cs.length)).toArray := by
  intro cs
  induction cs with
  | nil => intro k Z h; simp
  | cons c cs ih =>
    intro k Z h
    simp only [List.length_cons] at h
    rw [List.zipIdx_cons, List.foldl_cons, ih (k + 1) _ (by simp; omega)]
    congr 1
    simp only [Array.toList_setIfInBounds]
    have e : off + (k + 1) = off + k + 1 := by omega
    have hk : off + k < Z.toList.length := by simp; omega
    rw [e, List.take_add_one, List.take_set_of_le (by omega)]
    simp only [List.getElem?_set_self hk, Option.toList_some]
    rw [List.drop_set_of_lt (by omega)]
    simp [List.length_cons, Nat.add_assoc, Nat.add_comm 1]
theorem fold_part (off : Nat) (cs Z : Array Value) (h : off + cs.size ≤ Z.size) :
    cs.zipIdx.foldl (fun acc (x : Value × Nat) => acc.setIfInBounds (off + x.2) x.1) Z = (Z.toList.take off ++ cs.toList ++ Z.toList.drop (off + cs.size)).toArray := by
  rw [← Array.foldl_toList, Array.toList_zipIdx, foldl_set off cs.toList 0 Z (by simpa using h)]
  simp
theorem fill_one (place : Nat → Option (Nat × Nat)) (Z : Array Value) (i : Nat) (v : Value) (rest : List (Nat × Value)) (off size : Nat) (hp : place i = some (off, size)) (hs : v.cells.size = size) (hz : off + size ≤ Z.size) :
    Instr.fill place Z ((i, v) :: rest) = Instr.fill place (Z.toList.take off ++ v.cells.toList ++ Z.toList.drop (off + size)).toArray rest := by
  subst hs
  rw [Instr.fill]
  simp only [hp]
  rw [if_neg (by simp; omega), fold_part off v.cells Z (by omega)]

section
variable {P : Program} {ops : Array Oper} {rest : List Oper} {a : Act} {w : World} {Q : Exit → Act → World → Prop}
/-- a struct that is made of one part, all of it -/
theorem run_build_one (z : Array Value) (t : TypeId) (fs : Array Field) (i : TypeInfo) (hu : P.underlying t = some (.struct fs)) (hz : (P.info? t).map (fun i => (i.zero, i.size)) = some (some (.agg z), z.size))
    (f : Field) (hf : fs = #[f]) (ho : f.offset = 0) (hi : P.info? f.type = some i) (hs : i.size = z.size) (v : Value) (hv : v.cells.size = z.size) :
    (Instr.build t #[(0, v)]).run P w = .ok (.agg v.cells) w := by
  obtain ⟨hz1, _⟩ := zero_of_info hz
  subst hf
  simp only [Instr.build, Sem.run_bind, hz1, Result.andThen_ok, run_underlying hu, Value.cells]
  simp only [List.mapM_toArray, List.mapM_cons, List.mapM_nil, sizeOf, typeInfo, ho]
  simp [hi, hs]
  rw [fill_one _ _ 0 v [] 0 z.size (by simp) hv (by omega)]
  have hd : List.drop z.size z.toList = [] := by simp
  simp [Instr.fill, hd, Value.cells]
end
section
variable {P : Program} {a : Act} {w w' : World} {o : Oper} {v : Value}
theorem ex_build {t : TypeId} {l : List (Nat × Operand)} (ho : o.op = .build t l.toArray) (ps : List (Nat × Value)) (hp : (l.map fun p => (p.1, a.eval p.2)) = ps) (h : (Instr.build t ps.toArray).run P w = .ok v w') :
    (execOp a.eval o).run P w = .ok (.value v) w' := by
  unfold execOp
  simp only [ho]
  have e : (l.toArray.map fun (x : Nat × Operand) => match x with | (i, x) => (i, a.eval x)) = ps.toArray := by
    rw [← hp]; simp
  rw [e, Sem.run_bind, h]
  rfl
theorem rangeAt_new' (w : World) (cs : List Value) (T : TypeId) : (w.alloc (.cells cs.toArray T)).rangeAt w.heap.size 0 cs := by
  simpa using rangeAt_new w cs.toArray T
end
/-! ### cutting a slice -/
def cutA (A : Option Addr) (c i size : Nat) : Option Addr := if c = i then A else A.map (·.add (i * size))
theorem flat_drop {α : Type} {n : Nat} {f : α → List Value} (hf : ∀ x, (f x).length = n) : ∀ (i : Nat) (l : List α), (l.flatMap f).drop (i * n) = (l.drop i).flatMap f
  | 0, l => by simp
  | i + 1, [] => by simp
  | i + 1, x :: l => by
    rw [List.flatMap_cons, List.drop_succ_cons, ← flat_drop hf i l, Nat.succ_mul, Nat.add_comm (i * n) n, ← List.drop_drop]
    congr 1
    rw [← hf x]
    exact List.drop_left
theorem flat_take {α : Type} {n : Nat} {f : α → List Value} (hf : ∀ x, (f x).length = n) : ∀ (i : Nat) (l : List α), (l.flatMap f).take (i * n) = (l.take i).flatMap f
  | 0, l => by simp
  | i + 1, [] => by simp
  | i + 1, x :: l => by
    rw [List.flatMap_cons, List.take_succ_cons, List.flatMap_cons, ← flat_take hf i l, Nat.succ_mul, Nat.add_comm (i * n) n, List.take_append]
    congr 1
    · rw [List.take_of_length_le (by rw [hf]; omega)]
    · rw [hf, Nat.add_sub_cancel_left]
theorem cut_Rd {w : World} {A : Option Addr} {cs : List Value} {n c i size : Nat} (h : Rd w A cs) (hl : cs.length = n * size) (hn : n ≤ c) (hi : i ≤ n) : Rd w (cutA A c i size) (cs.drop (i * size)) := by
  unfold cutA
  split
  · have : i = n := by omega
    subst this
    rw [List.drop_of_length_le (by omega)]
    exact Rd.nil _ _
  · intro j v hv
    rw [List.getElem?_drop] at hv
    obtain ⟨b, o, rfl, hc⟩ := h _ v hv
    exact ⟨b, o + i * size, by simp [Addr.add_mid], by rwa [Nat.add_assoc]⟩
section
variable {P : Program} {a : Act} {w : World} {o : Oper}
section
variable {T e size : Nat} {x : Operand} {A : Option Addr} {n c : Nat}
theorem cut_l {xl : Operand} {kl : IntKind} {L : Int} (ho : o.op = .slice T x (some xl) none none) (hT : P.underlying T = some (.slice e)) (hs : (P.info? e).map (·.size) = some size) (hx : a.eval x = .slice A n c) (hl : a.eval xl = .int kl L) (h0 : 0 ≤ L) (h1 : L ≤ n) :
    (execOp a.eval o).run P w = .ok (.value (.slice (cutA A c L.toNat size) (n - L.toNat) (c - L.toNat))) w := by
  obtain ⟨i, hi, rfl⟩ := Option.map_eq_some_iff.1 hs
  have hel : P.elem T = e := by simp [Program.elem, hT]
  have hu : P.underlying T = some (.slice (P.elem T)) := by rw [hel]; exact hT
  unfold execOp
  simp only [ho, hx, Option.map_some, Option.map_none, hl]
  rw [Sem.run_bind, run_sliceAt_slice _ _ _ _ _ _ hu, run_slice_l w T A n c hu kl L h0 h1, hel]
  simp [sizeOf, typeInfo, hi, sliced, Result.andThen, cutA]
theorem cut_h {xh : Operand} {kh : IntKind} {H : Int} (ho : o.op = .slice T x none (some xh) none) (hT : P.underlying T = some (.slice e)) (hs : (P.info? e).map (·.size) = some size) (hx : a.eval x = .slice A n c) (hh : a.eval xh = .int kh H) (h0 : 0 ≤ H) (h1 : H ≤ c) :
    (execOp a.eval o).run P w = .ok (.value (.slice (cutA A c 0 size) H.toNat c)) w := by
  obtain ⟨i, hi, rfl⟩ := Option.map_eq_some_iff.1 hs
  have hel : P.elem T = e := by simp [Program.elem, hT]
  have hu : P.underlying T = some (.slice (P.elem T)) := by rw [hel]; exact hT
  unfold execOp
  simp only [ho, hx, Option.map_some, Option.map_none, hh]
  rw [Sem.run_bind, run_sliceAt_slice _ _ _ _ _ _ hu, run_slice_h w T A n c hu kh H h0 h1, hel]
  simp [sizeOf, typeInfo, hi, sliced, Result.andThen, cutA]
theorem cut_lh {xl xh : Operand} {kl kh : IntKind} {L H : Int} (ho : o.op = .slice T x (some xl) (some xh) none) (hT : P.underlying T = some (.slice e)) (hs : (P.info? e).map (·.size) = some size) (hx : a.eval x = .slice A n c) (hl : a.eval xl = .int kl L) (hh : a.eval xh = .int kh H) (h0 : 0 ≤ L) (h1 : L ≤ H) (h2 : H ≤ c) :
    (execOp a.eval o).run P w = .ok (.value (.slice (cutA A c L.toNat size) (H.toNat - L.toNat) (c - L.toNat))) w := by
  obtain ⟨i, hi, rfl⟩ := Option.map_eq_some_iff.1 hs
  have hel : P.elem T = e := by simp [Program.elem, hT]
  have hu : P.underlying T = some (.slice (P.elem T)) := by rw [hel]; exact hT
  unfold execOp
  simp only [ho, hx, Option.map_some, Option.map_none, hl, hh]
  rw [Sem.run_bind, run_sliceAt_slice _ _ _ _ _ _ hu, run_slice_lh w T A n c hu kl kh L H h0 h1 h2, hel]
  simp [sizeOf, typeInfo, hi, sliced, Result.andThen, cutA]
end
end

/-! ### single operations -/
section
variable {P : Program} {a : Act} {w : World} {o : Oper}
theorem ex_move {x : Operand} {v : Value} (ho : o.op = .move x) (hx : a.eval x = v) : (execOp a.eval o).run P w = .ok (.value v) w := by
  unfold execOp
  simp only [ho, hx]
  rfl
theorem ex_assign {x : Operand} {v : Value} (ho : o.op = .assign x) (hx : a.eval x = v) : (execOp a.eval o).run P w = .ok (.value v) w := by
  unfold execOp
  simp only [ho, hx]
  rfl
theorem ex_load_row {ty : TypeId} {x : Operand} (ho : o.op = .load ty x) {b off : Nat} (hx : a.eval x = .pointer (some ⟨b, off, none⟩)) {cs : List Value} {d : TypeDesc} (hc : w.rangeAt b off cs)
    (hu : P.underlying ty = some d) (hd : d.isRow = true) (hi : (P.info? ty).map (·.size) = some cs.length) : (execOp a.eval o).run P w = .ok (.value (.agg cs.toArray)) w := by
  unfold execOp
  simp only [ho, hx, Instr.loadAt, Instr.sureAddr, Sem.run_bind, Sem.run_pure, Result.andThen_ok, run_loadVar_mid w b off ty cs d hc hu hd hi]
theorem ex_load_cell {ty : TypeId} {x : Operand} (ho : o.op = .load ty x) {b off : Nat} (hx : a.eval x = .pointer (some ⟨b, off, none⟩)) {v : Value} {d : TypeDesc} (hc : w.cell? ⟨b, off, none⟩ = some v)
    (hu : P.underlying ty = some d) (hd : d.isRow = false) : (execOp a.eval o).run P w = .ok (.value v) w := by
  have hagg : (isAgg ty).run P w = .ok false w := by
    unfold isAgg
    rw [Sem.run_bind, run_underlying hu w]
    cases d <;> simp_all
  unfold execOp
  simp only [ho, hx, Instr.loadAt, Instr.sureAddr, Sem.run_bind, Sem.run_pure, Result.andThen_ok, loadVar, hagg]
  simp [load, Sem.run, hc]
theorem ex_alloc {T : TypeId} (ho : o.op = .alloc T) {z : Value} (hz : (P.info? T).map (fun i => (i.zero, i.size)) = some (some z, z.cells.size)) :
    (execOp a.eval o).run P w = .ok (.value (.pointer (some ⟨w.heap.size, 0, none⟩))) (w.alloc (.cells z.cells T)) := by
  obtain ⟨hz1, hz2⟩ := zero_of_info hz
  unfold execOp
  simp only [ho, Instr.alloc, newVar, newRow, newObj, Sem.run_bind, hz1, Result.andThen_ok, Sem.run_pure]
  rfl
theorem ex_store_new {T : TypeId} {p x : Operand} (ho : o.op = .store T p x) {z cs : Array Value} (hp : a.eval p = .pointer (some ⟨w.heap.size, 0, none⟩)) (hx : a.eval x = .agg cs)
    (hz : (P.info? T).map (·.size) = some cs.size) (hs : z.size = cs.size) (h1 : cs.all (·.oneCell') = true) : (execOp a.eval o).run P (w.alloc (.cells z T)) = .ok .skip (w.alloc (.cells cs T)) := by
  unfold execOp
  simp only [ho, hp, hx]
  have h := run_storeAt_new (P := P) w T z cs hz hs h1
  rw [Sem.run_bind, h]
  rfl
theorem ex_neqI {T T' : TypeId} {x y : Operand} (ho : o.op = .binOp .neq T x y T') {k : IntKind} {m n : Int} (hx : a.eval x = .int k m) (hy : a.eval y = .int k n) {v : Bool} (hv : (m != n) = v) : (execOp a.eval o).run P w = .ok (.value (.bool v)) w := by
  subst hv
  unfold execOp
  simp only [ho, hx, hy, eqGuard_at_int, binOp_neq]
  rfl
theorem ex_eqlI {T T' : TypeId} {x y : Operand} (ho : o.op = .binOp .eql T x y T') {k : IntKind} {m n : Int} (hx : a.eval x = .int k m) (hy : a.eval y = .int k n) {v : Bool} (hv : (m == n) = v) : (execOp a.eval o).run P w = .ok (.value (.bool v)) w := by
  subst hv
  unfold execOp
  simp only [ho, hx, hy, eqGuard_at_int, binOp_eql]
  rfl
theorem ex_pick {c x y : Operand} (ho : o.op = .pick c x y) {t : Bool} (hc : a.eval c = .bool t) {v : Value} (hv : (if t = true then a.eval x else a.eval y) = v) : (execOp a.eval o).run P w = .ok (.value v) w := by
  subst hv
  unfold execOp
  simp only [ho, hc, asBool]
  rfl
theorem ex_fieldAt {T : TypeId} {x : Operand} {i : Nat} (ho : o.op = .fieldAddr T x i) {b off : Nat} (hx : a.eval x = .pointer (some ⟨b, off, none⟩)) {fs : Array Field} (hT : P.underlying T = some (.struct fs)) {f : Field} (hf : fs[i]? = some f) {s : Nat} (hs : (P.info? f.type).map (·.size) = some (s + 1)) {k : Nat} (hk : off + f.offset = k) :
    (execOp a.eval o).run P w = .ok (.value (.pointer (some ⟨b, k, none⟩))) w := by
  obtain ⟨j, hj, hjs⟩ := Option.map_eq_some_iff.1 hs
  subst hk
  unfold execOp
  simp only [ho, hx]
  simp [Instr.fieldAt, run_underlying hT, hf, Instr.sureAddr, fieldPlace, sizeOf, typeInfo, hj, hjs, Addr.add_mid]
theorem ex_index {T e size : Nat} {x i : Operand} (ho : o.op = .indexAddr T x i) (hT : P.underlying T = some (.slice e)) (hs : (P.info? e).map (·.size) = some size) {b off n c : Nat} (hx : a.eval x = .slice (some ⟨b, off, none⟩) n c) {k : IntKind} {I : Int} (hi : a.eval i = .int k I) (h0 : 0 ≤ I) (h1 : I < n) :
    (execOp a.eval o).run P w = .ok (.value (.pointer (some ⟨b, off + I.toNat * size, none⟩))) w := by
  obtain ⟨i, hi', rfl⟩ := Option.map_eq_some_iff.1 hs
  have hel : P.elem T = e := by simp [Program.elem, hT]
  have hu : P.underlying T = some (.slice (P.elem T)) := by rw [hel]; exact hT
  unfold execOp
  simp only [ho, hx, hi]
  rw [Sem.run_bind, run_indexAt_slice w T _ n c k I hu, if_pos ⟨h0, h1⟩, hel]
  simp [sizeOf, typeInfo, hi', Result.andThen, Addr.add_mid]
end

section
variable {P : Program} {a : Act} {w : World} {o : Oper}
theorem ex_eql {T T' : TypeId} {x y : Operand} (ho : o.op = .binOp .eql T x y T') {xs ys : Array Value} (hx : a.eval x = .agg xs) (hy : a.eval y = .agg ys) (hm : P.eqGuardType P.depth T = false) {v : Value} (h : (binOp .eql T (.agg xs) (.agg ys)).run P w = .ok v w) :
    (execOp a.eval o).run P w = .ok (.value v) w := by
  unfold execOp
  simp only [ho, hx, hy]
  rw [Sem.run_bind, Sem.run_bind, run_eqGuard_agg w _ _ _ _ _ _ hm, Result.andThen_ok, h]
  rfl
theorem ex_neq {T T' : TypeId} {x y : Operand} (ho : o.op = .binOp .neq T x y T') {xs ys : Array Value} (hx : a.eval x = .agg xs) (hy : a.eval y = .agg ys) (hm : P.eqGuardType P.depth T = false) {v : Value} (h : (binOp .neq T (.agg xs) (.agg ys)).run P w = .ok v w) :
    (execOp a.eval o).run P w = .ok (.value v) w := by
  unfold execOp
  simp only [ho, hx, hy]
  rw [Sem.run_bind, Sem.run_bind, run_eqGuard_agg w _ _ _ _ _ _ hm, Result.andThen_ok, h]
  rfl
theorem part_row {T n : Nat} {d : TypeDesc} (hu : P.underlying T = some d) (hd : d.isRow = true) (hs : (P.info? T).map (·.size) = some n) (cs : Array Value) (off : Nat) : (part T cs off).run P w = .ok (.agg (cs.extract off (off + n))) w := by
  obtain ⟨i, hi, rfl⟩ := Option.map_eq_some_iff.1 hs
  have hagg : (isAgg T).run P w = .ok true w := by
    unfold isAgg
    rw [Sem.run_bind, run_underlying hu w]
    cases d <;> simp_all
  simp [part, hagg, sizeOf, typeInfo, hi]
theorem eq_B32 {T e : TypeId} (d : Nat) (ht : P.underlying T = some (.array 32 e)) (he : P.underlying e = some (.int .u8)) (hs : (P.info? e).map (·.size) = some 1) (x y : B32) :
    (Op.equalIn (d + 2) T (.agg x.cells.toArray) (.agg y.cells.toArray)).run P w = .ok (decide (x = y)) w := by
  obtain ⟨i, hi, h1⟩ := Option.map_eq_some_iff.1 hs
  have := run_equalIn_bytes (P := P) w d T e 32 ht he (fun w => by simp [sizeOf, typeInfo, hi, h1]) x.1 y.1 x.2 y.2
  rw [show decide (x = y) = (x.1 == y.1) by rw [Bool.eq_iff_iff]; simp [Subtype.ext_iff]]
  exact this
theorem eql_B32 {T e : TypeId} (ht : P.underlying T = some (.array 32 e)) (he : P.underlying e = some (.int .u8)) (hs : (P.info? e).map (·.size) = some 1) (x y : B32) :
    (binOp .eql T (.agg x.cells.toArray) (.agg y.cells.toArray)).run P w = .ok (.bool (decide (x = y))) w := by
  rw [run_eql_struct, eq_B32 9998 ht he hs x y]
  rfl
theorem neq_B32 {T e : TypeId} (ht : P.underlying T = some (.array 32 e)) (he : P.underlying e = some (.int .u8)) (hs : (P.info? e).map (·.size) = some 1) (x y : B32) :
    (binOp .neq T (.agg x.cells.toArray) (.agg y.cells.toArray)).run P w = .ok (.bool (!decide (x = y))) w := by
  rw [run_neq_struct, eq_B32 9998 ht he hs x y]
  rfl
/-- a struct of two rows of 32 bytes -/
theorem eq_Leaf {T t1 t2 e : TypeId} (d : Nat) {f1 f2 : Field} (hT : P.underlying T = some (.struct #[f1, f2])) (hp : P.stoodInHeld T = false) (hn1 : (f1.name == "_") = false) (hn2 : (f2.name == "_") = false) (h1 : f1.type = t1) (h2 : f2.type = t2) (o1 : f1.offset = 0) (o2 : f2.offset = 32)
    (ht1 : P.underlying t1 = some (.array 32 e)) (ht2 : P.underlying t2 = some (.array 32 e)) (he : P.underlying e = some (.int .u8)) (hs : (P.info? e).map (·.size) = some 1) (hs1 : (P.info? t1).map (·.size) = some 32) (hs2 : (P.info? t2).map (·.size) = some 32) (x y : Leaf) :
    (Op.equalIn (d + 3) T (.agg x.cells.toArray) (.agg y.cells.toArray)).run P w = .ok (decide (x = y)) w := by
  have hf : P.fieldsOf T = #[f1, f2] := by simp [Program.fieldsOf, hT]
  rw [run_equalIn_struct (P := P) w (d + 2) T _ _ (by rw [hf]; exact hT) hp, hf]
  have n1 : f1.name ≠ "_" := by simpa using hn1
  have n2 : f2.name ≠ "_" := by simpa using hn2
  have ex1 : ∀ z : Leaf, z.cells.toArray.extract 0 (0 + 32) = z.key.cells.toArray := fun z => by
    apply Array.ext'
    simp only [List.extract_toArray, Leaf.cells]
    simp [List.extract_eq_drop_take', B32.cells_length]
  have ex2 : ∀ z : Leaf, z.cells.toArray.extract 32 (32 + 32) = z.value.cells.toArray := fun z => by
    apply Array.ext'
    simp only [List.extract_toArray, Leaf.cells]
    simp [List.extract_eq_drop_take', B32.cells_length, List.take_of_length_le]
  have p1 : ∀ z : Leaf, (part t1 z.cells.toArray 0).run P w = .ok (.agg z.key.cells.toArray) w := fun z => by rw [part_row ht1 rfl hs1, ex1]
  have p2 : ∀ z : Leaf, (part t2 z.cells.toArray 32).run P w = .ok (.agg z.value.cells.toArray) w := fun z => by rw [part_row ht2 rfl hs2, ex2]
  simp only [Op.eqFields, if_pos n1, if_pos n2, Sem.run_bind, h1, h2, o1, o2, p1, Result.andThen_ok, eq_B32 d ht1 he hs]
  have e1 : decide (x = y) = (decide (x.key = y.key) && decide (x.value = y.value)) := by
    rw [Bool.eq_iff_iff]; cases x; cases y; simp
  rw [e1]
  by_cases k1 : x.key = y.key <;> by_cases k2 : x.value = y.value <;> simp [k1, k2, p2, eq_B32 d ht2 he hs]
end

section
variable {P : Program} {w : World}
theorem item_ex1 (z : Item) : z.cells.toArray.extract 1 (1 + 32) = z.digest.cells.toArray := by
  apply Array.ext'
  simp only [List.extract_toArray, Item.cells]
  simp [List.extract_eq_drop_take', B32.cells_length]
theorem item_ex2 (z : Item) : z.cells.toArray.extract 33 (33 + 64) = z.leaf.cells.toArray := by
  apply Array.ext'
  simp only [List.extract_toArray, Item.cells]
  simp [List.extract_eq_drop_take', B32.cells_length, Leaf.cells_length, List.take_of_length_le]
theorem eq_Item {T t0 t1 t2 e : TypeId} {d2 : TypeDesc} (d : Nat) {f0 f1 f2 : Field} (hT : P.underlying T = some (.struct #[f0, f1, f2])) (hp : P.stoodInHeld T = false) (hn0 : (f0.name == "_") = false) (hn1 : (f1.name == "_") = false) (hn2 : (f2.name == "_") = false)
    (h0 : f0.type = t0) (h1 : f1.type = t1) (h2 : f2.type = t2) (o0 : f0.offset = 0) (o1 : f1.offset = 1) (o2 : f2.offset = 33) (ht0 : P.underlying t0 = some (.int .i64))
    (ht1 : P.underlying t1 = some (.array 32 e)) (he : P.underlying e = some (.int .u8)) (hs : (P.info? e).map (·.size) = some 1) (hs1 : (P.info? t1).map (·.size) = some 32)
    (hL : ∀ x y : Leaf, (Op.equalIn (d + 3) t2 (.agg x.cells.toArray) (.agg y.cells.toArray)).run P w = .ok (decide (x = y)) w) (ht2 : P.underlying t2 = some d2) (hd2 : d2.isRow = true) (hs2 : (P.info? t2).map (·.size) = some 64) (x y : Item) :
    (Op.equalIn (d + 4) T (.agg x.cells.toArray) (.agg y.cells.toArray)).run P w = .ok (decide (x = y)) w := by
  have hf : P.fieldsOf T = #[f0, f1, f2] := by simp [Program.fieldsOf, hT]
  rw [run_equalIn_struct (P := P) w (d + 3) T _ _ (by rw [hf]; exact hT) hp, hf]
  have n0 : f0.name ≠ "_" := by simpa using hn0
  have n1 : f1.name ≠ "_" := by simpa using hn1
  have n2 : f2.name ≠ "_" := by simpa using hn2
  have p0 : ∀ z : Item, (part t0 z.cells.toArray 0).run P w = .ok (.int .i64 z.kind) w := fun z => by
    simp [part, isAgg, run_underlying ht0, Item.cells]
  have p1 : ∀ z : Item, (part t1 z.cells.toArray 1).run P w = .ok (.agg z.digest.cells.toArray) w := fun z => by rw [part_row ht1 rfl hs1, item_ex1]
  have p2 : ∀ z : Item, (part t2 z.cells.toArray 33).run P w = .ok (.agg z.leaf.cells.toArray) w := fun z => by rw [part_row ht2 hd2 hs2, item_ex2]
  have q0 : (Op.equalIn (d + 3) t0 (.int .i64 x.kind) (.int .i64 y.kind)).run P w = .ok (x.kind == y.kind) w := run_equalIn_int w (d + 2) _ _ _ _ _ ht0
  have q1 : (Op.equalIn (d + 3) t1 (.agg x.digest.cells.toArray) (.agg y.digest.cells.toArray)).run P w = .ok (decide (x.digest = y.digest)) w := eq_B32 (d + 1) ht1 he hs _ _
  have q2 := hL x.leaf y.leaf
  simp only [Op.eqFields, if_pos n0, if_pos n1, if_pos n2, Sem.run_bind, h0, h1, h2, o0, o1, o2, p0, q0, Result.andThen_ok]
  have e1 : decide (x = y) = ((x.kind == y.kind) && (decide (x.digest = y.digest) && decide (x.leaf = y.leaf))) := by
    rw [Bool.eq_iff_iff]; cases x; cases y; simp
  rw [e1]
  by_cases k0 : x.kind = y.kind <;> by_cases k1 : x.digest = y.digest <;> by_cases k2 : x.leaf = y.leaf <;> simp [k0, k1, k2] at q1 q2 ⊢ <;> simp [k0, k1, k2, p1, p2, q1, q2]
end

/-! ### a region that draws its order: what reads is taken first, under S -/
section
variable {P : Program} {ops : Array Oper} {Q : Exit → Act → World → Prop} {md : Region.Mode} {S : World → Prop} {fuel : Nat} {listed : Array Bool} {a : Act} {w : World}
theorem yields_of {o : Oper} {v : Value} (hg : o.guard = none) (h : ∀ w, S w → (execOp a.eval o).run P w = .ok (.value v) w) : YieldsIf P ops S o v a := .inl ⟨by simp [Region.wanted, hg], h⟩
/-- the post does not hang on the frame at a panic -/
def HQ (Q : Exit → Act → World → Prop) : Prop := ∀ (d : Option Tmp) (v : Value) (c : _) (a : Act) (w : World), Q (.panic c) (a.put d v) w → Q (.panic c) a w
theorem heldQ {id : Nat} (hm : P.follows .mixedOrders = true) (hQ : HQ Q) (h : HQ Q → wpAnyH P .any ops Q S ops.size (Array.replicate ops.size false) a w.drew) : (Code.region id ops true).wp P Q a w :=
  wp_region_held (S := S) hm (h hQ)
theorem HQ.mk (h : ∀ (ts : Array Value) (ds : List Deferred) (ts' : Array Value) (c : _) (w : World), Q (.panic c) ⟨ts', ds⟩ w → Q (.panic c) ⟨ts, ds⟩ w) : HQ Q := fun d v c a w hq => by
  cases d with
  | none => exact hq
  | some d => exact h _ _ _ _ _ hq
theorem takeQ (i : Nat) (hQ : HQ Q) {l : List Oper} {oi : Oper} {v : Value} (hi : l[i]? = some oi) (hs : Region.noSelect l.toArray = true) (hf : Region.free md l.toArray listed i = true) (hr : (Region.ready md l.toArray listed).contains i = true)
    (hy : YieldsIf P l.toArray S oi v a) (hS : S w) (h : wpAnyH P md l.toArray Q S fuel (listed.setIfInBounds i true) (a.put oi.dst v) w) : wpAnyH P md l.toArray Q S (fuel + 1) listed a w :=
  wpAnyH_take (by simpa using hi) hs hf hr (hQ _ _) hy hS h
/-- one alone may come up -/
theorem heldOne (i : Nat) {l : List Oper} {o : Oper} {v : Value} {w' : World} (ho : l[i]? = some o) (hr : Region.ready md l.toArray listed = [i]) (hg : o.guard = none) (hrun : (execOp a.eval o).run P w = .ok (.value v) w') (hS : S w')
    (h : wpAnyH P md l.toArray Q S fuel (listed.setIfInBounds i true) (a.put o.dst v) w') : wpAnyH P md l.toArray Q S (fuel + 1) listed a w := by
  refine wpAnyH_all hr (by simp) fun j hj => ?_
  obtain rfl : j = i := by simpa using hj
  have ho' : l.toArray[j]? = some o := by simpa using ho
  unfold wpOp
  simp only [ho', Region.wanted, hg, if_true]
  refine .inl ?_
  unfold Oper.wp
  rw [hrun]
  exact ⟨hS, h⟩
theorem heldOne_skip (i : Nat) {l : List Oper} {o : Oper} {w' : World} (ho : l[i]? = some o) (hr : Region.ready md l.toArray listed = [i]) (hg : o.guard = none) (hrun : (execOp a.eval o).run P w = .ok .skip w') (hS : S w')
    (h : wpAnyH P md l.toArray Q S fuel (listed.setIfInBounds i true) (a.put o.dst undef) w') : wpAnyH P md l.toArray Q S (fuel + 1) listed a w := by
  refine wpAnyH_all hr (by simp) fun j hj => ?_
  obtain rfl : j = i := by simpa using hj
  have ho' : l.toArray[j]? = some o := by simpa using ho
  unfold wpOp
  simp only [ho', Region.wanted, hg, if_true]
  refine .inl ?_
  unfold Oper.wp
  rw [hrun]
  exact ⟨hS, h⟩
end

section
variable {P : Program} {ops : Array Oper} {rest : List Oper} {a : Act} {w : World} {Q : Act → Prop}
theorem wpStill_run {o : Oper} {v : Value} (hg : o.guard = none) (hr : (execOp a.eval o).run P w = .ok (.value v) w) (h : wpStill P ops w Q rest (a.put o.dst v)) : wpStill P ops w Q (o :: rest) a := by
  unfold wpStill
  rw [if_pos (by simp [Region.wanted, hg])]
  unfold Oper.still
  rw [hr, Oper.stillUpon_value]
  exact h
theorem wpStill_runG {o : Oper} {v : Value} (hw : Region.wanted o (yielded ops a.tmps) = true) (hr : (execOp a.eval o).run P w = .ok (.value v) w) (h : wpStill P ops w Q rest (a.put o.dst v)) : wpStill P ops w Q (o :: rest) a := by
  unfold wpStill
  rw [if_pos hw]
  unfold Oper.still
  rw [hr, Oper.stillUpon_value]
  exact h
theorem wpStill_skip {o : Oper} (hw : Region.wanted o (yielded ops a.tmps) = false) (h : wpStill P ops w Q rest (a.put o.dst undef)) : wpStill P ops w Q (o :: rest) a := by
  unfold wpStill
  rw [if_neg (by rw [hw]; exact Bool.false_ne_true)]
  exact h
theorem wpStill_load_mid {o : Oper} (hg : o.guard = none) (ty : TypeId) (x : Operand) (ho : o.op = .load ty x)
    (b off : Nat) (hx : a.eval x = .pointer (some ⟨b, off, none⟩)) (cs : List Value) (d : TypeDesc) (hc : w.rangeAt b off cs)
    (hu : P.underlying ty = some d) (hd : d.isRow = true) (hi : (P.info? ty).map (·.size) = some cs.length)
    (h : wpStill P ops w Q rest (a.put o.dst (.agg cs.toArray))) : wpStill P ops w Q (o :: rest) a := by
  refine wpStill_run hg ?_ h
  unfold execOp
  simp only [ho, hx, Instr.loadAt, Instr.sureAddr, Sem.run_bind, Sem.run_pure, Result.andThen_ok, run_loadVar_mid w b off ty cs d hc hu hd hi]
end
end Go.Proofs.Ythinpbgbnlohpaa
