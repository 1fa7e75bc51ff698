/- Booleans compared; small laws; Shifts by eight; a slice's first cells as an array; Interface values held against nil; Multiproofs: the subtrees that items describe: plain; What a proof's siblings are, expanded. Plain Lean; Maps of keys, and their trees: plain Lean; The digest of a tree, and the proof of a map: plain Lean; Trees in memory: what a zone holds of them; multi: the subtree that items begin with; Arguments that are lists of items or of keys, opened; Repeat; node: what is read of a subtree; node: what makes a subtree (joined texts: N12 N13 N14 E14 E10 E11 E12 UT U62 TI U16 U33 U34) -/
import Derived.Test.YtgfkbeipckbkiaaDoorK8
import Derived.WideLaws
set_option linter.all false
/- N12 -/
namespace Go.Proofs.YtgfkbeipckbkiaaDoor
set_option linter.unusedSimpArgs false
set_option linter.unusedVariables false
open Go.RowKit
class TBool (P : Program) (T : TypeId) : Prop where
  und : P.underlying T = some .bool
/-- a zone that began as all that there was: nothing below has turned -/
theorem zone_below {W w : World} {h1 : Zh} {N : List Fa} (hr : Rx [.zone true (World.zh W)] W w (.zone true h1 :: N)) (hl : LeZ (World.zh W) h1) : Below W.heap.size W w := by
  refine ⟨hr.os, hr.tape, hr.output, hr.size, fun k hk => ?_⟩
  obtain ⟨o, ho⟩ : ∃ o, W.heap[k]? = some o := ⟨_, Array.getElem?_eq_getElem hk⟩
  rw [ho]
  exact hr.ok (.zone true h1) (List.mem_cons_self ..) k o (hl.le k o ho)
theorem Fx.all (W : World) : Fx W [.zone true (World.zh W)] := ⟨fun f hf => by rw [List.mem_singleton.1 hf]; exact fun k o ho => ho, List.pairwise_singleton _ _⟩
end Go.Proofs.YtgfkbeipckbkiaaDoor
/- N13 -/
namespace Go.Proofs.YtgfkbeipckbkiaaDoor
set_option linter.unusedSimpArgs false
set_option linter.unusedVariables false
open Go.RowKit
section
variable {P : Program} {n : Nat} {D : List Deferred} {E : Env} {L : List Fa} {T T' : TypeId} {x y : Operand}
theorem r_shl8 {i : Int} (hx : ev E x = some (.int .i64 i)) (hy : ev E y = some (.int .u64 8)) (h : 0 ≤ i ∧ i < 256 := by omega) : Runs0 P n D E L (.binOp .shl T x y T') (.int .i64 (i * 256)) := fun a w ka s o ho => xShl8 ho (ka.ev hx) (ka.ev hy) h
theorem r_or8 {i j : Int} (hx : ev E x = some (.int .i64 (i * 256))) (hy : ev E y = some (.int .i64 j)) (h : 0 ≤ i ∧ i < 256 := by omega) (h' : 0 ≤ j ∧ j < 256 := by omega) : Runs0 P n D E L (.binOp .or T x y T') (.int .i64 (i * 256 + j)) := fun a w ka s o ho => xOr8 ho (ka.ev hx) (ka.ev hy) h h'
theorem r_arr {len e size : Nat} [hT : TArr P T len e size] {A : Option Addr} {m c : Nat} (hx : ev E x = some (.slice A m c)) (hm : len ≤ m := by omega) : Runs0 P n D E L (.sliceToArrayPointer T x) (.pointer A) := fun a w ka s o ho => ex_arrayAt ho hT.und (ka.ev hx) hm
end
end Go.Proofs.YtgfkbeipckbkiaaDoor
/- N14 -/
namespace Go.Proofs.YtgfkbeipckbkiaaDoor
set_option linter.unusedSimpArgs false
set_option linter.unusedVariables false
open Go.RowKit
class TIf (P : Program) (T : TypeId) : Prop where
  und : P.underlying T = some (.interface (P.methodsAt T))
section
variable {P : Program} {n : Nat} {D : List Deferred} {E : Env} {L : List Fa} {T T' : TypeId} {t : Nat}
theorem r_ifnil {u : TypeId} {v : Value} [hT : TIf P T] (hx : ev E (.tmp t) = some (.iface u v)) : Runs0 P n D E L (.binOp .eql T (.tmp t) (.const .nilIface) T') (.bool false) := fun a w ka s o ho =>
  run_bin ho (ka.ev hx) (v := .nilIface) rfl rfl (run_eql_held_nil w T u v hT.und)
theorem r_nilnil [hT : TIf P T] (hx : ev E (.tmp t) = some .nilIface) : Runs0 P n D E L (.binOp .eql T (.tmp t) (.const .nilIface) T') (.bool true) := fun a w ka s o ho =>
  run_bin ho (ka.ev hx) (v := .nilIface) rfl rfl (run_eql_nil_nil w T hT.und)
end
end Go.Proofs.YtgfkbeipckbkiaaDoor
/- E14 -/
namespace Go.Proofs.YtgfkbeipckbkiaaDoor
set_option linter.unusedSimpArgs false
set_option linter.unusedVariables false
open Go.RowKit
inductive Sub where
  | one (x : Item)
  | two (l r : Sub)
/-- the subtree that items begin with, with at most d levels of inner nodes -/
def readM : Nat → List Item → Option (Sub × List Item)
  | _, [] => none
  | 0, x :: rest => if x.kind = 2 then none else some (.one x, rest)
  | d + 1, x :: rest => if x.kind = 2 then (readM d rest).bind fun p => (readM d p.2).bind fun q => some (.two p.1 q.1, q.2) else some (.one x, rest)

/-- the kind is one of the four -/
def kindOk (x : Item) : Bool := decide (0 ≤ x.kind) && decide (x.kind ≤ 3)
/-- fields that have no meaning are zero -/
def cleanItem (x : Item) : Bool := (x.kind == 3 || decide (x.digest = zB32)) && (x.kind == 1 || decide (x.leaf = zLeaf))
def parseM (l : List Item) : Except Int Sub :=
  if l.all kindOk then
    match readM 256 l with
    | some (t, []) => if l.all cleanItem then .ok t else .error 5
    | _ => .error 5
  else .error 7

theorem all_take {α : Type} (p : α → Bool) (l : List α) (k : Nat) (x : α) (h : l[k]? = some x) : (l.take (k + 1)).all p = ((l.take k).all p && p x) := by
  rw [List.take_add_one, h, List.all_append]
  simp
theorem readM_suffix : ∀ (d : Nat) (l : List Item) (t : Sub) (rest : List Item), readM d l = some (t, rest) → ∃ n, 0 < n ∧ n ≤ l.length ∧ rest = l.drop n
  | _, [], t, rest, h => by cases ‹Nat› <;> simp [readM] at h
  | 0, x :: l, t, rest, h => by
    simp only [readM] at h
    split at h
    · cases h
    · simp only [Option.some.injEq, Prod.mk.injEq] at h
      exact ⟨1, by omega, by simp, by simp [h.2]⟩
  | d + 1, x :: l, t, rest, h => by
    simp only [readM] at h
    split at h
    · obtain ⟨p, hp, h⟩ := Option.bind_eq_some_iff.1 h
      obtain ⟨q, hq, h⟩ := Option.bind_eq_some_iff.1 h
      obtain ⟨n, hn0, hn, e1⟩ := readM_suffix d l p.1 p.2 hp
      obtain ⟨m, hm0, hm, e2⟩ := readM_suffix d p.2 q.1 q.2 hq
      simp only [Option.some.injEq, Prod.mk.injEq] at h
      rw [e1, List.length_drop] at hm
      refine ⟨n + m + 1, by omega, by simp; omega, ?_⟩
      rw [← h.2, e2, e1, List.drop_drop]
      rfl
    · simp only [Option.some.injEq, Prod.mk.injEq] at h
      exact ⟨1, by omega, by simp, by simp [h.2]⟩
/-- the index behind what was read -/
def skipI (l : List Item) (r : Option (Sub × List Item)) : Int := match r with | none => -1 | some p => (l.length : Int) - p.2.length

def checkM (l : List Item) : Int := match parseM l with | .ok _ => 0 | .error c => c
/-- what the reference's Check computes -/
theorem checkM_eq (l : List Item) : checkM l = if l.all kindOk then (if l.all cleanItem then (if l.length = 0 ∨ skipI l (readM 256 l) ≠ l.length then 5 else 0) else 5) else 7 := by
  unfold checkM parseM
  by_cases h1 : l.all kindOk = true
  · rw [if_pos h1, if_pos h1]
    by_cases h2 : l.all cleanItem = true
    · rw [if_pos h2]
      cases h3 : readM 256 l with
      | none =>
        have : (skipI l none) ≠ (l.length : Int) := by simp only [skipI]; omega
        simp [this]
      | some p =>
        obtain ⟨t, rest⟩ := p
        obtain ⟨n, hn0, hn, e1⟩ := readM_suffix 256 l t rest h3
        cases rest with
        | nil =>
          have h0 : l.length ≠ 0 := by omega
          have hs : skipI l (some (t, [])) = l.length := by simp [skipI]
          simp [h2, h0, hs]
        | cons y rest =>
          have hs : skipI l (some (t, y :: rest)) ≠ l.length := by simp only [skipI, List.length_cons]; omega
          simp [hs]
    · have h2' : l.all cleanItem = false := by simpa using h2
      rw [if_neg h2]
      cases h3 : readM 256 l with
      | none => rfl
      | some p =>
        obtain ⟨t, rest⟩ := p
        cases rest <;> simp [h2']
  · rw [if_neg h1, if_neg h1]
end Go.Proofs.YtgfkbeipckbkiaaDoor
/- E10 -/
namespace Go.Proofs.YtgfkbeipckbkiaaDoor
set_option linter.unusedSimpArgs false
set_option linter.unusedVariables false
open Go.RowKit
end Go.Proofs.YtgfkbeipckbkiaaDoor
/- E11 -/
namespace Go.Proofs.YtgfkbeipckbkiaaDoor
set_option linter.unusedSimpArgs false
set_option linter.unusedVariables false
open Go.RowKit
/-- an entry: its key, where its value lies, its value -/
structure En where
  e : Entry
  val : List UInt8
abbrev En.key (x : En) : B32 := x.e.key
inductive Tr where
  | nil
  | leaf (k : B32) (v : List UInt8)
  | node (l r : Tr)
def Tr.cnt : Tr → Nat
  | .nil => 0
  | .leaf .. => 1
  | .node l r => l.cnt + r.cnt
def Tr.kind : Tr → Nat
  | .nil => 0
  | .leaf .. => 1
  | .node .. => 2
def Tr.lf : Tr → Option (B32 × List UInt8)
  | .leaf k v => some (k, v)
  | _ => none
def Tr.sub : Bool → Tr → Tr
  | false, .node l _ => l
  | true, .node _ r => r
  | _, _ => .nil
/-- the entries whose keys have a bit -/
def part (m : List En) (d : Nat) (b : Bool) : List En := m.filter fun e => bitAt e.key d == b
theorem part_len (m : List En) (d : Nat) : (part m d false).length + (part m d true).length = m.length := by
  unfold part
  induction m with
  | nil => rfl
  | cons e m ih =>
    cases hb : bitAt e.key d
    · rw [List.filter_cons_of_pos (by simp [hb]), List.filter_cons_of_neg (by simp [hb]), List.length_cons, List.length_cons]; omega
    · rw [List.filter_cons_of_neg (by simp [hb]), List.filter_cons_of_pos (by simp [hb]), List.length_cons, List.length_cons]; omega
theorem part_le (m : List En) (d : Nat) (b : Bool) : (part m d b).length ≤ m.length := List.length_filter_le _ _
theorem part_mem {m : List En} {d : Nat} {b : Bool} {e : En} : e ∈ part m d b ↔ e ∈ m ∧ bitAt e.key d = b := by simp [part]
/-- different keys that have their first d bits in common -/
structure Alike (m : List En) (d : Nat) : Prop where
  nodup : (m.map En.key).Nodup
  same : ∀ e ∈ m, ∀ f ∈ m, ∀ i, i < d → bitAt e.key i = bitAt f.key i
theorem Alike.part {m : List En} {d : Nat} (h : Alike m d) (b : Bool) : Alike (part m d b) (d + 1) := by
  refine ⟨(h.nodup.sublist ((List.filter_sublist).map _)), fun e he f hf i hi => ?_⟩
  obtain ⟨he, hb⟩ := part_mem.1 he
  obtain ⟨hf, hb'⟩ := part_mem.1 hf
  rcases Nat.lt_or_ge i d with h1 | h1
  · exact h.same e he f hf i h1
  · obtain rfl : i = d := by omega
    rw [hb, hb']
theorem Alike.start {m : List En} (h : (m.map En.key).Nodup) : Alike m 0 := ⟨h, fun _ _ _ _ _ hi => by omega⟩
/-- at depth 256 one is left at most -/
theorem Alike.last {m : List En} {d : Nat} (h : Alike m d) (hd : 256 ≤ d) : m.length ≤ 1 := by
  match m, h with
  | [], _ => simp
  | [_], _ => simp
  | e :: f :: m, h =>
    have := bits_ext (a := e.key) (b := f.key) fun i hi => h.same e (by simp) f (by simp) i (by omega)
    have h1 := h.nodup
    simp [this] at h1
theorem Alike.lt {m : List En} {d : Nat} (h : Alike m d) (hm : 1 < m.length) : d < 256 := by
  rcases Nat.lt_or_ge d 256 with h1 | h1
  · exact h1
  · have := h.last h1; omega
/-- the tree of a map -/
def mkF : Nat → List En → Nat → Tr
  | 0, _, _ => .nil
  | f + 1, m, d => match m with
    | [] => .nil
    | [e] => .leaf e.key e.val
    | _ => .node (mkF f (part m d false) (d + 1)) (mkF f (part m d true) (d + 1))
def mkT (m : List En) (d : Nat) : Tr := mkF (257 - d) m d
theorem mkT_nil (d : Nat) : mkT [] d = .nil := by
  unfold mkT
  cases 257 - d <;> rfl
theorem mkT_one (e : En) {d : Nat} (h : d ≤ 256) : mkT [e] d = .leaf e.key e.val := by
  unfold mkT
  rw [show 257 - d = 256 - d + 1 by omega]
  rfl
theorem mkT_two {m : List En} {d : Nat} (h : 1 < m.length) (hd : d ≤ 256) : mkT m d = .node (mkT (part m d false) (d + 1)) (mkT (part m d true) (d + 1)) := by
  unfold mkT
  rw [show 257 - d = 257 - (d + 1) + 1 by omega]
  match m, h with
  | [], h => simp at h
  | [_], h => simp at h
  | _ :: _ :: _, _ => rfl
theorem mkT_kind (m : List En) {d : Nat} (hd : d ≤ 256) : (mkT m d).kind = min m.length 2 := by
  match m with
  | [] => rw [mkT_nil]; rfl
  | [e] => rw [mkT_one e hd]; rfl
  | e :: f :: m => rw [mkT_two (by simp) hd]; simp [Tr.kind]
/-- an induction along the parts -/
theorem parts_ind {p : List En → Nat → Prop} (h0 : ∀ d, p [] d) (h1 : ∀ e d, d ≤ 256 → p [e] d) (h2 : ∀ m d, Alike m d → 1 < m.length → d < 256 → p (part m d false) (d + 1) → p (part m d true) (d + 1) → p m d) : ∀ (k : Nat) (m : List En) (d : Nat), 256 - d ≤ k → d ≤ 256 → Alike m d → p m d
  | k, m, d, hk, hd, ha => by
    match m, ha with
    | [], _ => exact h0 d
    | [e], _ => exact h1 e d hd
    | e :: f :: m, ha =>
      have hl : 1 < (e :: f :: m).length := by simp
      have hlt := ha.lt hl
      cases k with
      | zero => omega
      | succ k => exact h2 _ d ha hl hlt (parts_ind h0 h1 h2 k _ _ (by omega) (by omega) (ha.part false)) (parts_ind h0 h1 h2 k _ _ (by omega) (by omega) (ha.part true))
theorem mkT_cnt {m : List En} {d : Nat} (hd : d ≤ 256) (ha : Alike m d) : (mkT m d).cnt = m.length :=
  parts_ind (p := fun m d => (mkT m d).cnt = m.length) (fun d => by rw [mkT_nil]; rfl) (fun e d h => by rw [mkT_one e h]; rfl)
    (fun m d _ hm hd i1 i2 => by rw [mkT_two hm (by omega)]; show _ + _ = _; rw [i1, i2, part_len]) 256 m d (by omega) hd ha
/-! the way of a key -/
/-- the subtrees beside the way -/
def sibs (k : B32) : Tr → Nat → List Tr
  | .node l r, d => if bitAt k d then l :: sibs k r (d + 1) else r :: sibs k l (d + 1)
  | _, _ => []
/-! maps that entries lead to -/
def cmpL : List UInt8 → List UInt8 → Int
  | x :: xs, y :: ys => if x < y then -1 else if y < x then 1 else cmpL xs ys
  | _, _ => 0
def cmpB (a b : B32) : Int := cmpL a.1 b.1
def remK (m : List En) (k : B32) : List En := m.filter fun e => decide (e.key ≠ k)
def insE (e : En) : List En → List En
  | [] => [e]
  | f :: m => if cmpB e.key f.key < 0 then e :: f :: m else f :: insE e m
def putM (m : List En) (e : En) : List En := insE e (remK m e.key)
def ofM (l : List En) : List En := l.foldl putM []
theorem insE_snoc_in {e x : En} : ∀ {l : List En}, (∃ f ∈ l, cmpB e.key f.key < 0) → insE e (l ++ [x]) = insE e l ++ [x]
  | [], h => by obtain ⟨f, hf, _⟩ := h; cases hf
  | g :: l, h => by
    by_cases h1 : cmpB e.key g.key < 0
    · rw [List.cons_append, insE, insE, if_pos h1, if_pos h1]; rfl
    · rw [List.cons_append, insE, insE, if_neg h1, if_neg h1, insE_snoc_in (l := l)]
      · rfl
      · obtain ⟨f, hf, h2⟩ := h
        rcases List.mem_cons.1 hf with rfl | hf
        · exact (h1 h2).elim
        · exact ⟨f, hf, h2⟩
theorem insE_none {e : En} : ∀ {l : List En}, (∀ f ∈ l, ¬ cmpB e.key f.key < 0) → insE e l = l ++ [e]
  | [], _ => rfl
  | g :: l, h => by rw [insE, if_neg (h g (List.mem_cons_self ..)), insE_none fun f hf => h f (List.mem_cons_of_mem _ hf)]; rfl
theorem insE_snoc_now {e x : En} : ∀ {l : List En}, (∀ f ∈ l, ¬ cmpB e.key f.key < 0) → cmpB e.key x.key < 0 → insE e (l ++ [x]) = l ++ [e, x]
  | [], _, h => by rw [List.nil_append, insE, if_pos h]; rfl
  | g :: l, h, h' => by rw [List.cons_append, insE, if_neg (h g (List.mem_cons_self ..)), insE_snoc_now (fun f hf => h f (List.mem_cons_of_mem _ hf)) h']; rfl
theorem insE_mem {e f : En} : ∀ {l : List En}, f ∈ insE e l ↔ f = e ∨ f ∈ l
  | [] => by simp [insE]
  | g :: l => by
    unfold insE
    split
    · simp
    · rw [List.mem_cons, insE_mem (l := l), List.mem_cons]
      constructor <;> (rintro (h | h | h) <;> simp_all)
theorem insE_len (e : En) : ∀ (l : List En), (insE e l).length = l.length + 1
  | [] => rfl
  | g :: l => by
    unfold insE
    split
    · rfl
    · rw [List.length_cons, insE_len e l]; rfl
theorem insE_nodup {e : En} : ∀ {l : List En}, (l.map En.key).Nodup → (∀ f ∈ l, f.key ≠ e.key) → ((insE e l).map En.key).Nodup
  | [], _, _ => by simp [insE]
  | g :: l, h, h' => by
    unfold insE
    rw [List.map_cons, List.nodup_cons] at h
    split
    · rw [List.map_cons, List.map_cons, List.nodup_cons, List.nodup_cons]
      refine ⟨fun hm => ?_, h.1, h.2⟩
      rw [List.mem_cons, List.mem_map] at hm
      rcases hm with hm | ⟨f, hf, hm⟩
      · exact h' g (List.mem_cons_self ..) hm.symm
      · exact h' f (List.mem_cons_of_mem _ hf) hm
    · rw [List.map_cons, List.nodup_cons]
      refine ⟨fun hm => ?_, insE_nodup h.2 fun f hf => h' f (List.mem_cons_of_mem _ hf)⟩
      obtain ⟨f, hf, hk⟩ := List.mem_map.1 hm
      rcases insE_mem.1 hf with rfl | hf
      · exact h' g (List.mem_cons_self ..) hk.symm
      · exact h.1 (List.mem_map.2 ⟨f, hf, hk⟩)
theorem putM_nodup {m : List En} (e : En) (h : (m.map En.key).Nodup) : ((putM m e).map En.key).Nodup :=
  insE_nodup (h.sublist ((List.filter_sublist).map _)) fun f hf => by simpa [remK] using (List.mem_filter.1 hf).2
theorem putM_mem {m : List En} {e f : En} (h : f ∈ putM m e) : f = e ∨ f ∈ m := (insE_mem.1 h).imp_right fun h => (List.mem_filter.1 h).1
theorem putM_len (m : List En) (e : En) : (putM m e).length ≤ m.length + 1 := by
  unfold putM
  rw [insE_len]
  have := List.length_filter_le (fun f => decide (f.key ≠ e.key)) m
  unfold remK
  omega
theorem foldM_nodup : ∀ (l m : List En), (m.map En.key).Nodup → ((l.foldl putM m).map En.key).Nodup
  | [], _, h => h
  | e :: l, m, h => foldM_nodup l _ (putM_nodup e h)
theorem ofM_nodup (l : List En) : ((ofM l).map En.key).Nodup := foldM_nodup l [] (by simp)
theorem foldM_mem : ∀ (l m : List En) (f : En), f ∈ l.foldl putM m → f ∈ l ∨ f ∈ m
  | [], _, _, h => .inr h
  | e :: l, m, f, h => by
    rcases foldM_mem l _ f h with h | h
    · exact .inl (List.mem_cons_of_mem _ h)
    · rcases putM_mem h with rfl | h
      · exact .inl (List.mem_cons_self ..)
      · exact .inr h
theorem ofM_mem {l : List En} {f : En} (h : f ∈ ofM l) : f ∈ l := (foldM_mem l [] f h).elim id fun h => by cases h
theorem foldM_len : ∀ (l m : List En), (l.foldl putM m).length ≤ l.length + m.length
  | [], _ => by simp
  | e :: l, m => by
    have h1 := foldM_len l (putM m e)
    have h2 := putM_len m e
    rw [List.foldl_cons, List.length_cons]
    omega
theorem ofM_len (l : List En) : (ofM l).length ≤ l.length := by have := foldM_len l []; rw [List.length_nil, Nat.add_zero] at this; exact this
theorem ofM_snoc (l : List En) (k : Nat) (e : En) (h : l[k]? = some e) : ofM (l.take (k + 1)) = putM (ofM (l.take k)) e := by
  rw [List.take_add_one, h]
  unfold ofM
  rw [Option.toList_some, List.foldl_append]
  rfl
end Go.Proofs.YtgfkbeipckbkiaaDoor
/- E12 -/
namespace Go.Proofs.YtgfkbeipckbkiaaDoor
set_option linter.unusedSimpArgs false
set_option linter.unusedVariables false
open Go.RowKit
def preV (v : List UInt8) : List UInt8 := 2 :: v
/-- the leaf of a key and a value -/
def leafOf (n : Nat) (k : B32) (v : List UInt8) : Leaf := ⟨k, sumB n (preV v)⟩
def dgT (n : Nat) : Tr → B32
  | .nil => sumB n preE
  | .leaf k v => sumB n (preL (leafOf n k v))
  | .node l r => sumB n (preN (dgT n l) (dgT n r))
/-- the root of a map -/
def rootM (n : Nat) (m : List En) (d : Nat) : B32 := dgT n (mkT m d)
theorem rootM_nil (n d : Nat) : rootM n [] d = sumB n preE := by unfold rootM; rw [mkT_nil]; rfl
theorem rootM_one (n : Nat) (e : En) {d : Nat} (h : d ≤ 256) : rootM n [e] d = sumB n (preL (leafOf n e.key e.val)) := by unfold rootM; rw [mkT_one e h]; rfl
theorem rootM_two (n : Nat) {m : List En} {d : Nat} (h : 1 < m.length) (hd : d ≤ 256) : rootM n m d = sumB n (preN (rootM n (part m d false) (d + 1)) (rootM n (part m d true) (d + 1))) := by unfold rootM; rw [mkT_two h hd]; rfl
/-! sets of depths -/
/-! the proof of a map for a key -/
def leafT (n : Nat) : Tr → Leaf
  | .leaf k v => leafOf n k v
  | _ => zLeaf
end Go.Proofs.YtgfkbeipckbkiaaDoor
/- UT -/
namespace Go.Proofs.YtgfkbeipckbkiaaDoor
set_option linter.unusedSimpArgs false
set_option linter.unusedVariables false
open Go.RowKit
/-- the hasher, its counter, the table of rounds -/
abbrev HR (gh gc n : Nat) : Fa := .rd (some ⟨gh, 0, none⟩) [.pointer (some ⟨gc, 0, none⟩), .int .i64 (n : Int)]
abbrev CN (gc k : Nat) : Fa := .blk gc [.int .i64 (k : Int)] 98
abbrev TBL : Fa := .rd (some ⟨1, 0, none⟩) hashT
/-- some bytes that a slice holds -/
class SlZ (h : Zh) (s : Sl) (b : List UInt8) : Prop where
  len : s.n = b.length
  cap : s.n ≤ s.c
  nil : s.A = none → s.n = 0 ∧ s.c = 0
  rd : RdZ h s.A (bc b)
theorem SlZ.mono {h h' : Zh} (hl : LeZ h h') {s : Sl} {b : List UInt8} (x : SlZ h s b) : SlZ h' s b := ⟨x.len, x.cap, x.nil, x.rd.mono hl⟩
def trZ (n : Nat) (h : Zh) : Tr → Option Addr → Prop
  | .nil, p => p = none
  | .leaf k b, p => ∃ g s, p = some ⟨g, 0, none⟩ ∧ RdZ h p (Nd.cells ⟨.iface 127 (.agg (NLeaf.cells ⟨leafOf n k b, s⟩).toArray), dgT n (.leaf k b)⟩) ∧ SlZ h s b
  | .node l r, p => ∃ g pl pr, p = some ⟨g, 0, none⟩ ∧ RdZ h p (Nd.cells ⟨.iface 131 (.agg (NInner.cells ⟨pl, pr, dgT n l, dgT n r, ((l.cnt + r.cnt : Nat) : Int)⟩).toArray), dgT n (.node l r)⟩) ∧ trZ n h l pl ∧ trZ n h r pr
theorem trZ.mono {n : Nat} {h h' : Zh} (hl : LeZ h h') : ∀ {t : Tr} {p : Option Addr}, trZ n h t p → trZ n h' t p
  | .nil, _, x => x
  | .leaf _ _, _, ⟨g, s, e, r, b⟩ => ⟨g, s, e, r.mono hl, b.mono hl⟩
  | .node _ _, _, ⟨g, pl, pr, e, r, x, y⟩ => ⟨g, pl, pr, e, r.mono hl, trZ.mono hl x, trZ.mono hl y⟩
/-- the tree that a pointer leads to -/
class TrZ (n : Nat) (h : Zh) (t : Tr) (p : Option Addr) : Prop where
  ok : trZ n h t p
instance (n : Nat) (h : Zh) : TrZ n h .nil none := ⟨rfl⟩
instance (priority := 10) (n : Nat) (h h' : Zh) (t : Tr) (p : Option Addr) [hl : LeZ h h'] [x : TrZ n h t p] : TrZ n h' t p := ⟨x.ok.mono hl⟩
instance (priority := 10) (h h' : Zh) (s : Sl) (b : List UInt8) [hl : LeZ h h'] [x : SlZ h s b] : SlZ h' s b := x.mono hl
/-- where a subtree's pointer stands -/
def subP (h : Zh) (b : Bool) : Option Addr → Option Addr
  | some ⟨g, 0, none⟩ => match h.cell g 0 with
    | some (.iface T (.agg cs)) => if T = 131 then (match cs[(if b then 1 else 0 : Nat)]? with | some (.pointer q) => q | _ => none) else none
    | _ => none
  | _ => none
theorem subP_node {h : Zh} {g : Nat} {x : NInner} {d : B32} (hr : RdZ h (some ⟨g, 0, none⟩) (Nd.cells ⟨.iface 131 (.agg x.cells.toArray), d⟩)) (b : Bool) : subP h b (some ⟨g, 0, none⟩) = if b then x.r else x.l := by
  have hc := hr.cell (j := 0) (v := .iface 131 (.agg x.cells.toArray)) rfl
  rw [Nat.zero_add] at hc
  have e : x.cells.toArray[(if b then 1 else 0 : Nat)]? = some (.pointer (if b then x.r else x.l)) := by cases b <;> simp [NInner.cells]
  unfold subP
  simp only [hc, if_true, e]
theorem subP_leaf {h : Zh} {g : Nat} {x : NLeaf} {d : B32} (hr : RdZ h (some ⟨g, 0, none⟩) (Nd.cells ⟨.iface 127 (.agg x.cells.toArray), d⟩)) (b : Bool) : subP h b (some ⟨g, 0, none⟩) = none := by
  have hc := hr.cell (j := 0) (v := .iface 127 (.agg x.cells.toArray)) rfl
  rw [Nat.zero_add] at hc
  have e : ¬ 127 = 131 := by decide
  unfold subP
  simp only [hc, if_neg e]
theorem trZ.sub {n : Nat} {h : Zh} {t : Tr} {p : Option Addr} (x : trZ n h t p) (b : Bool) : trZ n h (t.sub b) (subP h b p) := by
  rcases t with _ | ⟨kk, v⟩ | ⟨l, r⟩
  · obtain rfl : p = none := x
    cases b <;> rfl
  · obtain ⟨g, s, rfl, hr, _⟩ := x
    cases b <;> exact subP_leaf hr _
  · obtain ⟨g, pl, pr, rfl, hr, hl, hr2⟩ := x
    rw [subP_node hr]
    cases b
    · exact hl
    · exact hr2
instance (n : Nat) (h : Zh) (t : Tr) (p : Option Addr) (b : Bool) [x : TrZ n h t p] : TrZ n h (t.sub b) (subP h b p) := ⟨x.ok.sub b⟩
theorem TrZ.left {n : Nat} {h : Zh} {l r : Tr} {p : Option Addr} (x : TrZ n h (.node l r) p) : TrZ n h l (subP h false p) := ⟨x.ok.sub false⟩
theorem TrZ.right {n : Nat} {h : Zh} {l r : Tr} {p : Option Addr} (x : TrZ n h (.node l r) p) : TrZ n h r (subP h true p) := ⟨x.ok.sub true⟩
/-- the way of a key: its subtrees, their pointers -/
def wayK (key : B32) (t : Tr) : Nat → Tr
  | 0 => t
  | k + 1 => (wayK key t k).sub (bitAt key k)
def wayQ (h : Zh) (key : B32) (p : Option Addr) : Nat → Option Addr
  | 0 => p
  | k + 1 => subP h (bitAt key k) (wayQ h key p k)
theorem wayK_ok {n : Nat} {h : Zh} {t : Tr} {p : Option Addr} (x : trZ n h t p) (key : B32) : ∀ k, trZ n h (wayK key t k) (wayQ h key p k)
  | 0 => x
  | k + 1 => (wayK_ok x key k).sub _
instance (n : Nat) (h : Zh) (t : Tr) (p : Option Addr) (key : B32) (k : Nat) [x : TrZ n h t p] : TrZ n h (wayK key t k) (wayQ h key p k) := ⟨wayK_ok x.ok key k⟩
/-- how many digests the making of a tree takes -/
def Tr.cost : Tr → Nat
  | .nil => 0
  | .leaf .. => 2
  | .node l r => l.cost + r.cost + (if l.kind = 0 then 1 else 0) + (if r.kind = 0 then 1 else 0) + 1
instance (x : NInner) : RowAt x.cells 0 2 [.pointer x.l, .pointer x.r] := .mk' (pre := []) (post := x.dl.cells ++ (x.dr.cells ++ [.int .i64 x.n])) (by simp [NInner.cells]) rfl rfl
instance (x : NInner) : RowAt x.cells 2 64 (x.dl.cells ++ x.dr.cells) := .mk' (pre := [.pointer x.l, .pointer x.r]) (post := [.int .i64 x.n]) (by simp [NInner.cells]) rfl (by simp [B32.cells_length])
instance (x : NInner) (a b : Option Addr) : SetAt x.cells 0 [.pointer a, .pointer b] ({ x with l := a, r := b } : NInner).cells := .mk' (pre := []) (old := [.pointer x.l, .pointer x.r]) (post := x.dl.cells ++ (x.dr.cells ++ [.int .i64 x.n])) (by simp [NInner.cells]) (by simp [NInner.cells]) rfl rfl
instance (x : NInner) (a b : B32) : SetAt x.cells 2 (a.cells ++ b.cells) ({ x with dl := a, dr := b } : NInner).cells := .mk' (pre := [.pointer x.l, .pointer x.r]) (old := x.dl.cells ++ x.dr.cells) (post := [.int .i64 x.n]) (by simp [NInner.cells]) (by simp [NInner.cells]) rfl (by simp [B32.cells_length])
instance : TZ Tryd.prog 129 (zB32.cells ++ zB32.cells) := ⟨⟨.agg (zB32.cells ++ zB32.cells).toArray, by kernel_rfl, rfl⟩⟩
instance : TB Tryd.prog 129 (zB32.cells ++ zB32.cells) (plArr 32) := ⟨fun w ps cells h => run_build_array Tryd.underlying129 (z := (zB32.cells ++ zB32.cells).toArray) (n := 64) (by kernel_rfl) (s := 32) (by kernel_rfl) h⟩
instance (a b c : B32) : SetAt (a.cells ++ b.cells) 0 c.cells (c.cells ++ b.cells) := .mk' (pre := []) (old := a.cells) (post := b.cells) (by simp) (by simp) rfl (by rw [B32.cells_length, B32.cells_length])
instance (a b c : B32) : SetAt (a.cells ++ b.cells) 32 c.cells (a.cells ++ c.cells) := .mk' (pre := a.cells) (old := b.cells) (post := []) (by simp) (by simp) (B32.cells_length _) (by rw [B32.cells_length, B32.cells_length])
instance (a b : B32) : Row (a.cells ++ b.cells) 64 := ⟨by rw [List.length_append, B32.cells_length, B32.cells_length], fun v hv => (List.mem_append.1 hv).elim (B32.cells_one a v) (B32.cells_one b v)⟩
instance (a b : Option Addr) : Row [.pointer a, .pointer b] 2 := ⟨rfl, by simp [Value.oneCell']⟩
instance : TZero Tryd.prog 127 (.agg zNLeaf.cells.toArray) := ⟨fun w => by kernel_rfl⟩
instance : TZero Tryd.prog 131 (.agg zNInner.cells.toArray) := ⟨fun w => by kernel_rfl⟩
instance : MethT Tryd.prog 127 "sparsetree/node.preimage" 140 := ⟨fun v args w => by kernel_rfl⟩
instance : MethT Tryd.prog 131 "sparsetree/node.preimage" 141 := ⟨fun v args w => by kernel_rfl⟩
end Go.Proofs.YtgfkbeipckbkiaaDoor
/- U62 -/
namespace Go.Proofs.YtgfkbeipckbkiaaDoor
set_option linter.unusedSimpArgs false
set_option linter.unusedVariables false
open Go.RowKit
instance : TIf Tryd.prog 82 := ⟨by kernel_rfl⟩
def Sub.tag : Sub → TypeId
  | .one _ => 122
  | .two _ _ => 120
def Sub.val : Sub → Value
  | .one x => .agg x.cells.toArray
  | .two l r => .agg #[.iface l.tag l.val, .iface r.tag r.val]
def its (l : List Item) : List Value := l.flatMap Item.cells
theorem its_len (l : List Item) : (its l).length = l.length * 97 := by
  induction l with
  | nil => rfl
  | cons x l ih =>
    show (x.cells ++ its l).length = _
    rw [List.length_append, ih, Item.cells_length, List.length_cons]; omega
theorem its_cons (x : Item) (l : List Item) : its (x :: l) = x.cells ++ its l := rfl
theorem its_tail {h : Zh} {A : Option Addr} {x : Item} {l : List Item} {c : Nat} (hr : RdZ h A (its (x :: l))) (hc : l.length + 1 ≤ c) : RdZ h (cutA A c 1 97) (its l) := by
  rw [its_cons] at hr
  unfold cutA
  split
  · have : l = [] := List.eq_nil_of_length_eq_zero (by omega)
    rw [this]
    exact RdZ.nil _ _
  · refine ⟨fun j v hv => ?_⟩
    have h1 := hr.at_ (97 + j) v (by rw [List.getElem?_append_right (by rw [Item.cells_length]; omega), Item.cells_length, Nat.add_sub_cancel_left]; exact hv)
    obtain ⟨b, o, rfl, h2⟩ := h1
    exact ⟨b, o + 97, by simp [Addr.add_mid], by rw [Nat.add_assoc]; exact h2⟩
section
variable (h : Zh)
theorem read_nil (A : Option Addr) (c : Nat) (i : Int) : Spec Tryd.prog 67 [.slice A 0 c, .int .i64 i].toArray [.zone false h] [] (fun _ : Unit => .tuple #[.nilIface, .slice none 0 0]) (fun _ => []) := by
  refine spec_of Tryd.func67 rfl (n := 47) rfl rfl ?_
  intro W
  refine h_seq ?_
  refine h_reg ?_
  refine h_op (r_assign rfl) ?_
  refine h_op (r_assign rfl) ?_
  refine h_nil ?_
  refine q_then ?_
  refine h_seq ?_
  refine h_seq ?_
  refine h_reg ?_
  refine h_op (r_move rfl) ?_
  refine h_op (r_len rfl) ?_
  refine h_op (r_bool (r_eql rfl rfl) (show _ = true from rfl)) ?_
  refine h_nil ?_
  refine q_then ?_
  refine h_condT rfl ?_
  refine h_seq ?_
  refine h_reg ?_
  refine h_op (r_assign rfl) ?_
  refine h_op (r_assign rfl) ?_
  refine h_nil ?_
  refine q_then ?_
  refine h_ret ?_
  refine q_thenR ?_
  exact h_ret2 rfl rfl rfl fun w s => ⟨(), rfl, s.res (List.nil_sublist _) (by simp)⟩
theorem read_one (x : Item) (r : List Item) (hk : x.kind ≠ 2) (A : Option Addr) (c : Nat) (i : Int) [hr : RdZ h A (its (x :: r))] (hc : r.length + 1 ≤ c) : Spec Tryd.prog 67 [.slice A (r.length + 1) c, .int .i64 i].toArray [.zone false h] [] (fun _ : Unit => .tuple #[.iface (Sub.one x).tag (Sub.one x).val, .slice (cutA A c 1 97) r.length (c - 1)]) (fun _ => []) := by
  have h0 : 0 < (its (x :: r)).length := by rw [its_len, List.length_cons]; omega
  obtain ⟨b, o, rfl, -⟩ := hr.at_ 0 _ (List.getElem?_eq_getElem h0)
  have hx : ∀ j v, x.cells[j]? = some v → (its (x :: r))[0 + j]? = some v := fun j v hv => by rw [its_cons, Nat.zero_add, List.getElem?_append_left (List.getElem?_eq_some_iff.1 hv).1]; exact hv
  refine spec_of Tryd.func67 rfl (n := 47) rfl rfl ?_
  intro W
  refine h_seq ?_
  refine h_reg ?_
  refine h_op (r_assign rfl) ?_
  refine h_op (r_assign rfl) ?_
  refine h_nil ?_
  refine q_then ?_
  refine h_seq ?_
  refine h_seq ?_
  refine h_reg ?_
  refine h_op (r_move rfl) ?_
  refine h_op (r_len rfl) ?_
  refine h_op (r_bool (r_eql rfl rfl) (decide_eq_false (by omega))) ?_
  refine h_nil ?_
  refine q_then ?_
  refine h_condF rfl ?_
  refine h_skip ?_
  refine q_then ?_
  refine h_seq ?_
  refine ha_start [.zone false h] [] mixed (same) ?_
  refine ha_takeP 0 rfl (r_move rfl) ?_
  refine ha_takeP 1 rfl (r_idx rfl rfl) ?_
  refine ha_take 2 rfl (r_nthr rfl (out := x.cells) (Item.cells_length x) hx) ?_
  refine ha_takeP 3 rfl (r_move rfl) ?_
  refine ha_takeP 4 rfl (r_as (r_slL rfl rfl) (show _ = Value.slice (cutA (some ⟨b, o, none⟩) c 1 97) r.length (c - 1) by rw [Nat.add_sub_cancel])) ?_
  refine ha_one 5 ?_
  refine ho_X 5 rfl (rk (x_alloc)) (fun _ => same) fun g6 => ?_
  refine ha_one 6 ?_
  refine ho_S 6 rfl (s_storer rfl rfl) (same) ?_
  refine ha_takeP 7 rfl (r_assign rfl) ?_
  refine ha_done (by kernel_rfl) ?_
  refine q_then ?_
  refine h_seq ?_
  refine h_seq ?_
  refine h_reg ?_
  refine h_op (r_field rfl) ?_
  refine h_op (r_loadc rfl) ?_
  refine h_op (r_bool (r_neq rfl rfl) (decide_eq_true hk)) ?_
  refine h_nil ?_
  refine q_then ?_
  refine h_condT rfl ?_
  refine h_seq ?_
  refine h_reg ?_
  refine h_op (r_loadr rfl) ?_
  refine h_op (r_build rfl) ?_
  refine h_op (r_mkI rfl) ?_
  refine h_op (r_move rfl) ?_
  refine h_op (r_assign rfl) ?_
  refine h_op (r_assign rfl) ?_
  refine h_nil ?_
  refine q_then ?_
  refine h_ret ?_
  refine q_thenR ?_
  exact h_ret2 rfl rfl rfl fun w s => ⟨(), rfl, s.res (List.nil_sublist _) (by simp)⟩
theorem read_deep (x : Item) (r : List Item) (hk : x.kind = 2) (A : Option Addr) (c : Nat) (i : Int) (hi : 256 ≤ i) [hr : RdZ h A (its (x :: r))] (hc : r.length + 1 ≤ c) : Spec Tryd.prog 67 [.slice A (r.length + 1) c, .int .i64 i].toArray [.zone false h] [] (fun _ : Unit => .tuple #[.nilIface, .slice none 0 0]) (fun _ => []) := by
  have h0 : 0 < (its (x :: r)).length := by rw [its_len, List.length_cons]; omega
  obtain ⟨b, o, rfl, -⟩ := hr.at_ 0 _ (List.getElem?_eq_getElem h0)
  have hx : ∀ j v, x.cells[j]? = some v → (its (x :: r))[0 + j]? = some v := fun j v hv => by rw [its_cons, Nat.zero_add, List.getElem?_append_left (List.getElem?_eq_some_iff.1 hv).1]; exact hv
  refine spec_of Tryd.func67 rfl (n := 47) rfl rfl ?_
  intro W
  refine h_seq ?_
  refine h_reg ?_
  refine h_op (r_assign rfl) ?_
  refine h_op (r_assign rfl) ?_
  refine h_nil ?_
  refine q_then ?_
  refine h_seq ?_
  refine h_seq ?_
  refine h_reg ?_
  refine h_op (r_move rfl) ?_
  refine h_op (r_len rfl) ?_
  refine h_op (r_bool (r_eql rfl rfl) (decide_eq_false (by omega))) ?_
  refine h_nil ?_
  refine q_then ?_
  refine h_condF rfl ?_
  refine h_skip ?_
  refine q_then ?_
  refine h_seq ?_
  refine ha_start [.zone false h] [] mixed (same) ?_
  refine ha_takeP 0 rfl (r_move rfl) ?_
  refine ha_takeP 1 rfl (r_idx rfl rfl) ?_
  refine ha_take 2 rfl (r_nthr rfl (out := x.cells) (Item.cells_length x) hx) ?_
  refine ha_takeP 3 rfl (r_move rfl) ?_
  refine ha_takeP 4 rfl (r_as (r_slL rfl rfl) (show _ = Value.slice (cutA (some ⟨b, o, none⟩) c 1 97) r.length (c - 1) by rw [Nat.add_sub_cancel])) ?_
  refine ha_one 5 ?_
  refine ho_X 5 rfl (rk (x_alloc)) (fun _ => same) fun g6 => ?_
  refine ha_one 6 ?_
  refine ho_S 6 rfl (s_storer rfl rfl) (same) ?_
  refine ha_takeP 7 rfl (r_assign rfl) ?_
  refine ha_done (by kernel_rfl) ?_
  refine q_then ?_
  refine h_seq ?_
  refine h_seq ?_
  refine h_reg ?_
  refine h_op (r_field rfl) ?_
  refine h_op (r_loadc rfl) ?_
  refine h_op (r_bool (r_neq rfl rfl) (decide_eq_false (fun h => h hk))) ?_
  refine h_nil ?_
  refine q_then ?_
  refine h_condF rfl ?_
  refine h_skip ?_
  refine q_then ?_
  refine h_seq ?_
  refine h_seq ?_
  refine h_reg ?_
  refine h_op (r_move rfl) ?_
  refine h_op (r_bool (r_geq rfl rfl) (decide_eq_true (by omega))) ?_
  refine h_nil ?_
  refine q_then ?_
  refine h_condT rfl ?_
  refine h_seq ?_
  refine h_reg ?_
  refine h_op (r_assign rfl) ?_
  refine h_op (r_assign rfl) ?_
  refine h_nil ?_
  refine q_then ?_
  refine h_ret ?_
  refine q_thenR ?_
  exact h_ret2 rfl rfl rfl fun w s => ⟨(), rfl, s.res (List.nil_sublist _) (by simp)⟩
/-- what a call of read brings -/
def ReadS (d : Nat) (l : List Item) : Prop := ∀ (A : Option Addr) (c : Nat), RdZ h A (its l) → l.length ≤ c →
  match readM d l with
  | none => Spec Tryd.prog 67 [.slice A l.length c, .int .i64 (256 - (d : Int))].toArray [.zone false h] [] (fun _ : Unit => .tuple #[.nilIface, .slice none 0 0]) (fun _ => [])
  | some (t, r) => Spec Tryd.prog 67 [.slice A l.length c, .int .i64 (256 - (d : Int))].toArray [.zone false h] [] (fun y : {y : Option Addr × Nat // RdZ h y.1 (its r) ∧ r.length ≤ y.2} => .tuple #[.iface t.tag t.val, .slice y.1.1 r.length y.1.2]) (fun _ => [])
theorem read_no1 (x : Item) (r : List Item) (hk : x.kind = 2) (d : Nat) (hd : d < 256) (h1 : readM d r = none) (hS : ReadS h d r) (A : Option Addr) (c : Nat) [hr : RdZ h A (its (x :: r))] (hc : r.length + 1 ≤ c) : Spec Tryd.prog 67 [.slice A (r.length + 1) c, .int .i64 (256 - ((d + 1 : Nat) : Int))].toArray [.zone false h] [] (fun _ : Unit => .tuple #[.nilIface, .slice none 0 0]) (fun _ => []) := by
  have h0 : 0 < (its (x :: r)).length := by rw [its_len, List.length_cons]; omega
  have hT := hS _ _ (its_tail hr hc) (show r.length ≤ c - 1 by omega)
  rw [h1] at hT
  obtain ⟨b, o, rfl, -⟩ := hr.at_ 0 _ (List.getElem?_eq_getElem h0)
  have hx : ∀ j v, x.cells[j]? = some v → (its (x :: r))[0 + j]? = some v := fun j v hv => by rw [its_cons, Nat.zero_add, List.getElem?_append_left (List.getElem?_eq_some_iff.1 hv).1]; exact hv
  refine spec_of Tryd.func67 rfl (n := 47) rfl rfl ?_
  intro W
  refine h_seq ?_
  refine h_reg ?_
  refine h_op (r_assign rfl) ?_
  refine h_op (r_assign rfl) ?_
  refine h_nil ?_
  refine q_then ?_
  refine h_seq ?_
  refine h_seq ?_
  refine h_reg ?_
  refine h_op (r_move rfl) ?_
  refine h_op (r_len rfl) ?_
  refine h_op (r_bool (r_eql rfl rfl) (decide_eq_false (by omega))) ?_
  refine h_nil ?_
  refine q_then ?_
  refine h_condF rfl ?_
  refine h_skip ?_
  refine q_then ?_
  refine h_seq ?_
  refine ha_start [.zone false h] [] mixed (same) ?_
  refine ha_takeP 0 rfl (r_move rfl) ?_
  refine ha_takeP 1 rfl (r_idx rfl rfl) ?_
  refine ha_take 2 rfl (r_nthr rfl (out := x.cells) (Item.cells_length x) hx) ?_
  refine ha_takeP 3 rfl (r_move rfl) ?_
  refine ha_takeP 4 rfl (r_as (r_slL rfl rfl) (show _ = Value.slice (cutA (some ⟨b, o, none⟩) c 1 97) r.length (c - 1) by rw [Nat.add_sub_cancel])) ?_
  refine ha_one 5 ?_
  refine ho_X 5 rfl (rk (x_alloc)) (fun _ => same) fun g6 => ?_
  refine ha_one 6 ?_
  refine ho_S 6 rfl (s_storer rfl rfl) (same) ?_
  refine ha_takeP 7 rfl (r_assign rfl) ?_
  refine ha_done (by kernel_rfl) ?_
  refine q_then ?_
  refine h_seq ?_
  refine h_seq ?_
  refine h_reg ?_
  refine h_op (r_field rfl) ?_
  refine h_op (r_loadc rfl) ?_
  refine h_op (r_bool (r_neq rfl rfl) (decide_eq_false (fun h => h hk))) ?_
  refine h_nil ?_
  refine q_then ?_
  refine h_condF rfl ?_
  refine h_skip ?_
  refine q_then ?_
  refine h_seq ?_
  refine h_seq ?_
  refine h_reg ?_
  refine h_op (r_move rfl) ?_
  refine h_op (r_bool (r_geq rfl rfl) (decide_eq_false (by omega))) ?_
  refine h_nil ?_
  refine q_then ?_
  refine h_condF rfl ?_
  refine h_skip ?_
  refine q_then ?_
  refine h_seq ?_
  refine h_reg ?_
  refine h_opX (x_alloc) fun g8 => ?_
  refine h_nil ?_
  refine q_then ?_
  refine h_seq ?_
  refine h_seq ?_
  refine h_reg ?_
  refine h_op (r_move rfl) ?_
  refine h_nil ?_
  refine q_then ?_
  refine h_block ?_
  refine h_loop (fun (u : Unit) => True) (fun (u : Unit) => [(27, .int .i64 0), (8, .pointer (some ⟨g8, 0, none⟩)), (7, .slice (cutA (some ⟨b, o, none⟩) c 1 97) r.length (c - 1)), (1, .int .i64 (256 - ((d + 1 : Nat) : Int)))]) (fun (u : Unit) => [.blk g8 [.nilIface, .nilIface] 120, .zone false h]) (fun (u : Unit) => 0) () (trivial) ⟨rfl, rfl, rfl, rfl, trivial⟩ (same) ?_
  rintro ⟨⟩ -
  refine h_seq ?_
  refine h_reg ?_
  refine h_op (r_lss rfl rfl) ?_
  refine h_nil ?_
  refine q_then ?_
  refine h_seq ?_
  refine h_condT rfl ?_
  refine h_skip ?_
  refine q_then ?_
  refine h_seq ?_
  refine h_block ?_
  refine h_seq ?_
  refine h_reg ?_
  refine h_op (r_move rfl) ?_
  refine h_op (r_assign rfl) ?_
  refine h_nil ?_
  refine q_then ?_
  refine h_seq ?_
  refine h_reg ?_
  refine h_op (r_move rfl) ?_
  refine h_op (r_move rfl) ?_
  refine h_op (r_move rfl) ?_
  refine h_op (r_int (r_add rfl rfl) (show _ = 256 - (d : Int) by omega)) ?_
  refine h_call (hT.comes) rfl rfl rfl fun _ => ?_
  refine h_op (r_move rfl) ?_
  refine h_op (r_extract rfl rfl) ?_
  refine h_op (r_extract rfl rfl) ?_
  refine h_op (r_idxA rfl rfl) ?_
  refine h_opS (s_store rfl rfl rfl) ?_
  refine h_op (r_assign rfl) ?_
  refine h_nil ?_
  refine q_then ?_
  refine h_seq ?_
  refine h_reg ?_
  refine h_op (r_move rfl) ?_
  refine h_op (r_idxA rfl rfl) ?_
  refine h_op (r_loadc rfl) ?_
  refine h_op (r_nilnil rfl) ?_
  refine h_nil ?_
  refine q_then ?_
  refine h_condT rfl ?_
  refine h_seq ?_
  refine h_reg ?_
  refine h_op (r_assign rfl) ?_
  refine h_op (r_assign rfl) ?_
  refine h_nil ?_
  refine q_then ?_
  refine h_ret ?_
  refine q_blockR ?_
  refine q_thenR ?_
  refine q_thenR ?_
  refine q_blockR ?_
  refine q_thenR ?_
  exact h_ret2 rfl rfl rfl fun w s => ⟨(), rfl, s.res (List.nil_sublist _) (by simp)⟩
theorem read_no2 (x : Item) (r r1 : List Item) (t1 : Sub) (hk : x.kind = 2) (d : Nat) (hd : d < 256) (h1 : readM d r = some (t1, r1)) (h2 : readM d r1 = none) (hS : ReadS h d r) (hS1 : ReadS h d r1) (A : Option Addr) (c : Nat) [hr : RdZ h A (its (x :: r))] (hc : r.length + 1 ≤ c) : Spec Tryd.prog 67 [.slice A (r.length + 1) c, .int .i64 (256 - ((d + 1 : Nat) : Int))].toArray [.zone false h] [] (fun _ : Unit => .tuple #[.nilIface, .slice none 0 0]) (fun _ => []) := by
  have hT2 : ∀ A c, RdZ h A (its r1) → r1.length ≤ c → Spec Tryd.prog 67 [.slice A r1.length c, .int .i64 (256 - (d : Int))].toArray [.zone false h] [] (fun _ : Unit => .tuple #[.nilIface, .slice none 0 0]) (fun _ => []) := fun A c a b => by
    have := hS1 A c a b
    rw [h2] at this
    exact this
  have h0 : 0 < (its (x :: r)).length := by rw [its_len, List.length_cons]; omega
  have hz0 := its_tail hr hc
  have hT1 : ∀ A c, RdZ h A (its r) → r.length ≤ c → Spec Tryd.prog 67 [.slice A r.length c, .int .i64 (256 - (d : Int))].toArray [.zone false h] [] (fun y : {y : Option Addr × Nat // RdZ h y.1 (its r1) ∧ r1.length ≤ y.2} => .tuple #[.iface t1.tag t1.val, .slice y.1.1 r1.length y.1.2]) (fun _ => []) := fun A c a b => by
    have := hS A c a b
    rw [h1] at this
    exact this
  obtain ⟨b, o, rfl, -⟩ := hr.at_ 0 _ (List.getElem?_eq_getElem h0)
  have hx : ∀ j v, x.cells[j]? = some v → (its (x :: r))[0 + j]? = some v := fun j v hv => by rw [its_cons, Nat.zero_add, List.getElem?_append_left (List.getElem?_eq_some_iff.1 hv).1]; exact hv
  refine spec_of Tryd.func67 rfl (n := 47) rfl rfl ?_
  intro W
  refine h_seq ?_
  refine h_reg ?_
  refine h_op (r_assign rfl) ?_
  refine h_op (r_assign rfl) ?_
  refine h_nil ?_
  refine q_then ?_
  refine h_seq ?_
  refine h_seq ?_
  refine h_reg ?_
  refine h_op (r_move rfl) ?_
  refine h_op (r_len rfl) ?_
  refine h_op (r_bool (r_eql rfl rfl) (decide_eq_false (by omega))) ?_
  refine h_nil ?_
  refine q_then ?_
  refine h_condF rfl ?_
  refine h_skip ?_
  refine q_then ?_
  refine h_seq ?_
  refine ha_start [.zone false h] [] mixed (same) ?_
  refine ha_takeP 0 rfl (r_move rfl) ?_
  refine ha_takeP 1 rfl (r_idx rfl rfl) ?_
  refine ha_take 2 rfl (r_nthr rfl (out := x.cells) (Item.cells_length x) hx) ?_
  refine ha_takeP 3 rfl (r_move rfl) ?_
  refine ha_takeP 4 rfl (r_as (r_slL rfl rfl) (show _ = Value.slice (cutA (some ⟨b, o, none⟩) c 1 97) r.length (c - 1) by rw [Nat.add_sub_cancel])) ?_
  refine ha_one 5 ?_
  refine ho_X 5 rfl (rk (x_alloc)) (fun _ => same) fun g6 => ?_
  refine ha_one 6 ?_
  refine ho_S 6 rfl (s_storer rfl rfl) (same) ?_
  refine ha_takeP 7 rfl (r_assign rfl) ?_
  refine ha_done (by kernel_rfl) ?_
  refine q_then ?_
  refine h_seq ?_
  refine h_seq ?_
  refine h_reg ?_
  refine h_op (r_field rfl) ?_
  refine h_op (r_loadc rfl) ?_
  refine h_op (r_bool (r_neq rfl rfl) (decide_eq_false (fun h => h hk))) ?_
  refine h_nil ?_
  refine q_then ?_
  refine h_condF rfl ?_
  refine h_skip ?_
  refine q_then ?_
  refine h_seq ?_
  refine h_seq ?_
  refine h_reg ?_
  refine h_op (r_move rfl) ?_
  refine h_op (r_bool (r_geq rfl rfl) (decide_eq_false (by omega))) ?_
  refine h_nil ?_
  refine q_then ?_
  refine h_condF rfl ?_
  refine h_skip ?_
  refine q_then ?_
  refine h_seq ?_
  refine h_reg ?_
  refine h_opX (x_alloc) fun g8 => ?_
  refine h_nil ?_
  refine q_then ?_
  refine h_seq ?_
  refine h_seq ?_
  refine h_reg ?_
  refine h_op (r_move rfl) ?_
  refine h_nil ?_
  refine q_then ?_
  refine h_block ?_
  refine h_loop (fun (s : Nat × Value × List Item × Option Addr × Nat) => (s.1 = 0 ∧ s.2.1 = .nilIface ∧ s.2.2.1 = r ∧ RdZ h s.2.2.2.1 (its r) ∧ r.length ≤ s.2.2.2.2) ∨ (s.1 = 1 ∧ s.2.1 = .iface t1.tag t1.val ∧ s.2.2.1 = r1 ∧ RdZ h s.2.2.2.1 (its r1) ∧ r1.length ≤ s.2.2.2.2)) (fun (s : Nat × Value × List Item × Option Addr × Nat) => [(27, .int .i64 (s.1 : Int)), (8, .pointer (some ⟨g8, 0, none⟩)), (7, .slice s.2.2.2.1 s.2.2.1.length s.2.2.2.2), (1, .int .i64 (256 - ((d + 1 : Nat) : Int)))]) (fun (s : Nat × Value × List Item × Option Addr × Nat) => [.blk g8 [s.2.1, .nilIface] 120, .zone false h]) (fun (s : Nat × Value × List Item × Option Addr × Nat) => 2 - s.1) (0, .nilIface, r, cutA (some ⟨b, o, none⟩) c 1 97, c - 1) ((.inl ⟨rfl, rfl, rfl, hz0, (show r.length ≤ c - 1 by omega)⟩)) ⟨rfl, rfl, rfl, rfl, trivial⟩ (same) ?_
  rintro ⟨i, v1, l, Ar, cr⟩ hp
  dsimp only at hp ⊢
  rcases hp with ⟨rfl, rfl, rfl, hz, hcr⟩ | ⟨rfl, rfl, rfl, hz, hcr⟩
  · refine h_seq ?_
    refine h_reg ?_
    refine h_op (r_lss rfl rfl) ?_
    refine h_nil ?_
    refine q_then ?_
    refine h_seq ?_
    refine h_condT rfl ?_
    refine h_skip ?_
    refine q_then ?_
    refine h_seq ?_
    refine h_block ?_
    refine h_seq ?_
    refine h_reg ?_
    refine h_op (r_move rfl) ?_
    refine h_op (r_assign rfl) ?_
    refine h_nil ?_
    refine q_then ?_
    refine h_seq ?_
    refine h_reg ?_
    refine h_op (r_move rfl) ?_
    refine h_op (r_move rfl) ?_
    refine h_op (r_move rfl) ?_
    refine h_op (r_int (r_add rfl rfl) (show _ = 256 - (d : Int) by omega)) ?_
    refine h_call ((hT1 Ar cr hz hcr).comes) rfl rfl rfl fun ⟨⟨A1, c1⟩, hz1, hc1⟩ => ?_
    dsimp only at hz1 hc1 ⊢
    refine h_op (r_move rfl) ?_
    refine h_op (r_extract rfl rfl) ?_
    refine h_op (r_extract rfl rfl) ?_
    refine h_op (r_idxA rfl rfl) ?_
    refine h_opS (s_store rfl rfl rfl) ?_
    refine h_op (r_assign rfl) ?_
    refine h_nil ?_
    refine q_then ?_
    refine h_seq ?_
    refine h_reg ?_
    refine h_op (r_move rfl) ?_
    refine h_op (r_idxA rfl rfl) ?_
    refine h_op (r_loadc rfl) ?_
    refine h_op (r_ifnil rfl) ?_
    refine h_nil ?_
    refine q_then ?_
    refine h_condF rfl ?_
    refine h_skip ?_
    refine q_block ?_
    refine q_then ?_
    refine h_reg ?_
    refine h_op (r_add rfl rfl) ?_
    refine h_op (r_move rfl) ?_
    refine h_nil ?_
    exact h_back (1, .iface t1.tag t1.val, r1, A1, c1) ((.inr ⟨rfl, rfl, rfl, hz1, hc1⟩)) ((show 2 - 1 < 2 - 0 by omega)) ⟨rfl, rfl, rfl, rfl, trivial⟩ (same)
  · refine h_seq ?_
    refine h_reg ?_
    refine h_op (r_lss rfl rfl) ?_
    refine h_nil ?_
    refine q_then ?_
    refine h_seq ?_
    refine h_condT rfl ?_
    refine h_skip ?_
    refine q_then ?_
    refine h_seq ?_
    refine h_block ?_
    refine h_seq ?_
    refine h_reg ?_
    refine h_op (r_move rfl) ?_
    refine h_op (r_assign rfl) ?_
    refine h_nil ?_
    refine q_then ?_
    refine h_seq ?_
    refine h_reg ?_
    refine h_op (r_move rfl) ?_
    refine h_op (r_move rfl) ?_
    refine h_op (r_move rfl) ?_
    refine h_op (r_int (r_add rfl rfl) (show _ = 256 - (d : Int) by omega)) ?_
    refine h_call ((hT2 Ar cr hz hcr).comes) rfl rfl rfl fun _ => ?_
    refine h_op (r_move rfl) ?_
    refine h_op (r_extract rfl rfl) ?_
    refine h_op (r_extract rfl rfl) ?_
    refine h_op (r_idxA rfl rfl) ?_
    refine h_opS (s_store rfl rfl rfl) ?_
    refine h_op (r_assign rfl) ?_
    refine h_nil ?_
    refine q_then ?_
    refine h_seq ?_
    refine h_reg ?_
    refine h_op (r_move rfl) ?_
    refine h_op (r_idxA rfl rfl) ?_
    refine h_op (r_loadc rfl) ?_
    refine h_op (r_nilnil rfl) ?_
    refine h_nil ?_
    refine q_then ?_
    refine h_condT rfl ?_
    refine h_seq ?_
    refine h_reg ?_
    refine h_op (r_assign rfl) ?_
    refine h_op (r_assign rfl) ?_
    refine h_nil ?_
    refine q_then ?_
    refine h_ret ?_
    refine q_blockR ?_
    refine q_thenR ?_
    refine q_thenR ?_
    refine q_blockR ?_
    refine q_thenR ?_
    exact h_ret2 rfl rfl rfl fun w s => ⟨(), rfl, s.res (List.nil_sublist _) (by simp)⟩
theorem read_yes2 (x : Item) (r r1 r2 : List Item) (t1 t2 : Sub) (hk : x.kind = 2) (d : Nat) (hd : d < 256) (h1 : readM d r = some (t1, r1)) (h2 : readM d r1 = some (t2, r2)) (hS : ReadS h d r) (hS1 : ReadS h d r1) (A : Option Addr) (c : Nat) [hr : RdZ h A (its (x :: r))] (hc : r.length + 1 ≤ c) : Spec Tryd.prog 67 [.slice A (r.length + 1) c, .int .i64 (256 - ((d + 1 : Nat) : Int))].toArray [.zone false h] [] (fun y : {y : Option Addr × Nat // RdZ h y.1 (its r2) ∧ r2.length ≤ y.2} => .tuple #[.iface (Sub.two t1 t2).tag (Sub.two t1 t2).val, .slice y.1.1 r2.length y.1.2]) (fun _ => []) := by
  have hT2 : ∀ A c, RdZ h A (its r1) → r1.length ≤ c → Spec Tryd.prog 67 [.slice A r1.length c, .int .i64 (256 - (d : Int))].toArray [.zone false h] [] (fun y : {y : Option Addr × Nat // RdZ h y.1 (its r2) ∧ r2.length ≤ y.2} => .tuple #[.iface t2.tag t2.val, .slice y.1.1 r2.length y.1.2]) (fun _ => []) := fun A c a b => by
    have := hS1 A c a b
    rw [h2] at this
    exact this
  have h0 : 0 < (its (x :: r)).length := by rw [its_len, List.length_cons]; omega
  have hz0 := its_tail hr hc
  have hT1 : ∀ A c, RdZ h A (its r) → r.length ≤ c → Spec Tryd.prog 67 [.slice A r.length c, .int .i64 (256 - (d : Int))].toArray [.zone false h] [] (fun y : {y : Option Addr × Nat // RdZ h y.1 (its r1) ∧ r1.length ≤ y.2} => .tuple #[.iface t1.tag t1.val, .slice y.1.1 r1.length y.1.2]) (fun _ => []) := fun A c a b => by
    have := hS A c a b
    rw [h1] at this
    exact this
  obtain ⟨b, o, rfl, -⟩ := hr.at_ 0 _ (List.getElem?_eq_getElem h0)
  have hx : ∀ j v, x.cells[j]? = some v → (its (x :: r))[0 + j]? = some v := fun j v hv => by rw [its_cons, Nat.zero_add, List.getElem?_append_left (List.getElem?_eq_some_iff.1 hv).1]; exact hv
  refine spec_of Tryd.func67 rfl (n := 47) rfl rfl ?_
  intro W
  refine h_seq ?_
  refine h_reg ?_
  refine h_op (r_assign rfl) ?_
  refine h_op (r_assign rfl) ?_
  refine h_nil ?_
  refine q_then ?_
  refine h_seq ?_
  refine h_seq ?_
  refine h_reg ?_
  refine h_op (r_move rfl) ?_
  refine h_op (r_len rfl) ?_
  refine h_op (r_bool (r_eql rfl rfl) (decide_eq_false (by omega))) ?_
  refine h_nil ?_
  refine q_then ?_
  refine h_condF rfl ?_
  refine h_skip ?_
  refine q_then ?_
  refine h_seq ?_
  refine ha_start [.zone false h] [] mixed (same) ?_
  refine ha_takeP 0 rfl (r_move rfl) ?_
  refine ha_takeP 1 rfl (r_idx rfl rfl) ?_
  refine ha_take 2 rfl (r_nthr rfl (out := x.cells) (Item.cells_length x) hx) ?_
  refine ha_takeP 3 rfl (r_move rfl) ?_
  refine ha_takeP 4 rfl (r_as (r_slL rfl rfl) (show _ = Value.slice (cutA (some ⟨b, o, none⟩) c 1 97) r.length (c - 1) by rw [Nat.add_sub_cancel])) ?_
  refine ha_one 5 ?_
  refine ho_X 5 rfl (rk (x_alloc)) (fun _ => same) fun g6 => ?_
  refine ha_one 6 ?_
  refine ho_S 6 rfl (s_storer rfl rfl) (same) ?_
  refine ha_takeP 7 rfl (r_assign rfl) ?_
  refine ha_done (by kernel_rfl) ?_
  refine q_then ?_
  refine h_seq ?_
  refine h_seq ?_
  refine h_reg ?_
  refine h_op (r_field rfl) ?_
  refine h_op (r_loadc rfl) ?_
  refine h_op (r_bool (r_neq rfl rfl) (decide_eq_false (fun h => h hk))) ?_
  refine h_nil ?_
  refine q_then ?_
  refine h_condF rfl ?_
  refine h_skip ?_
  refine q_then ?_
  refine h_seq ?_
  refine h_seq ?_
  refine h_reg ?_
  refine h_op (r_move rfl) ?_
  refine h_op (r_bool (r_geq rfl rfl) (decide_eq_false (by omega))) ?_
  refine h_nil ?_
  refine q_then ?_
  refine h_condF rfl ?_
  refine h_skip ?_
  refine q_then ?_
  refine h_seq ?_
  refine h_reg ?_
  refine h_opX (x_alloc) fun g8 => ?_
  refine h_nil ?_
  refine q_then ?_
  refine h_seq ?_
  refine h_seq ?_
  refine h_reg ?_
  refine h_op (r_move rfl) ?_
  refine h_nil ?_
  refine q_then ?_
  refine h_block ?_
  refine h_loop (fun (s : Nat × (Value × Value) × List Item × Option Addr × Nat) => (s.1 = 0 ∧ s.2.1 = (.nilIface, .nilIface) ∧ s.2.2.1 = r ∧ RdZ h s.2.2.2.1 (its r) ∧ r.length ≤ s.2.2.2.2) ∨ (s.1 = 1 ∧ s.2.1 = (.iface t1.tag t1.val, .nilIface) ∧ s.2.2.1 = r1 ∧ RdZ h s.2.2.2.1 (its r1) ∧ r1.length ≤ s.2.2.2.2) ∨ (s.1 = 2 ∧ s.2.1 = (.iface t1.tag t1.val, .iface t2.tag t2.val) ∧ s.2.2.1 = r2 ∧ RdZ h s.2.2.2.1 (its r2) ∧ r2.length ≤ s.2.2.2.2)) (fun (s : Nat × (Value × Value) × List Item × Option Addr × Nat) => [(27, .int .i64 (s.1 : Int)), (8, .pointer (some ⟨g8, 0, none⟩)), (7, .slice s.2.2.2.1 s.2.2.1.length s.2.2.2.2), (1, .int .i64 (256 - ((d + 1 : Nat) : Int)))]) (fun (s : Nat × (Value × Value) × List Item × Option Addr × Nat) => [.blk g8 [s.2.1.1, s.2.1.2] 120, .zone false h]) (fun (s : Nat × (Value × Value) × List Item × Option Addr × Nat) => 2 - s.1) (0, (.nilIface, .nilIface), r, cutA (some ⟨b, o, none⟩) c 1 97, c - 1) ((.inl ⟨rfl, rfl, rfl, hz0, (show r.length ≤ c - 1 by omega)⟩)) ⟨rfl, rfl, rfl, rfl, trivial⟩ (same) ?_
  rintro ⟨i, v1, l, Ar, cr⟩ hp
  dsimp only at hp ⊢
  rcases hp with ⟨rfl, rfl, rfl, hz, hcr⟩ | ⟨rfl, rfl, rfl, hz, hcr⟩ | ⟨rfl, rfl, rfl, hz, hcr⟩
  · refine h_seq ?_
    refine h_reg ?_
    refine h_op (r_lss rfl rfl) ?_
    refine h_nil ?_
    refine q_then ?_
    refine h_seq ?_
    refine h_condT rfl ?_
    refine h_skip ?_
    refine q_then ?_
    refine h_seq ?_
    refine h_block ?_
    refine h_seq ?_
    refine h_reg ?_
    refine h_op (r_move rfl) ?_
    refine h_op (r_assign rfl) ?_
    refine h_nil ?_
    refine q_then ?_
    refine h_seq ?_
    refine h_reg ?_
    refine h_op (r_move rfl) ?_
    refine h_op (r_move rfl) ?_
    refine h_op (r_move rfl) ?_
    refine h_op (r_int (r_add rfl rfl) (show _ = 256 - (d : Int) by omega)) ?_
    refine h_call ((hT1 Ar cr hz hcr).comes) rfl rfl rfl fun ⟨⟨A1, c1⟩, hz1, hc1⟩ => ?_
    dsimp only at hz1 hc1 ⊢
    refine h_op (r_move rfl) ?_
    refine h_op (r_extract rfl rfl) ?_
    refine h_op (r_extract rfl rfl) ?_
    refine h_op (r_idxA rfl rfl) ?_
    refine h_opS (s_store rfl rfl rfl) ?_
    refine h_op (r_assign rfl) ?_
    refine h_nil ?_
    refine q_then ?_
    refine h_seq ?_
    refine h_reg ?_
    refine h_op (r_move rfl) ?_
    refine h_op (r_idxA rfl rfl) ?_
    refine h_op (r_loadc rfl) ?_
    refine h_op (r_ifnil rfl) ?_
    refine h_nil ?_
    refine q_then ?_
    refine h_condF rfl ?_
    refine h_skip ?_
    refine q_block ?_
    refine q_then ?_
    refine h_reg ?_
    refine h_op (r_add rfl rfl) ?_
    refine h_op (r_move rfl) ?_
    refine h_nil ?_
    exact h_back (1, (.iface t1.tag t1.val, .nilIface), r1, A1, c1) ((.inr (.inl ⟨rfl, rfl, rfl, hz1, hc1⟩))) ((show 2 - 1 < 2 - 0 by omega)) ⟨rfl, rfl, rfl, rfl, trivial⟩ (same)
  · refine h_seq ?_
    refine h_reg ?_
    refine h_op (r_lss rfl rfl) ?_
    refine h_nil ?_
    refine q_then ?_
    refine h_seq ?_
    refine h_condT rfl ?_
    refine h_skip ?_
    refine q_then ?_
    refine h_seq ?_
    refine h_block ?_
    refine h_seq ?_
    refine h_reg ?_
    refine h_op (r_move rfl) ?_
    refine h_op (r_assign rfl) ?_
    refine h_nil ?_
    refine q_then ?_
    refine h_seq ?_
    refine h_reg ?_
    refine h_op (r_move rfl) ?_
    refine h_op (r_move rfl) ?_
    refine h_op (r_move rfl) ?_
    refine h_op (r_int (r_add rfl rfl) (show _ = 256 - (d : Int) by omega)) ?_
    refine h_call ((hT2 Ar cr hz hcr).comes) rfl rfl rfl fun ⟨⟨A1, c1⟩, hz1, hc1⟩ => ?_
    dsimp only at hz1 hc1 ⊢
    refine h_op (r_move rfl) ?_
    refine h_op (r_extract rfl rfl) ?_
    refine h_op (r_extract rfl rfl) ?_
    refine h_op (r_idxA rfl rfl) ?_
    refine h_opS (s_store rfl rfl rfl) ?_
    refine h_op (r_assign rfl) ?_
    refine h_nil ?_
    refine q_then ?_
    refine h_seq ?_
    refine h_reg ?_
    refine h_op (r_move rfl) ?_
    refine h_op (r_idxA rfl rfl) ?_
    refine h_op (r_loadc rfl) ?_
    refine h_op (r_ifnil rfl) ?_
    refine h_nil ?_
    refine q_then ?_
    refine h_condF rfl ?_
    refine h_skip ?_
    refine q_block ?_
    refine q_then ?_
    refine h_reg ?_
    refine h_op (r_add rfl rfl) ?_
    refine h_op (r_move rfl) ?_
    refine h_nil ?_
    exact h_back (2, (.iface t1.tag t1.val, .iface t2.tag t2.val), r2, A1, c1) ((.inr (.inr ⟨rfl, rfl, rfl, hz1, hc1⟩))) ((show 2 - 2 < 2 - 1 by omega)) ⟨rfl, rfl, rfl, rfl, trivial⟩ (same)
  · refine h_seq ?_
    refine h_reg ?_
    refine h_op (r_lss rfl rfl) ?_
    refine h_nil ?_
    refine q_then ?_
    refine h_seq ?_
    refine h_condF rfl ?_
    refine h_exit ?_
    refine q_thenE ?_
    refine q_thenE ?_
    refine q_blockE ?_
    refine q_then ?_
    refine h_seq ?_
    refine h_reg ?_
    refine h_op (r_loadr rfl) ?_
    refine h_op (r_mkI rfl) ?_
    refine h_op (r_move rfl) ?_
    refine h_op (r_assign rfl) ?_
    refine h_op (r_assign rfl) ?_
    refine h_nil ?_
    refine q_then ?_
    refine h_ret ?_
    exact h_ret2 rfl rfl rfl fun w s => ⟨⟨(Ar, cr), hz, hcr⟩, rfl, s.res (List.nil_sublist _) (by simp)⟩
theorem read_all : ∀ (d : Nat), d ≤ 256 → ∀ l : List Item, ReadS h d l
  | d, hd, [] => fun A c _ _ => by
    have : readM d [] = none := by cases d <;> rfl
    rw [this]
    exact read_nil h A c _
  | 0, hd, x :: r => fun A c hr hc => by
    unfold readM
    by_cases hk : x.kind = 2
    · rw [if_pos hk]
      exact read_deep h x r hk A c _ (by simp) hc
    · rw [if_neg hk]
      intro w hw hR
      exact (read_one h x r hk A c _ (hr := hr) hc w hw hR).mono fun e w' ⟨_, e1, e2⟩ => ⟨⟨(cutA A c 1 97, c - 1), its_tail hr hc, by have : r.length + 1 ≤ c := hc; dsimp only; omega⟩, e1, e2⟩
  | d + 1, hd, x :: r => fun A c hr hc => by
    have ih := fun l => read_all d (by omega) l
    unfold readM
    by_cases hk : x.kind = 2
    · rw [if_pos hk]
      cases h1 : readM d r with
      | none => exact read_no1 h x r hk d (by omega) h1 (ih r) A c hc
      | some p =>
        obtain ⟨t1, r1⟩ := p
        show match (readM d r1).bind fun q => some (Sub.two t1 q.1, q.2) with | none => _ | some (t, r) => _
        cases h2 : readM d r1 with
        | none => exact read_no2 h x r r1 t1 hk d (by omega) h1 h2 (ih r) (ih r1) A c hc
        | some q =>
          obtain ⟨t2, r2⟩ := q
          exact read_yes2 h x r r1 r2 t1 t2 hk d (by omega) h1 h2 (ih r) (ih r1) A c hc
    · rw [if_neg hk]
      intro w hw hR
      exact (read_one h x r hk A c _ (hr := hr) hc w hw hR).mono fun e w' ⟨_, e1, e2⟩ => ⟨⟨(cutA A c 1 97, c - 1), its_tail hr hc, by have : r.length + 1 ≤ c := hc; dsimp only; omega⟩, e1, e2⟩
end
end Go.Proofs.YtgfkbeipckbkiaaDoor
/- TI -/
namespace Go.Proofs.YtgfkbeipckbkiaaDoor
set_option linter.unusedSimpArgs false
set_option linter.unusedVariables false
open Go.RowKit Go.ChangeShapes Go.WideShapes
section
variable {H : Type} {enc : TypeId × Value → H} {w : World} {base : Nat} {spare : Nat → Bool} {held : Bool} {v : Value} {d : DataW H} {ps : List MemPlace} {r : Reach} {b0 : Nat}
instance : Inhabited Item := ⟨zItem⟩
set_option maxRecDepth 100000 in
theorem openKeys (hval : Value.okWide Tryd.prog w r b0 23 v) (hd : DataW.Trod enc Tryd.prog w base spare held 23 v d ps) :
    ∃ (l : List B32) (A : Option Addr) (cap : Nat), v = .slice A l.length cap ∧ l.length ≤ cap ∧ RdZ (World.zh w) A (dgs l) ∧ cap ≤ 9223372036854775807 := by
  have : Inhabited B32 := ⟨zB32⟩
  obtain ⟨l, A, c, h1, h4, h5, -, h2, -⟩ := open_rows (f := fun y : B32 => y.cells) B32.cells_length (by omega) Tryd.underlying23 c_Key (fun _ => True) (fun fuel cs x h => (dec_B32 Tryd.underlying40 c_Key Tryd.underlying5 c_u8 h).imp fun _ h => ⟨h, trivial⟩) hval hd
  exact ⟨l, A, c, h1, h4, RdZ.of h2, by have : maxLen ≤ 9223372036854775807 := by decide
                                        omega⟩
end
end Go.Proofs.YtgfkbeipckbkiaaDoor
/- U16 -/
namespace Go.Proofs.YtgfkbeipckbkiaaDoor
set_option linter.unusedSimpArgs false
set_option linter.unusedVariables false
open Go.RowKit
instance : Wd 64 4294967295 4294967295 := ⟨rfl⟩
def rep (k n : Nat) (x : B32) : List B32 := List.replicate k x ++ List.replicate (n - k) zB32
end Go.Proofs.YtgfkbeipckbkiaaDoor
/- U33 -/
namespace Go.Proofs.YtgfkbeipckbkiaaDoor
set_option linter.unusedSimpArgs false
set_option linter.unusedVariables false
open Go.RowKit
section
variable (n : Nat) (h : Zh) (t : Tr) (p : Option Addr) [ht : TrZ n h t p]
include ht
theorem Kind_s : Spec Tryd.prog 55 [.pointer p].toArray [.zone false h] [] (fun _ : Unit => .int .i64 ((t.kind : Nat) : Int)) (fun _ => []) := by
  have ho := ht.ok
  clear ht
  refine spec_of Tryd.func55 rfl (n := 15) rfl rfl ?_
  intro W
  rcases t with _ | ⟨kk, b⟩ | ⟨l, r⟩
  · obtain rfl : p = none := ho
    refine h_seq ?_
    refine h_reg ?_
    refine h_op (r_assign rfl) ?_
    refine h_nil ?_
    refine q_then ?_
    refine h_seq ?_
    refine h_seq ?_
    refine h_reg ?_
    refine h_op (r_move rfl) ?_
    refine h_op (r_nilR rfl rfl) ?_
    refine h_nil ?_
    refine q_then ?_
    refine h_condT rfl ?_
    refine h_seq ?_
    refine h_reg ?_
    refine h_op (r_assign rfl) ?_
    refine h_nil ?_
    refine q_then ?_
    refine h_ret ?_
    refine q_thenR ?_
    exact h_ret1 rfl rfl fun w s => ⟨(), rfl, s.res (List.nil_sublist _) (by simp)⟩
  · obtain ⟨g, s, rfl, hr, hs⟩ := ho
    refine h_seq ?_
    refine h_reg ?_
    refine h_op (r_assign rfl) ?_
    refine h_nil ?_
    refine q_then ?_
    refine h_seq ?_
    refine h_seq ?_
    refine h_reg ?_
    refine h_op (r_move rfl) ?_
    refine h_op (r_nilR rfl rfl) ?_
    refine h_nil ?_
    refine q_then ?_
    refine h_condF rfl ?_
    refine h_skip ?_
    refine q_then ?_
    refine h_seq ?_
    refine h_seq ?_
    refine h_reg ?_
    refine h_op (r_move rfl) ?_
    refine h_op (r_nilc rfl) ?_
    refine h_op (r_field rfl) ?_
    refine h_op (r_loadc rfl) ?_
    refine h_nil ?_
    refine q_then ?_
    refine h_block ?_
    refine h_seq ?_
    refine h_reg ?_
    refine h_op (r_as2 rfl) ?_
    refine h_op (r_extract rfl rfl) ?_
    refine h_op (r_extract rfl rfl) ?_
    refine h_nil ?_
    refine q_then ?_
    refine h_condT rfl ?_
    refine h_seq ?_
    refine h_reg ?_
    refine h_op (r_assign rfl) ?_
    refine h_nil ?_
    refine q_then ?_
    refine h_ret ?_
    refine q_blockR ?_
    refine q_thenR ?_
    exact h_ret1 rfl rfl fun w s => ⟨(), rfl, s.res (List.nil_sublist _) (by simp)⟩
  · obtain ⟨g, pl, pr, rfl, hr, hl, hr2⟩ := ho
    refine h_seq ?_
    refine h_reg ?_
    refine h_op (r_assign rfl) ?_
    refine h_nil ?_
    refine q_then ?_
    refine h_seq ?_
    refine h_seq ?_
    refine h_reg ?_
    refine h_op (r_move rfl) ?_
    refine h_op (r_nilR rfl rfl) ?_
    refine h_nil ?_
    refine q_then ?_
    refine h_condF rfl ?_
    refine h_skip ?_
    refine q_then ?_
    refine h_seq ?_
    refine h_seq ?_
    refine h_reg ?_
    refine h_op (r_move rfl) ?_
    refine h_op (r_nilc rfl) ?_
    refine h_op (r_field rfl) ?_
    refine h_op (r_loadc rfl) ?_
    refine h_nil ?_
    refine q_then ?_
    refine h_block ?_
    refine h_seq ?_
    refine h_reg ?_
    refine h_op (r_as2n rfl) ?_
    refine h_op (r_extract rfl rfl) ?_
    refine h_op (r_extract rfl rfl) ?_
    refine h_nil ?_
    refine q_then ?_
    refine h_condF rfl ?_
    refine h_seq ?_
    refine h_reg ?_
    refine h_op (r_as2 rfl) ?_
    refine h_op (r_extract rfl rfl) ?_
    refine h_op (r_extract rfl rfl) ?_
    refine h_nil ?_
    refine q_then ?_
    refine h_condT rfl ?_
    refine h_seq ?_
    refine h_reg ?_
    refine h_op (r_assign rfl) ?_
    refine h_nil ?_
    refine q_then ?_
    refine h_ret ?_
    refine q_blockR ?_
    refine q_thenR ?_
    exact h_ret1 rfl rfl fun w s => ⟨(), rfl, s.res (List.nil_sublist _) (by simp)⟩
end
theorem leaf_s (n : Nat) (h : Zh) (kk : B32) (b : List UInt8) (p : Option Addr) [ht : TrZ n h (.leaf kk b) p] : Spec Tryd.prog 78 [.pointer p].toArray [.zone false h] [] (fun s : {s : Sl // SlZ h s b} => .agg (NLeaf.cells ⟨leafOf n kk b, s.1⟩).toArray) (fun _ => []) := by
  obtain ⟨g, s, rfl, hr, hs⟩ := ht.ok
  refine spec_of Tryd.func78 rfl (n := 12) rfl rfl ?_
  intro W
  refine h_seq ?_
  refine h_reg ?_
  refine h_opX (x_alloc) fun g2 => ?_
  refine h_nil ?_
  refine q_then ?_
  refine h_seq ?_
  refine h_seq ?_
  refine h_reg ?_
  refine h_op (r_move rfl) ?_
  refine h_call ((Kind_s n h (.leaf kk b) (some ⟨g, 0, none⟩)).comes) rfl rfl rfl fun _ => ?_
  refine h_op (r_bool (r_neq rfl rfl) (show _ = false by simp [Tr.kind])) ?_
  refine h_nil ?_
  refine q_then ?_
  refine h_condF rfl ?_
  refine h_skip ?_
  refine q_then ?_
  refine h_seq ?_
  refine h_reg ?_
  refine h_op (r_move rfl) ?_
  refine h_op (r_nilc rfl) ?_
  refine h_op (r_field rfl) ?_
  refine h_op (r_loadc rfl) ?_
  refine h_op (r_as1 rfl) ?_
  refine h_opS (s_storer rfl rfl) ?_
  refine h_nil ?_
  refine q_then ?_
  refine h_ret ?_
  exact h_ret1 rfl (rv_row rfl) fun w s' => ⟨⟨s, hs⟩, rfl, s'.res (List.nil_sublist _) (by simp)⟩
theorem leaf_no (n : Nat) (h : Zh) (t : Tr) (p : Option Addr) [ht : TrZ n h t p] (hk : t.kind ≠ 1) : Spec Tryd.prog 78 [.pointer p].toArray [.zone false h] [] (fun _ : Unit => .agg zNLeaf.cells.toArray) (fun _ => []) := by
  refine spec_of Tryd.func78 rfl (n := 12) rfl rfl ?_
  intro W
  refine h_seq ?_
  refine h_reg ?_
  refine h_opX (x_alloc) fun g2 => ?_
  refine h_nil ?_
  refine q_then ?_
  refine h_seq ?_
  refine h_seq ?_
  refine h_reg ?_
  refine h_op (r_move rfl) ?_
  refine h_call ((Kind_s n h t p).comes) rfl rfl rfl fun _ => ?_
  refine h_op (r_bool (r_neq rfl rfl) (show _ = true by simp; omega)) ?_
  refine h_nil ?_
  refine q_then ?_
  refine h_condT rfl ?_
  refine h_seq ?_
  refine h_reg ?_
  refine h_op (r_build rfl) ?_
  refine h_opS (s_storer rfl rfl) ?_
  refine h_nil ?_
  refine q_then ?_
  refine h_ret ?_
  refine q_thenR ?_
  exact h_ret1 rfl (rv_row rfl) fun w s' => ⟨(), rfl, s'.res (List.nil_sublist _) (by simp)⟩
theorem Leaf_s (n : Nat) (h : Zh) (t : Tr) (p : Option Addr) [ht : TrZ n h t p] : Spec Tryd.prog 57 [.pointer p].toArray [.zone false h] [] (fun _ : Unit => .agg (leafT n t).cells.toArray) (fun _ => []) := by
  refine spec_of Tryd.func57 rfl (n := 6) rfl rfl ?_
  intro W
  rcases t with _ | ⟨kk, b⟩ | ⟨l, r⟩
  · refine h_seq ?_
    refine h_reg ?_
    refine h_opX (x_alloc) fun g2 => ?_
    refine h_nil ?_
    refine q_then ?_
    refine h_seq ?_
    refine h_reg ?_
    refine h_op (r_move rfl) ?_
    refine h_call ((leaf_no n h .nil p (by simp [Tr.kind])).comes) rfl rfl rfl fun _ => ?_
    refine h_op (r_fldr rfl) ?_
    refine h_opS (s_storer rfl rfl) ?_
    refine h_nil ?_
    refine q_then ?_
    refine h_ret ?_
    exact h_ret1 rfl (rv_row rfl) fun w s' => ⟨(), rfl, s'.res (List.nil_sublist _) (by simp)⟩
  · refine h_seq ?_
    refine h_reg ?_
    refine h_opX (x_alloc) fun g2 => ?_
    refine h_nil ?_
    refine q_then ?_
    refine h_seq ?_
    refine h_reg ?_
    refine h_op (r_move rfl) ?_
    refine h_call ((leaf_s n h kk b p).comes) rfl rfl rfl fun ⟨s, hs⟩ => ?_
    refine h_op (r_fldr rfl) ?_
    refine h_opS (s_storer rfl rfl) ?_
    refine h_nil ?_
    refine q_then ?_
    refine h_ret ?_
    exact h_ret1 rfl (rv_row rfl) fun w s' => ⟨(), rfl, s'.res (List.nil_sublist _) (by simp)⟩
  · refine h_seq ?_
    refine h_reg ?_
    refine h_opX (x_alloc) fun g2 => ?_
    refine h_nil ?_
    refine q_then ?_
    refine h_seq ?_
    refine h_reg ?_
    refine h_op (r_move rfl) ?_
    refine h_call ((leaf_no n h (.node l r) p (by simp [Tr.kind])).comes) rfl rfl rfl fun _ => ?_
    refine h_op (r_fldr rfl) ?_
    refine h_opS (s_storer rfl rfl) ?_
    refine h_nil ?_
    refine q_then ?_
    refine h_ret ?_
    exact h_ret1 rfl (rv_row rfl) fun w s' => ⟨(), rfl, s'.res (List.nil_sublist _) (by simp)⟩
theorem inner_s (n : Nat) (h : Zh) (l r : Tr) (p : Option Addr) [ht : TrZ n h (.node l r) p] : Spec Tryd.prog 92 [.pointer p].toArray [.zone false h] [] (fun _ : Unit => .agg (NInner.cells ⟨subP h false p, subP h true p, dgT n l, dgT n r, ((l.cnt + r.cnt : Nat) : Int)⟩).toArray) (fun _ => []) := by
  obtain ⟨g, pl, pr, rfl, hr, hl, hr2⟩ := ht.ok
  rw [subP_node hr, subP_node hr]
  refine spec_of Tryd.func92 rfl (n := 12) rfl rfl ?_
  intro W
  refine h_seq ?_
  refine h_reg ?_
  refine h_opX (x_alloc) fun g2 => ?_
  refine h_nil ?_
  refine q_then ?_
  refine h_seq ?_
  refine h_seq ?_
  refine h_reg ?_
  refine h_op (r_move rfl) ?_
  refine h_call ((Kind_s n h (.node l r) (some ⟨g, 0, none⟩)).comes) rfl rfl rfl fun _ => ?_
  refine h_op (r_bool (r_neq rfl rfl) (show _ = false by simp [Tr.kind])) ?_
  refine h_nil ?_
  refine q_then ?_
  refine h_condF rfl ?_
  refine h_skip ?_
  refine q_then ?_
  refine h_seq ?_
  refine h_reg ?_
  refine h_op (r_move rfl) ?_
  refine h_op (r_nilc rfl) ?_
  refine h_op (r_field rfl) ?_
  refine h_op (r_loadc rfl) ?_
  refine h_op (r_as1 rfl) ?_
  refine h_opS (s_storer rfl rfl) ?_
  refine h_nil ?_
  refine q_then ?_
  refine h_ret ?_
  exact h_ret1 rfl (rv_row rfl) fun w s' => ⟨(), rfl, s'.res (List.nil_sublist _) (by simp)⟩
theorem inner_no (n : Nat) (h : Zh) (t : Tr) (p : Option Addr) [ht : TrZ n h t p] (hk : t.kind ≠ 2) : Spec Tryd.prog 92 [.pointer p].toArray [.zone false h] [] (fun _ : Unit => .agg zNInner.cells.toArray) (fun _ => []) := by
  refine spec_of Tryd.func92 rfl (n := 12) rfl rfl ?_
  intro W
  refine h_seq ?_
  refine h_reg ?_
  refine h_opX (x_alloc) fun g2 => ?_
  refine h_nil ?_
  refine q_then ?_
  refine h_seq ?_
  refine h_seq ?_
  refine h_reg ?_
  refine h_op (r_move rfl) ?_
  refine h_call ((Kind_s n h t p).comes) rfl rfl rfl fun _ => ?_
  refine h_op (r_bool (r_neq rfl rfl) (show _ = true by simp; omega)) ?_
  refine h_nil ?_
  refine q_then ?_
  refine h_condT rfl ?_
  refine h_seq ?_
  refine h_reg ?_
  refine h_op (r_build rfl) ?_
  refine h_opS (s_storer rfl rfl) ?_
  refine h_nil ?_
  refine q_then ?_
  refine h_ret ?_
  refine q_thenR ?_
  exact h_ret1 rfl (rv_row rfl) fun w s' => ⟨(), rfl, s'.res (List.nil_sublist _) (by simp)⟩
theorem Left_s (n : Nat) (h : Zh) (t : Tr) (p : Option Addr) [ht : TrZ n h t p] : Spec Tryd.prog 82 [.pointer p].toArray [.zone false h] [] (fun _ : Unit => .pointer (subP h false p)) (fun _ => []) := by
  refine spec_of Tryd.func82 rfl (n := 7) rfl rfl ?_
  intro W
  by_cases hk : t.kind = 2
  · rcases t with _ | ⟨kk, b⟩ | ⟨l, r⟩
    · cases hk
    · cases hk
    refine h_seq ?_
    refine h_reg ?_
    refine h_op (r_assign rfl) ?_
    refine h_nil ?_
    refine q_then ?_
    refine h_seq ?_
    refine h_reg ?_
    refine h_op (r_move rfl) ?_
    refine h_call ((inner_s n h l r p).comes) rfl rfl rfl fun _ => ?_
    refine h_op (r_fldr rfl) ?_
    refine h_op (r_ixc rfl rfl (v := .pointer (subP h false p)) rfl) ?_
    refine h_op (r_assign rfl) ?_
    refine h_nil ?_
    refine q_then ?_
    refine h_ret ?_
    exact h_ret1 rfl rfl fun w s' => ⟨(), rfl, s'.res (List.nil_sublist _) (by simp)⟩
  · have e : subP h false p = none := by
      have := ht.ok.sub false
      rcases t with _ | ⟨kk, b⟩ | ⟨l, r⟩
      · exact this
      · exact this
      · exact (hk rfl).elim
    rw [e]
    refine h_seq ?_
    refine h_reg ?_
    refine h_op (r_assign rfl) ?_
    refine h_nil ?_
    refine q_then ?_
    refine h_seq ?_
    refine h_reg ?_
    refine h_op (r_move rfl) ?_
    refine h_call ((inner_no n h t p hk).comes) rfl rfl rfl fun _ => ?_
    refine h_op (r_fldr rfl) ?_
    refine h_op (r_ixc rfl rfl (v := .pointer none) rfl) ?_
    refine h_op (r_assign rfl) ?_
    refine h_nil ?_
    refine q_then ?_
    refine h_ret ?_
    exact h_ret1 rfl rfl fun w s' => ⟨(), rfl, s'.res (List.nil_sublist _) (by simp)⟩
theorem Right_s (n : Nat) (h : Zh) (t : Tr) (p : Option Addr) [ht : TrZ n h t p] : Spec Tryd.prog 83 [.pointer p].toArray [.zone false h] [] (fun _ : Unit => .pointer (subP h true p)) (fun _ => []) := by
  refine spec_of Tryd.func83 rfl (n := 7) rfl rfl ?_
  intro W
  by_cases hk : t.kind = 2
  · rcases t with _ | ⟨kk, b⟩ | ⟨l, r⟩
    · cases hk
    · cases hk
    refine h_seq ?_
    refine h_reg ?_
    refine h_op (r_assign rfl) ?_
    refine h_nil ?_
    refine q_then ?_
    refine h_seq ?_
    refine h_reg ?_
    refine h_op (r_move rfl) ?_
    refine h_call ((inner_s n h l r p).comes) rfl rfl rfl fun _ => ?_
    refine h_op (r_fldr rfl) ?_
    refine h_op (r_ixc rfl rfl (v := .pointer (subP h true p)) rfl) ?_
    refine h_op (r_assign rfl) ?_
    refine h_nil ?_
    refine q_then ?_
    refine h_ret ?_
    exact h_ret1 rfl rfl fun w s' => ⟨(), rfl, s'.res (List.nil_sublist _) (by simp)⟩
  · have e : subP h true p = none := by
      have := ht.ok.sub true
      rcases t with _ | ⟨kk, b⟩ | ⟨l, r⟩
      · exact this
      · exact this
      · exact (hk rfl).elim
    rw [e]
    refine h_seq ?_
    refine h_reg ?_
    refine h_op (r_assign rfl) ?_
    refine h_nil ?_
    refine q_then ?_
    refine h_seq ?_
    refine h_reg ?_
    refine h_op (r_move rfl) ?_
    refine h_call ((inner_no n h t p hk).comes) rfl rfl rfl fun _ => ?_
    refine h_op (r_fldr rfl) ?_
    refine h_op (r_ixc rfl rfl (v := .pointer none) rfl) ?_
    refine h_op (r_assign rfl) ?_
    refine h_nil ?_
    refine q_then ?_
    refine h_ret ?_
    exact h_ret1 rfl rfl fun w s' => ⟨(), rfl, s'.res (List.nil_sublist _) (by simp)⟩
theorem NLen_s (n : Nat) (h : Zh) (t : Tr) (p : Option Addr) [ht : TrZ n h t p] : Spec Tryd.prog 74 [.pointer p].toArray [.zone false h] [] (fun _ : Unit => .int .i64 ((t.cnt : Nat) : Int)) (fun _ => []) := by
  refine spec_of Tryd.func74 rfl (n := 9) rfl rfl ?_
  intro W
  rcases t with _ | ⟨kk, b⟩ | ⟨l, r⟩
  · refine h_seq ?_
    refine h_reg ?_
    refine h_op (r_assign rfl) ?_
    refine h_nil ?_
    refine q_then ?_
    refine h_seq ?_
    refine h_seq ?_
    refine h_reg ?_
    refine h_op (r_move rfl) ?_
    refine h_call ((Kind_s n h .nil p).comes) rfl rfl rfl fun _ => ?_
    refine h_op (r_bool (r_eql rfl rfl) (show _ = false by simp [Tr.kind])) ?_
    refine h_nil ?_
    refine q_then ?_
    refine h_condF rfl ?_
    refine h_skip ?_
    refine q_then ?_
    refine h_seq ?_
    refine h_reg ?_
    refine h_op (r_move rfl) ?_
    refine h_call ((inner_no n h .nil p (by simp [Tr.kind])).comes) rfl rfl rfl fun _ => ?_
    refine h_op (r_fldc rfl) ?_
    refine h_op (r_assign rfl) ?_
    refine h_nil ?_
    refine q_then ?_
    refine h_ret ?_
    exact h_ret1 rfl rfl fun w s' => ⟨(), rfl, s'.res (List.nil_sublist _) (by simp)⟩
  · refine h_seq ?_
    refine h_reg ?_
    refine h_op (r_assign rfl) ?_
    refine h_nil ?_
    refine q_then ?_
    refine h_seq ?_
    refine h_seq ?_
    refine h_reg ?_
    refine h_op (r_move rfl) ?_
    refine h_call ((Kind_s n h (.leaf kk b) p).comes) rfl rfl rfl fun _ => ?_
    refine h_op (r_bool (r_eql rfl rfl) (show _ = true by simp [Tr.kind])) ?_
    refine h_nil ?_
    refine q_then ?_
    refine h_condT rfl ?_
    refine h_seq ?_
    refine h_reg ?_
    refine h_op (r_assign rfl) ?_
    refine h_nil ?_
    refine q_then ?_
    refine h_ret ?_
    refine q_thenR ?_
    exact h_ret1 rfl rfl fun w s' => ⟨(), rfl, s'.res (List.nil_sublist _) (by simp)⟩
  · refine h_seq ?_
    refine h_reg ?_
    refine h_op (r_assign rfl) ?_
    refine h_nil ?_
    refine q_then ?_
    refine h_seq ?_
    refine h_seq ?_
    refine h_reg ?_
    refine h_op (r_move rfl) ?_
    refine h_call ((Kind_s n h (.node l r) p).comes) rfl rfl rfl fun _ => ?_
    refine h_op (r_bool (r_eql rfl rfl) (show _ = false by simp [Tr.kind])) ?_
    refine h_nil ?_
    refine q_then ?_
    refine h_condF rfl ?_
    refine h_skip ?_
    refine q_then ?_
    refine h_seq ?_
    refine h_reg ?_
    refine h_op (r_move rfl) ?_
    refine h_call ((inner_s n h l r p).comes) rfl rfl rfl fun _ => ?_
    refine h_op (r_fldc rfl) ?_
    refine h_op (r_assign rfl) ?_
    refine h_nil ?_
    refine q_then ?_
    refine h_ret ?_
    exact h_ret1 rfl rfl fun w s' => ⟨(), rfl, s'.res (List.nil_sublist _) (by simp)⟩
theorem Digest_s (n : Nat) (hn : n ≤ 256) (gh gc k : Nat) (hk : k ≤ 1000000000000) (h : Zh) (t : Tr) (p : Option Addr) [ht : TrZ n h t p] : Spec Tryd.prog 56 [.pointer (some ⟨gh, 0, none⟩), .pointer p].toArray [HR gh gc n, .zone false h, TBL] [CN gc k] (fun _ : Unit => .agg (dgT n t).cells.toArray) (fun _ => [CN gc (k + if t.kind = 0 then 1 else 0)]) := by
  have ho := ht.ok
  rcases t with _ | ⟨kk, b⟩ | ⟨l, r⟩
  · obtain rfl : p = none := ho
    refine spec_of Tryd.func56 rfl (n := 14) rfl rfl ?_
    intro W
    refine h_seq ?_
    refine h_reg ?_
    refine h_opX (x_alloc) fun g4 => ?_
    refine h_nil ?_
    refine q_then ?_
    refine h_seq ?_
    refine h_seq ?_
    refine h_reg ?_
    refine h_op (r_move rfl) ?_
    refine h_op (r_nilR rfl rfl) ?_
    refine h_nil ?_
    refine q_then ?_
    refine h_condT rfl ?_
    refine h_seq ?_
    refine h_reg ?_
    refine h_op (r_move rfl) ?_
    refine h_call (pEmpty_s.comes) rfl rfl rfl fun ⟨g8, c8⟩ => ?_
    dsimp only
    refine h_call ((HSum_s n hn gh gc k hk preE (some ⟨g8, 0, none⟩) c8 (fun h => by cases h) (by decide)).comes) rfl rfl rfl fun _ => ?_
    refine h_opS (s_storer rfl rfl) ?_
    refine h_nil ?_
    refine q_then ?_
    refine h_ret ?_
    refine q_thenR ?_
    exact h_ret1 rfl (rv_row rfl) fun w s => ⟨(), rfl, (same (L' := [CN gc (k + 1)]) w s).res (List.Sublist.refl _) (by simp [Fa.wr])⟩
  · obtain ⟨g, s, rfl, hr, hs⟩ := ho
    refine spec_of Tryd.func56 rfl (n := 14) rfl rfl ?_
    intro W
    refine h_seq ?_
    refine h_reg ?_
    refine h_opX (x_alloc) fun g4 => ?_
    refine h_nil ?_
    refine q_then ?_
    refine h_seq ?_
    refine h_seq ?_
    refine h_reg ?_
    refine h_op (r_move rfl) ?_
    refine h_op (r_nilR rfl rfl) ?_
    refine h_nil ?_
    refine q_then ?_
    refine h_condF rfl ?_
    refine h_skip ?_
    refine q_then ?_
    refine h_seq ?_
    refine h_reg ?_
    refine h_op (r_move rfl) ?_
    refine h_op (r_nilc rfl) ?_
    refine h_op (r_field rfl) ?_
    refine h_op (r_loadr rfl) ?_
    refine h_opS (s_storer rfl rfl) ?_
    refine h_nil ?_
    refine q_then ?_
    refine h_ret ?_
    exact h_ret1 rfl (rv_row rfl) fun w s => ⟨(), rfl, (same (L' := [CN gc k]) w s).res (List.Sublist.refl _) (by simp [Fa.wr])⟩
  · obtain ⟨g, pl, pr, rfl, hr, hl, hr2⟩ := ho
    refine spec_of Tryd.func56 rfl (n := 14) rfl rfl ?_
    intro W
    refine h_seq ?_
    refine h_reg ?_
    refine h_opX (x_alloc) fun g4 => ?_
    refine h_nil ?_
    refine q_then ?_
    refine h_seq ?_
    refine h_seq ?_
    refine h_reg ?_
    refine h_op (r_move rfl) ?_
    refine h_op (r_nilR rfl rfl) ?_
    refine h_nil ?_
    refine q_then ?_
    refine h_condF rfl ?_
    refine h_skip ?_
    refine q_then ?_
    refine h_seq ?_
    refine h_reg ?_
    refine h_op (r_move rfl) ?_
    refine h_op (r_nilc rfl) ?_
    refine h_op (r_field rfl) ?_
    refine h_op (r_loadr rfl) ?_
    refine h_opS (s_storer rfl rfl) ?_
    refine h_nil ?_
    refine q_then ?_
    refine h_ret ?_
    exact h_ret1 rfl (rv_row rfl) fun w s => ⟨(), rfl, (same (L' := [CN gc k]) w s).res (List.Sublist.refl _) (by simp [Fa.wr])⟩
end Go.Proofs.YtgfkbeipckbkiaaDoor
/- U34 -/
namespace Go.Proofs.YtgfkbeipckbkiaaDoor
set_option linter.unusedSimpArgs false
set_option linter.unusedVariables false
open Go.RowKit
theorem Clone_s (l : List UInt8) (B : Option Addr) (c : Nat) (hB : B = none → l.length = 0 ∧ c = 0) (hl : l.length ≤ 1000000000) : Spec Tryd.prog 73 [.slice B l.length c].toArray [.rd B (bc l)] [] (fun u : Option Addr × Nat => .slice u.1 l.length u.2) (fun u => [.own (.slice u.1 l.length u.2) l.length 5 1 (bc l)]) := by
  refine spec_of Tryd.func73 rfl (n := 8) rfl rfl ?_
  intro W
  rcases B with _ | B
  · obtain ⟨h1, h2⟩ := hB rfl
    obtain rfl : l = [] := List.eq_nil_of_length_eq_zero h1
    refine h_seq ?_
    refine h_reg ?_
    refine h_op (r_assign rfl) ?_
    refine h_nil ?_
    refine q_then ?_
    refine h_seq ?_
    refine h_seq ?_
    refine h_reg ?_
    refine h_op (r_move rfl) ?_
    refine h_op (r_slnil rfl rfl) ?_
    refine h_nil ?_
    refine q_then ?_
    refine h_condT rfl ?_
    refine h_seq ?_
    refine h_reg ?_
    refine h_op (r_assign rfl) ?_
    refine h_nil ?_
    refine q_then ?_
    refine h_ret ?_
    refine q_thenR ?_
    refine h_nil_own 5 1 (xs := bc []) rfl ?_
    exact h_ret1 rfl rfl fun w s => ⟨(none, 0), rfl, (same w s).res (List.Sublist.refl _) (by simp [Fa.wr])⟩
  · refine h_seq ?_
    refine h_reg ?_
    refine h_op (r_assign rfl) ?_
    refine h_nil ?_
    refine q_then ?_
    refine h_seq ?_
    refine h_seq ?_
    refine h_reg ?_
    refine h_op (r_move rfl) ?_
    refine h_op (r_slnil rfl rfl) ?_
    refine h_nil ?_
    refine q_then ?_
    refine h_condF rfl ?_
    refine h_skip ?_
    refine q_then ?_
    refine h_seq ?_
    refine h_reg ?_
    refine h_opX (x_bsl0 (xs := bc [])) fun g5 => ?_
    refine h_op (r_move rfl) ?_
    refine h_opX (x_appAB rfl rfl hB rfl (hN := Nat.zero_add _)) fun ⟨A7, c7⟩ => ?_
    refine h_op (r_assign rfl) ?_
    refine h_nil ?_
    refine q_then ?_
    refine h_ret ?_
    rw [List.nil_append]
    exact h_ret1 rfl rfl fun w s => ⟨(A7, c7), rfl, (same w s).res (List.Sublist.refl _) (by simp [Fa.wr])⟩
theorem pValue_s (l : List UInt8) (B : Option Addr) (c : Nat) (hB : B = none → l.length = 0 ∧ c = 0) (hl : l.length ≤ 100000000) : Spec Tryd.prog 91 [.slice B l.length c].toArray [.rd B (bc l)] [] (fun u : Nat × Nat => .slice (some ⟨u.1, 0, none⟩) (preV l).length u.2) (fun u => [.own (.slice (some ⟨u.1, 0, none⟩) (preV l).length u.2) (preV l).length 5 1 (bc (preV l))]) := by
  have hseg : (2 : UInt8) :: segB [(B, c, l)] = preV l := by simp [segB, preV]
  refine spec_of Tryd.func91 rfl (n := 6) rfl rfl ?_
  intro W
  refine h_seq ?_
  refine h_reg ?_
  refine h_op (r_assign rfl) ?_
  refine h_nil ?_
  refine q_then ?_
  refine h_seq ?_
  refine h_reg ?_
  refine h_op (r_move rfl) ?_
  refine h_opX (x_bslV (ys := [.slice B l.length c]) (svs [(B, c, l)]) rfl rfl (svs_one _)) fun g4 => ?_
  refine h_call ((build_s 2 [(B, c, l)] (some ⟨g4, 0, none⟩) 1 (by simpa using hB) (by simp [segN]; omega)).comes) rfl rfl rfl fun ⟨g8, c8⟩ => ?_
  dsimp only
  rw [hseg]
  refine h_op (r_assign rfl) ?_
  refine h_nil ?_
  refine q_then ?_
  refine h_ret ?_
  exact h_ret1 rfl rfl fun w s => ⟨(g8, c8), rfl, (same w s).res (List.Sublist.refl _) (by simp [Fa.wr])⟩
theorem LeafOf_s (n : Nat) (hn : n ≤ 256) (gh gc k : Nat) (hk : k ≤ 1000000000000) (key : B32) (l : List UInt8) (B : Option Addr) (c : Nat) (hB : B = none → l.length = 0 ∧ c = 0) (hl : l.length ≤ 100000000) : Spec Tryd.prog 72 [.pointer (some ⟨gh, 0, none⟩), .agg key.cells.toArray, .slice B l.length c].toArray [HR gh gc n, .rd B (bc l), TBL] [CN gc k] (fun _ : Unit => .agg (leafOf n key l).cells.toArray) (fun _ => [CN gc (k + 1)]) := by
  have hpl : (preV l).length = l.length + 1 := rfl
  refine spec_of Tryd.func72 rfl (n := 13) rfl rfl ?_
  intro W
  refine h_seq ?_
  refine h_reg ?_
  refine h_opX (x_box rfl) fun g4 => ?_
  refine h_opX (x_alloc) fun g6 => ?_
  refine h_nil ?_
  refine q_then ?_
  refine h_seq ?_
  refine ha_start [.blk g4 key.cells 40] [] mixed (same) ?_
  refine ha_take 0 rfl (r_loadr rfl) ?_
  refine ha_takeP 1 rfl (r_move rfl) ?_
  refine ha_takeP 2 rfl (r_move rfl) ?_
  refine ha_one 3 ?_
  refine ho_C 3 rfl ((pValue_s l B c hB hl).comes) rfl rfl rfl (fun xx => same) fun ⟨g10, c10⟩ => ?_
  refine ha_one 4 ?_
  refine ho_C 4 rfl ((HSum_s n hn gh gc k hk (preV l) (some ⟨g10, 0, none⟩) c10 (fun h => by cases h) (by omega)).comes) rfl rfl rfl (fun xx => same) fun _ => ?_
  refine ha_takeP 5 rfl (r_build rfl) ?_
  refine ha_one 6 ?_
  refine ho_SL 6 rfl (s_storer rfl rfl) ?_
  refine q_then ?_
  refine h_ret ?_
  exact h_ret1 rfl (rv_row rfl) fun w s => ⟨(), rfl, (same w s).res (List.Sublist.refl _) (by simp [Fa.wr])⟩
theorem lpre_s (x : NLeaf) : Spec Tryd.prog 140 [.agg x.cells.toArray].toArray [] [] (fun u : Nat × Nat => .slice (some ⟨u.1, 0, none⟩) (preL x.leaf).length u.2) (fun u => [.own (.slice (some ⟨u.1, 0, none⟩) (preL x.leaf).length u.2) (preL x.leaf).length 5 1 (bc (preL x.leaf))]) := by
  refine spec_of Tryd.func140 rfl (n := 6) rfl rfl ?_
  intro W
  refine h_seq ?_
  refine h_reg ?_
  refine h_opX (x_box rfl) fun g1 => ?_
  refine h_op (r_assign rfl) ?_
  refine h_nil ?_
  refine q_then ?_
  refine h_seq ?_
  refine h_reg ?_
  refine h_op (r_field rfl) ?_
  refine h_op (r_loadr rfl) ?_
  refine h_call ((pLeaf_s x.leaf).comes) rfl rfl rfl fun ⟨g5, c5⟩ => ?_
  refine h_op (r_assign rfl) ?_
  refine h_nil ?_
  refine q_then ?_
  refine h_ret ?_
  exact h_ret1 rfl rfl fun w s => ⟨(g5, c5), rfl, (same w s).res (List.Sublist.refl _) (by simp [Fa.wr])⟩
theorem ipre_s (x : NInner) : Spec Tryd.prog 141 [.agg x.cells.toArray].toArray [] [] (fun u : Nat × Nat => .slice (some ⟨u.1, 0, none⟩) (preN x.dl x.dr).length u.2) (fun u => [.own (.slice (some ⟨u.1, 0, none⟩) (preN x.dl x.dr).length u.2) (preN x.dl x.dr).length 5 1 (bc (preN x.dl x.dr))]) := by
  refine spec_of Tryd.func141 rfl (n := 10) rfl rfl ?_
  intro W
  refine h_seq ?_
  refine h_reg ?_
  refine h_opX (x_box rfl) fun g1 => ?_
  refine h_op (r_assign rfl) ?_
  refine h_nil ?_
  refine q_then ?_
  refine h_seq ?_
  refine h_reg ?_
  refine h_op (r_field rfl) ?_
  refine h_op (r_idxA rfl rfl) ?_
  refine h_op (r_loadr rfl) ?_
  refine h_op (r_field rfl) ?_
  refine h_op (r_idxA rfl rfl) ?_
  refine h_op (r_loadr rfl) ?_
  refine h_call ((pNode_s x.dl x.dr).comes) rfl rfl rfl fun ⟨g9, c9⟩ => ?_
  refine h_op (r_assign rfl) ?_
  refine h_nil ?_
  refine q_then ?_
  refine h_ret ?_
  exact h_ret1 rfl rfl fun w s => ⟨(g9, c9), rfl, (same w s).res (List.Sublist.refl _) (by simp [Fa.wr])⟩
theorem with_s (n : Nat) (hn : n ≤ 256) (gh gc k : Nat) (hk : k ≤ 1000000000000) (T f : Nat) (u : Value) (pre : List UInt8) [MethT Tryd.prog T "sparsetree/node.preimage" f] [Ent Tryd.prog f] (hp : pre.length ≤ 1000000000)
    (hm : Spec Tryd.prog f [u].toArray [] [] (fun u : Nat × Nat => .slice (some ⟨u.1, 0, none⟩) pre.length u.2) (fun u => [.own (.slice (some ⟨u.1, 0, none⟩) pre.length u.2) pre.length 5 1 (bc pre)])) :
    Spec Tryd.prog 71 [.pointer (some ⟨gh, 0, none⟩), .iface T u].toArray [HR gh gc n, TBL] [CN gc k] (fun g : Nat => .pointer (some ⟨g, 0, none⟩)) (fun g => [.blk g (Nd.cells ⟨.iface T u, sumB n pre⟩) 135, CN gc (k + 1)]) := by
  refine spec_of Tryd.func71 rfl (n := 12) rfl rfl ?_
  intro W
  refine h_seq ?_
  refine h_reg ?_
  refine h_op (r_assign rfl) ?_
  refine h_nil ?_
  refine q_then ?_
  refine h_seq ?_
  refine h_reg ?_
  refine h_op (r_move rfl) ?_
  refine h_op (r_move rfl) ?_
  refine h_op (r_move rfl) ?_
  refine h_callM (hm.comes) rfl rfl rfl fun ⟨g8, c8⟩ => ?_
  refine h_call ((HSum_s n hn gh gc k hk pre (some ⟨g8, 0, none⟩) c8 (fun h => by cases h) (by omega)).comes) rfl rfl rfl fun _ => ?_
  refine h_op (r_build rfl) ?_
  refine h_opX (x_box rfl) fun g11 => ?_
  refine h_op (r_assign rfl) ?_
  refine h_nil ?_
  refine q_then ?_
  refine h_ret ?_
  exact h_ret1 rfl rfl fun w s => ⟨g11, rfl, (same w s).res (List.Sublist.refl _) (by simp [Fa.wr])⟩
theorem NewLeaf_s (n : Nat) (hn : n ≤ 256) (gh gc k : Nat) (hk : k ≤ 100000000000) (h : Zh) [ht : RdZ h (some ⟨1, 0, none⟩) hashT] (key : B32) (s : Sl) (b : List UInt8) [hs : SlZ h s b] (hb : b.length ≤ 100000000) :
    Spec Tryd.prog 49 [.pointer (some ⟨gh, 0, none⟩), .agg (Entry.cells ⟨key, s⟩).toArray].toArray [HR gh gc n] [.zone true h, CN gc k] (fun x : {x : Zh × Option Addr // LeZ h x.1 ∧ TrZ n x.1 (.leaf key b) x.2} => .pointer x.1.2) (fun x => [.zone true x.1.1, CN gc (k + 2)]) := by
  obtain ⟨B, N, c⟩ := s
  obtain rfl : N = b.length := hs.len
  have hB : B = none → b.length = 0 ∧ c = 0 := hs.nil
  have hrd : RdZ h B (bc b) := hs.rd
  refine spec_of Tryd.func49 rfl (n := 18) rfl rfl ?_
  intro W
  refine h_seq ?_
  refine h_reg ?_
  refine h_opX (x_box rfl) fun g3 => ?_
  refine h_op (r_assign rfl) ?_
  refine h_nil ?_
  refine q_then ?_
  refine h_seq ?_
  refine ha_start [.blk g3 (Entry.cells ⟨key, ⟨B, b.length, c⟩⟩) 77] [] mixed (same) ?_
  refine ha_takeP 0 rfl (r_move rfl) ?_
  refine ha_takeP 1 rfl (r_move rfl) ?_
  refine ha_takeP 2 rfl (r_field rfl) ?_
  refine ha_take 3 rfl (r_loadr rfl) ?_
  refine ha_takeP 4 rfl (r_field rfl) ?_
  refine ha_take 5 rfl (r_loadc rfl) ?_
  refine ha_takeP 7 rfl (r_field rfl) ?_
  refine ha_take 8 rfl (r_loadc rfl) ?_
  refine ha_one 6 ?_
  refine ho_C 6 rfl ((LeafOf_s n hn gh gc k (by omega) key b B c hB hb).comes) rfl rfl rfl (fun xx => same) fun _ => ?_
  refine ha_one 9 ?_
  refine ho_C 9 rfl ((Clone_s b B c hB (by omega)).comes) rfl rfl rfl (fun xx => same) fun ⟨A14, c14⟩ => ?_
  refine ha_takeP 10 rfl (r_build rfl) ?_
  refine ha_takeP 11 rfl (r_mkI rfl) ?_
  refine ha_one 12 ?_
  refine ho_C 12 rfl ((with_s n hn gh gc (k + 1) (by omega) 127 140 (.agg (NLeaf.cells ⟨leafOf n key b, ⟨A14, b.length, c14⟩⟩).toArray) (preL (leafOf n key b)) (by rw [preL_len]; decide) (lpre_s ⟨leafOf n key b, ⟨A14, b.length, c14⟩⟩)).comes) rfl rfl rfl (fun xx => same) fun g17 => ?_
  refine ha_takeP 13 rfl (r_assign rfl) ?_
  refine ha_done (by kernel_rfl) ?_
  refine q_then ?_
  dsimp only
  refine h_freezeO (.slice A14 b.length c14) fun h1 B1 c1 e1 hle1 hlen1 hnil1 hz1 hr1 => ?_
  injection e1 with e1 _ e2
  subst e1 e2
  refine h_freeze g17 fun h2 hz2 hr2 => ?_
  refine h_ret ?_
  exact h_ret1 rfl rfl fun w s => ⟨⟨(h2, some ⟨g17, 0, none⟩), hz1.trans hz2, ⟨g17, ⟨A14, b.length, c14⟩, rfl, hr2, ⟨rfl, hle1, hnil1, hr1.mono hz2⟩⟩⟩, rfl, (same w s).res (List.Sublist.refl _) (by simp [Fa.wr])⟩
end Go.Proofs.YtgfkbeipckbkiaaDoor
