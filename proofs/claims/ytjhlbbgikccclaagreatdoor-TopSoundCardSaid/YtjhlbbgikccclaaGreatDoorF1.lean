/- joined texts -/
import Derived.WalkKit
import Derived.WalkSpells
import Derived.WalkLawsBesides
import Derived.Deep.MidRow
import Derived.Deep.DeepFit
import Derived.Deep.WholeRow
import Derived.Stop.BytesEq
import Derived.Lib.Hide
import Derived.Outline
import Derived.Carry
import Derived.Deep.Slices
import Derived.OpenShut
import Derived.ChangeSame
import Derived.ProofKit
import Derived.JoinedOf
import Derived.StillTailTactics
import Derived.BigQuiet
import Derived.Deep.QuietTactic
import Derived.Laws.CopyOwn
import Derived.Great.BuildSlice
import Derived.Laws.CopyRow
import Derived.Laws.MakeOwn
set_option linter.all false
namespace Go.Proofs.YtjhlbbgikccclaaGreatDoor
section
open Go.RowKit
def bc (l : List UInt8) : List Value := l.map fun b => .int .u8 b.toNat
abbrev B32 := {l : List UInt8 // l.length = 32}
def QN : B32 := ⟨List.replicate 32 0, by simp⟩
def B32.cells (x : B32) : List Value := bc x.1
theorem YZ (l : List UInt8) : ∀ v ∈ bc l, v.oneCell' = true := by
 intro v hv; simp [bc] at hv; obtain ⟨b, _, rfl⟩ := hv; rfl
theorem Jt (l : List UInt8) : (bc l).length = l.length := by simp [bc]
theorem Zu (l m : List UInt8) : bc (l ++ m) = bc l ++ bc m := by simp [bc]
theorem Qno (l : List UInt8) (n : Nat) : bc (l.take n) = (bc l).take n := by simp [bc]
theorem Qh2 (l : List UInt8) (n : Nat) : bc (l.drop n) = (bc l).drop n := by simp [bc]
theorem Qp8 (l : List UInt8) (i : Nat) (h : i < l.length) : (bc l)[i]? = some (.int .u8 (l.getD i 0).toNat) := by simp [bc, h]
theorem B32.cells_length (x : B32) : x.cells.length = 32 := by simp [B32.cells, bc, x.2]
theorem B32.cells_one (x : B32) : ∀ v ∈ x.cells, v.oneCell' = true := YZ _
structure Leaf where
 key : B32
 value : B32
 deriving DecidableEq
structure Item where
 kind : Int
 digest : B32
 leaf : Leaf
 deriving DecidableEq
def Yi : Leaf := ⟨QN, QN⟩
def Leaf.cells (x : Leaf) : List Value := x.key.cells ++ x.value.cells
def Item.cells (x : Item) : List Value := .int .i64 x.kind :: (x.digest.cells ++ x.leaf.cells)
theorem Leaf.cells_length (x : Leaf) : x.cells.length = 64 := by simp [Leaf.cells, B32.cells_length]
theorem Item.cells_length (x : Item) : x.cells.length = 97 := by simp [Item.cells, B32.cells_length, Leaf.cells_length]
theorem Leaf.cells_one (x : Leaf) : ∀ v ∈ x.cells, v.oneCell' = true := by
 intro v hv
 simp only [Leaf.cells, List.mem_append] at hv
 rcases hv with hv | hv <;> exact YZ _ v hv
@[go_sem] theorem Item.cells_at0 (x : Item) : x.cells.toArray[0]? = some (.int .i64 x.kind) := by simp [Item.cells]
@[go_sem] theorem Item.cells_at0' (x : Item) : x.cells[0]? = some (.int .i64 x.kind) := by simp [Item.cells]
def Rd (w : World) (A : Option Addr) (cs : List Value) : Prop := ∀ j v, cs[j]? = some v → ∃ b o, A = some ⟨b, o, none⟩ ∧ w.cell? ⟨b, o + j, none⟩ = some v
theorem Rd.nil (w : World) (A : Option Addr) : Rd w A [] := fun j v h => by simp at h
theorem Rd.mk {w : World} {b o : Nat} {cs : List Value} (h : w.rangeAt b o cs) : Rd w (some ⟨b, o, none⟩) cs := fun j v hv => ⟨b, o, rfl, h j v hv⟩
theorem Rd.range {w : World} {b o : Nat} {cs : List Value} (h : Rd w (some ⟨b, o, none⟩) cs) : w.rangeAt b o cs := fun j v hv => by
 obtain ⟨b', o', e, hc⟩ := h j v hv
 obtain ⟨rfl, rfl⟩ : b = b' ∧ o = o' := by simpa using e
 exact hc
theorem Rd.open_ {w : World} {A : Option Addr} {cs : List Value} (h : Rd w A cs) (hn : 0 < cs.length) : ∃ b o, A = some ⟨b, o, none⟩ ∧ b < w.heap.size ∧ w.rangeAt b o cs := by
 obtain ⟨b, o, e, hc⟩ := h 0 cs[0] (by simp [hn])
 subst e
 exact ⟨b, o, rfl, World.block_lt_of_cell? w _ hc, h.range⟩
theorem Rd.below {w w1 : World} {A : Option Addr} {cs : List Value} (h : Rd w A cs) (hb : Below w.heap.size w w1) : Rd w1 A cs := fun j v hv => by
 obtain ⟨b, o, e, hc⟩ := h j v hv
 exact ⟨b, o, e, (hb.cell (World.block_lt_of_cell? w _ hc)).trans hc⟩
theorem Qbv {α : Type} {n : Nat} {f : α → List Value} (hf : ∀ x, (f x).length = n) (m : List α) : (m.flatMap f).length = m.length * n := by
 induction m with
 | nil => simp
 | cons a m ih => simp [List.flatMap_cons, hf, ih, Nat.add_mul]; omega
theorem QpV {w : World} {base : Nat} {e : TypeId} {size n : Nat} {v : Value} {xs : List Value} (h : w.ownsRow base e size v n xs) : ∃ A c, v = .slice A n c ∧ n ≤ c ∧ Rd w A xs := by
 rcases h.2 with ⟨rfl, rfl⟩ | ⟨g, cap, cur, rfl, hg, hh, hn, hm, hs, ht⟩
 ·have : xs = [] := List.eq_nil_of_length_eq_zero (by simpa using h.1)
  subst this
  exact ⟨none, 0, rfl, Nat.le_refl _, Rd.nil _ _⟩
 refine ⟨some ⟨g, 0, none⟩, cap, rfl, hn, Rd.mk fun j v hv => ?_⟩
 have := h.cells (g := g) rfl j v hv
 rwa [Addr.add_mid] at this
theorem QaR {w : World} {g : Nat} {C : Array Value} {T : TypeId} (h : w.heap[g]? = some (.cells C T (0, 0))) : (∀ i, w.cell? ⟨g, i, none⟩ = C[i]?) ∧ (∀ i, w.frozen? ⟨g, i, none⟩ = false) :=
 ⟨fun i => by simp [World.cell?, h], fun i => by simp [World.frozen?, h]⟩
end
section
open Go.RowKit Go.ChangeShapes Go.WideShapes
section
variable {H : Type} {enc : TypeId × Value → H} {P : Program} {w : World} {base : Nat} {spare : Nat → Bool} {held : Bool} {fuel : Nat} {t : TypeId} {cs : List Value} {x : DataW H × List MemPlace}
def Qhk : Value → UInt8 | .int _ n => UInt8.ofNat n.toNat | _ => 0
theorem Qhl {n : Int} (h0 : 0 ≤ n) (h1 : n ≤ 255) : (Value.int .u8 (Qhk (.int .u8 n)).toNat) = .int .u8 n := by
 unfold Qhk
 have : (UInt8.ofNat n.toNat).toNat = n.toNat := by rw [UInt8.toNat_ofNat']; omega
 rw [this]
 congr 1
 omega
theorem Qe1 {α : Type} {f : α → List Value} {n : Nat} (hf : ∀ y, (f y).length = n) (hn : 0 < n) : ∀ (l : List α) (j : Nat) (y : α), l[j / n]? = some y → (l.flatMap f)[j]? = (f y)[j % n]?
 | [], j, y, h => by simp at h
 | z :: l, j, y, h => by
  rw [List.flatMap_cons]
  by_cases hj : j < n
  ·rw [Nat.div_eq_of_lt hj] at h
   obtain rfl : z = y := by simpa using h
   rw [Nat.mod_eq_of_lt hj, List.getElem?_append_left (by rw [hf]; exact hj)]
  obtain ⟨k, rfl⟩ : ∃ k, j = k + n := ⟨j - n, by omega⟩
  rw [Nat.add_div_right _ hn, List.getElem?_cons_succ] at h
  rw [List.getElem?_append_right (by rw [hf]; omega), hf, Nat.add_sub_cancel, Nat.add_mod_right]
  exact Qe1 hf hn l k y h
theorem QdK {a : Addr} {v : Value} (h : w.cell? a = some v) : a = ⟨a.block, a.off, none⟩ := by
 obtain ⟨b, o, s⟩ := a
 cases s with
 | none => rfl
 | some s =>
  unfold World.cell? at h
  simp only [Option.isSome_some, if_true] at h
  split at h <;> cases h
theorem Qjw {α : Type} [Inhabited α] {f : α → List Value} {n : Nat} (hf : ∀ y, (f y).length = n) (hn : 0 < n) {e : TypeId} (ht : P.underlying t = some (.slice e)) (hc : P.cellsOf e = n) (q : α → Prop) (dec : ∀ (fuel : Nat) (cs : List Value) (x : DataW H × List MemPlace), DataW.trod enc P w base spare held fuel e cs = some x → ∃ y, cs = f y ∧ q y)
  {v : Value} {d : DataW H} {ps : List MemPlace} {r : Reach} {b0 : Nat} (hval : Value.okWide P w r b0 t v) (hd : DataW.Trod enc P w base spare held t v d ps) :
  ∃ (l : List α) (A : Option Addr) (cap : Nat), v = .slice A l.length cap ∧ l.length ≤ cap ∧ cap ≤ maxLen ∧ (A = none → cap = 0) ∧ Rd w A (l.flatMap f) ∧ ∀ y ∈ l, q y := by
 obtain ⟨a, len, cap, rfl⟩ := okWide_slice ht hval
 obtain ⟨fuel, hfu⟩ := hd
 rcases Deep.open_slice ht hfu with ⟨h, _⟩ | ⟨a', len', cap', m, k, D, Pl, hcs, hba, hlc, hmax, hm, _, hel⟩
 ·simp [Value.cells] at h
  obtain ⟨rfl, rfl, rfl⟩ := h
  exact ⟨[], none, 0, rfl, Nat.le_refl _, Nat.zero_le _, fun _ => rfl, Rd.nil _ _, fun y hy => by cases hy⟩
 simp [Value.cells] at hcs
 obtain ⟨rfl, rfl, rfl⟩ := hcs
 have hlm : len ≤ m := by rw [hm]; split <;> omega
 have hch : ∀ i, i < len → ∃ y : α, (w.cells? base (a'.add (i * n)) n = some (f y)) ∧ q y := fun i hi => by
  obtain ⟨cs', h1, h2⟩ := hel i (by omega)
  rw [hc] at h1
  obtain ⟨y, rfl, hq⟩ := dec _ _ _ h2
  exact ⟨y, h1, hq⟩
 obtain ⟨g, hg⟩ := Deep.choose_lt hch
 have hcell : ∀ i, i < len → ∀ j u, (f (g i))[j]? = some u → w.cell? ((a'.add (i * n)).add j) = some u := fun i hi j u hu => by
  have h1 := (hg i hi).1
  unfold World.cells? at h1
  split at h1
  ·have hj : j < n := by rw [← hf (g i)]; exact (List.getElem?_eq_some_iff.1 hu).1
   have := mapM_some_get h1 j j (by simp [hj])
   rw [hu] at this
   exact this
  cases h1
 refine ⟨(List.range len).map g, some a', cap, by simp, by simpa using hlc, hmax, (fun h => by cases h), ?_, ?_⟩
 ·intro j u hu
  have hlen : ((List.range len).map g).length = len := by simp
  have hj : j < len * n := by
   have := (List.getElem?_eq_some_iff.1 hu).1
   rw [Qbv hf, hlen] at this
   exact this
  have hi : j / n < len := (Nat.div_lt_iff_lt_mul hn).2 hj
  have hu' : (f (g (j / n)))[j % n]? = some u := by
   rw [← hu]
   exact (Qe1 hf hn ((List.range len).map g) j (g (j / n)) (by simp [hi])).symm
  have h0 : 0 < len := Nat.lt_of_le_of_lt (Nat.zero_le _) hi
  have hz : ∃ u0, (f (g 0))[0]? = some u0 := ⟨(f (g 0))[0]'(by rw [hf]; exact hn), List.getElem?_eq_getElem _⟩
  obtain ⟨u0, hu0⟩ := hz
  have hs := hcell 0 h0 0 u0 hu0
  have hs' : w.cell? a' = some u0 := by simpa [Addr.add] using hs
  have ha := QdK hs'
  refine ⟨a'.block, a'.off, by rw [← ha], ?_⟩
  have h2 := hcell (j / n) hi (j % n) u hu'
  rw [ha, Addr.add_mid, Addr.add_mid, Nat.add_assoc, Nat.div_add_mod'] at h2
  exact h2
 intro y hy
 simp only [List.mem_map, List.mem_range] at hy
 obtain ⟨i, hi, rfl⟩ := hy
 exact (hg i hi).2
theorem Qi5 (l : List UInt8) : l.flatMap (fun b => [Value.int .u8 b.toNat]) = bc l := by
 induction l with
 | nil => rfl
 | cons x l ih => simp [bc] at ih ⊢; exact ih
end
end
section
open Go.RowKit Go.ChangeShapes Go.WideShapes
section
variable {H : Type} {enc : TypeId × Value → H} {P : Program}
theorem ZI (hl : laidOutB P = true) {W W' : World} (hb : Below W.heap.size W W') : ∀ (ts : List TypeId) (vs : List Value) (ds : List (DataW H)) (ps : List MemPlace), (∀ t ∈ ts, P.readableRec t = true ∧ t < P.types.size) →
  DataW.TrodAll enc P W 0 (fun _ => true) true ts vs ds ps → (∀ x ∈ ps, x.block < W.heap.size) → DataW.TrodAll enc P W' 0 (fun b => decide (b < W.heap.size)) true ts vs ds ps
 | [], vs, ds, ps, _, h, _ => by
  cases vs <;> cases ds <;> simp_all [DataW.TrodAll]
 | t :: ts, vs, ds, ps, hr, h, hlt => by
  cases vs with
  | nil => cases ds <;> simp [DataW.TrodAll] at h
  | cons v vs =>
   cases ds with
   | nil => simp [DataW.TrodAll] at h
   | cons d ds =>
    obtain ⟨p, p', h1, h2, rfl⟩ := h
    have hlt1 : ∀ x ∈ p, x.block < W.heap.size := fun x hx => hlt x (by simp [hx])
    have hlt2 : ∀ x ∈ p', x.block < W.heap.size := fun x hx => hlt x (by simp [hx])
    exact ⟨p, p', Below.trod hl (hr t (by simp)).1 (hr t (by simp)).2 h1 hb hlt1, ZI hl hb ts vs ds p' (fun t ht => hr t (by simp [ht])) h2 hlt2, rfl⟩
theorem QlG {f : Func} {s : ChangeSpec} {apart fresh handsOn : Bool} {W W' : World} {args : Array Value} {ds gs : List (DataW H)} {before : List MemPlace} (hl : laidOutB P = true) (hr : ∀ t ∈ f.params.toList, P.readableRec t = true ∧ t < P.types.size)
  (hW : DataW.Whole enc P f.params.toList s.vars apart W args.toList ds gs before) (hsv : s.vars = []) (hsf : s.fn H (ds ++ gs) = { results := [.lit (.bool true)], args := ds }) {tb : TypeId} (hrt : f.resultTypes = #[tb]) (htb : P.underlying tb = some .bool) (hb : Below W.heap.size W W') :
  s.post enc P f apart fresh handsOn false W args (.bool true) W' := by
 have hW' := hW
 obtain ⟨pa, pv, hA, hV, hps, hfz, hnd⟩ := hW
 rw [hsv] at hV
 obtain ⟨rfl, rfl⟩ := trodVars_none hV
 have hlt := hW'.lt
 simp only [List.append_nil] at hps
 subst hps
 refine ⟨ds, [], before, [], before, [], hW', ?_, ?_, ?_, ?_, fun h => by cases h⟩
 ·rw [hsf, hrt]
  exact trodAll_cons_mk (shut_bool htb _) trodAll_mk0
 ·rw [hsf]
  exact ZI hl hb _ _ _ _ hr hA hlt
 ·rw [hsf, hsv]
  exact hV
 exact hb.frame _
end
end
section
open Go.RowKit Go.ChangeShapes Go.WideShapes
section
variable {H : Type} {enc : TypeId × Value → H} {P : Program} {w : World} {base : Nat} {spare : Nat → Bool} {held : Bool} {t : TypeId}
theorem Qbz {α : Type} [Inhabited α] {f : α → List Value} {n : Nat} (hf : ∀ y, (f y).length = n) (hn : 0 < n) {e : TypeId} (ht : P.underlying t = some (.slice e)) (hc : P.cellsOf e = n) (q : α → Prop) (dec : ∀ (fuel : Nat) (cs : List Value) (x : DataW H × List MemPlace), DataW.trod enc P w base spare held fuel e cs = some x → ∃ y, cs = f y ∧ q y)
  {fuel : Nat} {cs : List Value} {x : DataW H × List MemPlace} (hfu : DataW.trod enc P w base spare held fuel t cs = some x) :
  ∃ (l : List α) (A : Option Addr) (cap : Nat), cs = [.slice A l.length cap] ∧ l.length ≤ cap ∧ cap ≤ maxLen ∧ (A = none → cap = 0) ∧ Rd w A (l.flatMap f) ∧ ∀ y ∈ l, q y := by
 rcases Deep.open_slice ht hfu with ⟨rfl, _⟩ | ⟨a', len, cap, m, k, D, Pl, rfl, hba, hlc, hmax, hm, _, hel⟩
 ·exact ⟨[], none, 0, rfl, Nat.le_refl _, Nat.zero_le _, fun _ => rfl, Rd.nil _ _, fun y hy => by cases hy⟩
 have hlm : len ≤ m := by rw [hm]; split <;> omega
 have hch : ∀ i, i < len → ∃ y : α, (w.cells? base (a'.add (i * n)) n = some (f y)) ∧ q y := fun i hi => by
  obtain ⟨cs', h1, h2⟩ := hel i (by omega)
  rw [hc] at h1
  obtain ⟨y, rfl, hq⟩ := dec _ _ _ h2
  exact ⟨y, h1, hq⟩
 obtain ⟨g, hg⟩ := Deep.choose_lt hch
 have hcell : ∀ i, i < len → ∀ j u, (f (g i))[j]? = some u → w.cell? ((a'.add (i * n)).add j) = some u := fun i hi j u hu => by
  have h1 := (hg i hi).1
  unfold World.cells? at h1
  split at h1
  ·have hj : j < n := by rw [← hf (g i)]; exact (List.getElem?_eq_some_iff.1 hu).1
   have := mapM_some_get h1 j j (by simp [hj])
   rw [hu] at this
   exact this
  cases h1
 refine ⟨(List.range len).map g, some a', cap, by simp, by simpa using hlc, hmax, (fun h => by cases h), ?_, ?_⟩
 ·intro j u hu
  have hlen : ((List.range len).map g).length = len := by simp
  have hj : j < len * n := by
   have := (List.getElem?_eq_some_iff.1 hu).1
   rw [Qbv hf, hlen] at this
   exact this
  have hi : j / n < len := (Nat.div_lt_iff_lt_mul hn).2 hj
  have hu' : (f (g (j / n)))[j % n]? = some u := by
   rw [← hu]
   exact (Qe1 hf hn ((List.range len).map g) j (g (j / n)) (by simp [hi])).symm
  have h0 : 0 < len := Nat.lt_of_le_of_lt (Nat.zero_le _) hi
  have hz : ∃ u0, (f (g 0))[0]? = some u0 := ⟨(f (g 0))[0]'(by rw [hf]; exact hn), List.getElem?_eq_getElem _⟩
  obtain ⟨u0, hu0⟩ := hz
  have hs := hcell 0 h0 0 u0 hu0
  have hs' : w.cell? a' = some u0 := by simpa [Addr.add] using hs
  have ha := QdK hs'
  refine ⟨a'.block, a'.off, by rw [← ha], ?_⟩
  have h2 := hcell (j / n) hi (j % n) u hu'
  rw [ha, Addr.add_mid, Addr.add_mid, Nat.add_assoc, Nat.div_add_mod'] at h2
  exact h2
 intro y hy
 simp only [List.mem_map, List.mem_range] at hy
 obtain ⟨i, hi, rfl⟩ := hy
 exact (hg i hi).2
end
end
section
open Go.RowKit
theorem Qjh (off : Nat) : ∀ (cs : List Value) (k : Nat) (Z : Array Value), off + k + cs.length ≤ Z.size →
  (cs.zipIdx k).foldl (fun acc (x : Value × Nat) => acc.setIfInBounds (off + x.2) x.1) Z = (Z.toList.take (off + k) ++ cs ++ Z.toList.drop (off + k + cs.length)).toArray := by
 intro cs
 induction cs with
 | nil => intro k Z h; simp
 | cons c cs ih =>
  intro k Z h
  simp only [List.length_cons] at h
  rw [List.zipIdx_cons, List.foldl_cons, ih (k + 1) _ (by simp; omega)]
  congr 1
  simp only [Array.toList_setIfInBounds]
  have e : off + (k + 1) = off + k + 1 := by omega
  have hk : off + k < Z.toList.length := by simp; omega
  rw [e, List.take_add_one, List.take_set_of_le (by omega)]
  simp only [List.getElem?_set_self hk, Option.toList_some]
  rw [List.drop_set_of_lt (by omega)]
  simp [List.length_cons, Nat.add_assoc, Nat.add_comm 1]
theorem Qjg (off : Nat) (cs Z : Array Value) (h : off + cs.size ≤ Z.size) :
  cs.zipIdx.foldl (fun acc (x : Value × Nat) => acc.setIfInBounds (off + x.2) x.1) Z = (Z.toList.take off ++ cs.toList ++ Z.toList.drop (off + cs.size)).toArray := by
 rw [← Array.foldl_toList, Array.toList_zipIdx, Qjh off cs.toList 0 Z (by simpa using h)]
 simp
theorem Qfx (place : Nat → Option (Nat × Nat)) (Z : Array Value) (i : Nat) (v : Value) (rest : List (Nat × Value)) (off size : Nat) (hp : place i = some (off, size)) (hs : v.cells.size = size) (hz : off + size ≤ Z.size) :
  Instr.fill place Z ((i, v) :: rest) = Instr.fill place (Z.toList.take off ++ v.cells.toList ++ Z.toList.drop (off + size)).toArray rest := by
 subst hs
 rw [Instr.fill]
 simp only [hp]
 rw [if_neg (by simp; omega), Qjg off v.cells Z (by omega)]
section
variable {P : Program} {a : Act} {w w' : World} {o : Oper} {v : Value}
theorem QkW {t : TypeId} {l : List (Nat × Operand)} (ho : o.op = .build t l.toArray) (ps : List (Nat × Value)) (hp : (l.map fun p => (p.1, a.eval p.2)) = ps) (h : (Instr.build t ps.toArray).run P w = .ok v w') :
  (execOp a.eval o).run P w = .ok (.value v) w' := by
 unfold execOp
 simp only [ho]
 have e : (l.toArray.map fun (x : Nat × Operand) => match x with | (i, x) => (i, a.eval x)) = ps.toArray := by
  rw [← hp]; simp
 rw [e, Sem.run_bind, h]
 rfl
end
def cutA (A : Option Addr) (c i size : Nat) : Option Addr := if c = i then A else A.map (·.add (i * size))
section
variable {P : Program} {a : Act} {w : World} {o : Oper}
section
variable {T e size : Nat} {x : Operand} {A : Option Addr} {n c : Nat}
theorem Qrd {xl : Operand} {kl : IntKind} {L : Int} (ho : o.op = .slice T x (some xl) none none) (hT : P.underlying T = some (.slice e)) (hs : (P.info? e).map (·.size) = some size) (hx : a.eval x = .slice A n c) (hl : a.eval xl = .int kl L) (h0 : 0 ≤ L) (h1 : L ≤ n) :
  (execOp a.eval o).run P w = .ok (.value (.slice (cutA A c L.toNat size) (n - L.toNat) (c - L.toNat))) w := by
 obtain ⟨i, hi, rfl⟩ := Option.map_eq_some_iff.1 hs
 have hel : P.elem T = e := by simp [Program.elem, hT]
 have hu : P.underlying T = some (.slice (P.elem T)) := by rw [hel]; exact hT
 unfold execOp
 simp only [ho, hx, Option.map_some, Option.map_none, hl]
 rw [Sem.run_bind, run_sliceAt_slice _ _ _ _ _ _ hu, run_slice_l w T A n c hu kl L h0 h1, hel]
 simp [sizeOf, typeInfo, hi, sliced, Result.andThen, cutA]
theorem Qrc {xh : Operand} {kh : IntKind} {H : Int} (ho : o.op = .slice T x none (some xh) none) (hT : P.underlying T = some (.slice e)) (hs : (P.info? e).map (·.size) = some size) (hx : a.eval x = .slice A n c) (hh : a.eval xh = .int kh H) (h0 : 0 ≤ H) (h1 : H ≤ c) :
  (execOp a.eval o).run P w = .ok (.value (.slice (cutA A c 0 size) H.toNat c)) w := by
 obtain ⟨i, hi, rfl⟩ := Option.map_eq_some_iff.1 hs
 have hel : P.elem T = e := by simp [Program.elem, hT]
 have hu : P.underlying T = some (.slice (P.elem T)) := by rw [hel]; exact hT
 unfold execOp
 simp only [ho, hx, Option.map_some, Option.map_none, hh]
 rw [Sem.run_bind, run_sliceAt_slice _ _ _ _ _ _ hu, run_slice_h w T A n c hu kh H h0 h1, hel]
 simp [sizeOf, typeInfo, hi, sliced, Result.andThen, cutA]
theorem QpD {xl xh : Operand} {kl kh : IntKind} {L H : Int} (ho : o.op = .slice T x (some xl) (some xh) none) (hT : P.underlying T = some (.slice e)) (hs : (P.info? e).map (·.size) = some size) (hx : a.eval x = .slice A n c) (hl : a.eval xl = .int kl L) (hh : a.eval xh = .int kh H) (h0 : 0 ≤ L) (h1 : L ≤ H) (h2 : H ≤ c) :
  (execOp a.eval o).run P w = .ok (.value (.slice (cutA A c L.toNat size) (H.toNat - L.toNat) (c - L.toNat))) w := by
 obtain ⟨i, hi, rfl⟩ := Option.map_eq_some_iff.1 hs
 have hel : P.elem T = e := by simp [Program.elem, hT]
 have hu : P.underlying T = some (.slice (P.elem T)) := by rw [hel]; exact hT
 unfold execOp
 simp only [ho, hx, Option.map_some, Option.map_none, hl, hh]
 rw [Sem.run_bind, run_sliceAt_slice _ _ _ _ _ _ hu, run_slice_lh w T A n c hu kl kh L H h0 h1 h2, hel]
 simp [sizeOf, typeInfo, hi, sliced, Result.andThen, cutA]
end
end
section
variable {P : Program} {a : Act} {w : World} {o : Oper}
theorem QnA {x : Operand} {v : Value} (ho : o.op = .move x) (hx : a.eval x = v) : (execOp a.eval o).run P w = .ok (.value v) w := by
 unfold execOp
 simp only [ho, hx]
 rfl
theorem QiQ {x : Operand} {v : Value} (ho : o.op = .assign x) (hx : a.eval x = v) : (execOp a.eval o).run P w = .ok (.value v) w := by
 unfold execOp
 simp only [ho, hx]
 rfl
theorem Qbt {ty : TypeId} {x : Operand} (ho : o.op = .load ty x) {b off : Nat} (hx : a.eval x = .pointer (some ⟨b, off, none⟩)) {cs : List Value} {d : TypeDesc} (hc : w.rangeAt b off cs)
  (hu : P.underlying ty = some d) (hd : d.isRow = true) (hi : (P.info? ty).map (·.size) = some cs.length) : (execOp a.eval o).run P w = .ok (.value (.agg cs.toArray)) w := by
 unfold execOp
 simp only [ho, hx, Instr.loadAt, Instr.sureAddr, Sem.run_bind, Sem.run_pure, Result.andThen_ok, run_loadVar_mid w b off ty cs d hc hu hd hi]
theorem Qat {ty : TypeId} {x : Operand} (ho : o.op = .load ty x) {b off : Nat} (hx : a.eval x = .pointer (some ⟨b, off, none⟩)) {v : Value} {d : TypeDesc} (hc : w.cell? ⟨b, off, none⟩ = some v)
  (hu : P.underlying ty = some d) (hd : d.isRow = false) : (execOp a.eval o).run P w = .ok (.value v) w := by
 have hagg : (isAgg ty).run P w = .ok false w := by
  unfold isAgg
  rw [Sem.run_bind, run_underlying hu w]
  cases d <;> simp_all
 unfold execOp
 simp only [ho, hx, Instr.loadAt, Instr.sureAddr, Sem.run_bind, Sem.run_pure, Result.andThen_ok, loadVar, hagg]
 simp [load, Sem.run, hc]
theorem QkV {T : TypeId} (ho : o.op = .alloc T) {z : Value} (hz : (P.info? T).map (fun i => (i.zero, i.size)) = some (some z, z.cells.size)) :
  (execOp a.eval o).run P w = .ok (.value (.pointer (some ⟨w.heap.size, 0, none⟩))) (w.alloc (.cells z.cells T)) := by
 obtain ⟨hz1, hz2⟩ := zero_of_info hz
 unfold execOp
 simp only [ho, Instr.alloc, newVar, newRow, newObj, Sem.run_bind, hz1, Result.andThen_ok, Sem.run_pure]
 rfl
theorem QnB {T T' : TypeId} {x y : Operand} (ho : o.op = .binOp .neq T x y T') {k : IntKind} {m n : Int} (hx : a.eval x = .int k m) (hy : a.eval y = .int k n) {v : Bool} (hv : (m != n) = v) : (execOp a.eval o).run P w = .ok (.value (.bool v)) w := by
 subst hv
 unfold execOp
 simp only [ho, hx, hy, eqGuard_at_int, binOp_neq]
 rfl
theorem Qn9 {T T' : TypeId} {x y : Operand} (ho : o.op = .binOp .eql T x y T') {k : IntKind} {m n : Int} (hx : a.eval x = .int k m) (hy : a.eval y = .int k n) {v : Bool} (hv : (m == n) = v) : (execOp a.eval o).run P w = .ok (.value (.bool v)) w := by
 subst hv
 unfold execOp
 simp only [ho, hx, hy, eqGuard_at_int, binOp_eql]
 rfl
theorem QnC {c x y : Operand} (ho : o.op = .pick c x y) {t : Bool} (hc : a.eval c = .bool t) {v : Value} (hv : (if t = true then a.eval x else a.eval y) = v) : (execOp a.eval o).run P w = .ok (.value v) w := by
 subst hv
 unfold execOp
 simp only [ho, hc, asBool]
 rfl
theorem QgI {T : TypeId} {x : Operand} {i : Nat} (ho : o.op = .fieldAddr T x i) {b off : Nat} (hx : a.eval x = .pointer (some ⟨b, off, none⟩)) {fs : Array Field} (hT : P.underlying T = some (.struct fs)) {f : Field} (hf : fs[i]? = some f) {s : Nat} (hs : (P.info? f.type).map (·.size) = some (s + 1)) {k : Nat} (hk : off + f.offset = k) :
  (execOp a.eval o).run P w = .ok (.value (.pointer (some ⟨b, k, none⟩))) w := by
 obtain ⟨j, hj, hjs⟩ := Option.map_eq_some_iff.1 hs
 subst hk
 unfold execOp
 simp only [ho, hx]
 simp [Instr.fieldAt, run_underlying hT, hf, Instr.sureAddr, fieldPlace, sizeOf, typeInfo, hj, hjs, Addr.add_mid]
theorem QkX {T e size : Nat} {x i : Operand} (ho : o.op = .indexAddr T x i) (hT : P.underlying T = some (.slice e)) (hs : (P.info? e).map (·.size) = some size) {b off n c : Nat} (hx : a.eval x = .slice (some ⟨b, off, none⟩) n c) {k : IntKind} {I : Int} (hi : a.eval i = .int k I) (h0 : 0 ≤ I) (h1 : I < n) :
  (execOp a.eval o).run P w = .ok (.value (.pointer (some ⟨b, off + I.toNat * size, none⟩))) w := by
 obtain ⟨i, hi', rfl⟩ := Option.map_eq_some_iff.1 hs
 have hel : P.elem T = e := by simp [Program.elem, hT]
 have hu : P.underlying T = some (.slice (P.elem T)) := by rw [hel]; exact hT
 unfold execOp
 simp only [ho, hx, hi]
 rw [Sem.run_bind, run_indexAt_slice w T _ n c k I hu, if_pos ⟨h0, h1⟩, hel]
 simp [sizeOf, typeInfo, hi', Result.andThen, Addr.add_mid]
end
section
variable {P : Program} {a : Act} {w : World} {o : Oper}
theorem QpJ {T T' : TypeId} {x y : Operand} (ho : o.op = .binOp .eql T x y T') {xs ys : Array Value} (hx : a.eval x = .agg xs) (hy : a.eval y = .agg ys) (hm : P.eqGuardType P.depth T = false) {v : Value} (h : (binOp .eql T (.agg xs) (.agg ys)).run P w = .ok v w) :
  (execOp a.eval o).run P w = .ok (.value v) w := by
 unfold execOp
 simp only [ho, hx, hy]
 rw [Sem.run_bind, Sem.run_bind, run_eqGuard_agg w _ _ _ _ _ _ hm, Result.andThen_ok, h]
 rfl
theorem QpK {T T' : TypeId} {x y : Operand} (ho : o.op = .binOp .neq T x y T') {xs ys : Array Value} (hx : a.eval x = .agg xs) (hy : a.eval y = .agg ys) (hm : P.eqGuardType P.depth T = false) {v : Value} (h : (binOp .neq T (.agg xs) (.agg ys)).run P w = .ok v w) :
  (execOp a.eval o).run P w = .ok (.value v) w := by
 unfold execOp
 simp only [ho, hx, hy]
 rw [Sem.run_bind, Sem.run_bind, run_eqGuard_agg w _ _ _ _ _ _ hm, Result.andThen_ok, h]
 rfl
theorem QaB {T n : Nat} {d : TypeDesc} (hu : P.underlying T = some d) (hd : d.isRow = true) (hs : (P.info? T).map (·.size) = some n) (cs : Array Value) (off : Nat) : (part T cs off).run P w = .ok (.agg (cs.extract off (off + n))) w := by
 obtain ⟨i, hi, rfl⟩ := Option.map_eq_some_iff.1 hs
 have hagg : (isAgg T).run P w = .ok true w := by
  unfold isAgg
  rw [Sem.run_bind, run_underlying hu w]
  cases d <;> simp_all
 simp [part, hagg, sizeOf, typeInfo, hi]
theorem Qch {T e : TypeId} (d : Nat) (ht : P.underlying T = some (.array 32 e)) (he : P.underlying e = some (.int .u8)) (hs : (P.info? e).map (·.size) = some 1) (x y : B32) :
  (Op.equalIn (d + 2) T (.agg x.cells.toArray) (.agg y.cells.toArray)).run P w = .ok (decide (x = y)) w := by
 obtain ⟨i, hi, h1⟩ := Option.map_eq_some_iff.1 hs
 have := run_equalIn_bytes (P := P) w d T e 32 ht he (fun w => by simp [sizeOf, typeInfo, hi, h1]) x.1 y.1 x.2 y.2
 rw [show decide (x = y) = (x.1 == y.1) by rw [Bool.eq_iff_iff]; simp [Subtype.ext_iff]]
 exact this
theorem Qn7 {T t1 t2 e : TypeId} (d : Nat) {f1 f2 : Field} (hT : P.underlying T = some (.struct #[f1, f2])) (hp : P.stoodInHeld T = false) (hn1 : (f1.name == "_") = false) (hn2 : (f2.name == "_") = false) (h1 : f1.type = t1) (h2 : f2.type = t2) (o1 : f1.offset = 0) (o2 : f2.offset = 32)
  (ht1 : P.underlying t1 = some (.array 32 e)) (ht2 : P.underlying t2 = some (.array 32 e)) (he : P.underlying e = some (.int .u8)) (hs : (P.info? e).map (·.size) = some 1) (hs1 : (P.info? t1).map (·.size) = some 32) (hs2 : (P.info? t2).map (·.size) = some 32) (x y : Leaf) :
  (Op.equalIn (d + 3) T (.agg x.cells.toArray) (.agg y.cells.toArray)).run P w = .ok (decide (x = y)) w := by
 have hf : P.fieldsOf T = #[f1, f2] := by simp [Program.fieldsOf, hT]
 rw [run_equalIn_struct (P := P) w (d + 2) T _ _ (by rw [hf]; exact hT) hp, hf]
 have n1 : f1.name ≠ "_" := by simpa using hn1
 have n2 : f2.name ≠ "_" := by simpa using hn2
 have ex1 : ∀ z : Leaf, z.cells.toArray.extract 0 (0 + 32) = z.key.cells.toArray := fun z => by
  apply Array.ext'
  simp only [List.extract_toArray, Leaf.cells]
  simp [List.extract_eq_drop_take', B32.cells_length]
 have ex2 : ∀ z : Leaf, z.cells.toArray.extract 32 (32 + 32) = z.value.cells.toArray := fun z => by
  apply Array.ext'
  simp only [List.extract_toArray, Leaf.cells]
  simp [List.extract_eq_drop_take', B32.cells_length, List.take_of_length_le]
 have p1 : ∀ z : Leaf, (part t1 z.cells.toArray 0).run P w = .ok (.agg z.key.cells.toArray) w := fun z => by rw [QaB ht1 rfl hs1, ex1]
 have p2 : ∀ z : Leaf, (part t2 z.cells.toArray 32).run P w = .ok (.agg z.value.cells.toArray) w := fun z => by rw [QaB ht2 rfl hs2, ex2]
 simp only [Op.eqFields, if_pos n1, if_pos n2, Sem.run_bind, h1, h2, o1, o2, p1, Result.andThen_ok, Qch d ht1 he hs]
 have e1 : decide (x = y) = (decide (x.key = y.key) && decide (x.value = y.value)) := by
  rw [Bool.eq_iff_iff]; cases x; cases y; simp
 rw [e1]
 by_cases k1 : x.key = y.key <;> by_cases k2 : x.value = y.value <;> simp [k1, k2, p2, Qch d ht2 he hs]
end
section
variable {P : Program} {ops : Array Oper} {Q : Exit → Act → World → Prop} {md : Region.Mode} {S : World → Prop} {fuel : Nat} {listed : Array Bool} {a : Act} {w : World}
end
end
section
open Go.RowKit
structure ElT (P : Program) (t e : TypeId) (size bytes : Nat) (z : Value) : Prop where
 ht : P.underlying t = some (.slice e)
 hi : (P.info? e).map (fun i => (i.zero, i.size, i.bytes)) = some (some z, size, bytes)
 hz : z.cells.size = size
 h0 : 0 < size
 hb : 0 < bytes
theorem Ql8 {w : World} {base base' : Nat} {e : TypeId} {size n : Nat} {v : Value} {xs : List Value} (h : w.ownsRow base e size v n xs) (hb : base' ≤ base) : w.ownsRow base' e size v n xs := by
 obtain ⟨h1, h2⟩ := h
 refine ⟨h1, ?_⟩
 rcases h2 with h2 | ⟨g, cap, cur, rfl, hg, r⟩
 ·exact .inl h2
 exact .inr ⟨g, cap, cur, rfl, by omega, r⟩
section
variable {P : Program} {a : Act} {w : World} {o : Oper}
theorem Qci {T e n size : Nat} {x : Operand} (ho : o.op = .slice T x none none none) {b off : Nat} (hx : a.eval x = .pointer (some ⟨b, off, none⟩)) (hT : P.underlying T = some (.array n e)) (hs : (P.info? e).map (·.size) = some size) (hn : 0 < n) :
  (execOp a.eval o).run P w = .ok (.value (.slice (some ⟨b, off, none⟩) n n)) w := by
 obtain ⟨j, hj, hjs⟩ := Option.map_eq_some_iff.1 hs
 unfold execOp
 simp only [ho, hx, Option.map_none]
 simp [Instr.sliceAt, run_underlying hT, Instr.sureAddr, Instr.sliceBounds, sizeOf, typeInfo, hj, Addr.add_mid]
end
end
section
open Go.RowKit
section
variable {P : Program} {w : World}
theorem QcG : ∀ (l : List Field) (pl : List (Nat × Nat)), l.map (fun f => (f.offset, (P.info? f.type).map (·.size))) = pl.map (fun p => (p.1, some p.2)) →
  (l.mapM (m := Sem) fun f => do pure (f.offset, ← sizeOf f.type)).run P w = .ok pl w
 | [], pl, h => by
  cases pl with
  | nil => simp
  | cons p pl => simp at h
 | f :: l, pl, h => by
  cases pl with
  | nil => simp at h
  | cons p pl =>
   simp only [List.map_cons, List.cons.injEq, Prod.mk.injEq] at h
   obtain ⟨⟨h1, h2⟩, h3⟩ := h
   obtain ⟨i, hi, hs⟩ := Option.map_eq_some_iff.1 h2
   have ih := QcG l pl h3
   have e : (sizeOf f.type).run P w = .ok p.2 w := by simp [sizeOf, typeInfo, hi, hs]
   simp only [List.mapM_cons, Sem.run_bind, e, Result.andThen_ok, Sem.run_pure, ih, h1]
theorem QY {t : TypeId} {fl : List Field} (hu : P.underlying t = some (.struct fl.toArray)) {z : Array Value} {n : Nat} (hz : (P.info? t).map (fun i => (i.zero, i.size)) = some (some (.agg z), n))
  {pl : List (Nat × Nat)} (hp : fl.map (fun f => (f.offset, (P.info? f.type).map (·.size))) = pl.map (fun p => (p.1, some p.2))) {ps : List (Nat × Value)} {cells : Array Value} (hf : Instr.fill (fun i => pl.toArray[i]?) z ps = some cells) :
  (Instr.build t ps.toArray).run P w = .ok (.agg cells) w := by
 obtain ⟨hz1, _⟩ := zero_of_info hz
 have hpl := QcG (P := P) (w := w) fl pl hp
 simp only [Instr.build, Sem.run_bind, hz1, Result.andThen_ok, run_underlying hu, Value.cells]
 rw [List.mapM_toArray]
 simp only [map_eq_pure_bind, Sem.run_bind] at hpl ⊢
 simp only [hpl, Result.andThen_ok, Sem.run_pure]
 simp only [hf, Sem.run_pure]
theorem JC {t e m s : Nat} (hu : P.underlying t = some (.array m e)) {z : Array Value} {n : Nat} (hz : (P.info? t).map (fun i => (i.zero, i.size)) = some (some (.agg z), n)) (hs : (P.info? e).map (·.size) = some s)
  {ps : List (Nat × Value)} {cells : Array Value} (hf : Instr.fill (fun i => some (i * s, s)) z ps = some cells) : (Instr.build t ps.toArray).run P w = .ok (.agg cells) w := by
 obtain ⟨hz1, _⟩ := zero_of_info hz
 obtain ⟨i, hi, rfl⟩ := Option.map_eq_some_iff.1 hs
 simp only [Instr.build, Sem.run_bind, hz1, Result.andThen_ok, run_underlying hu, Value.cells, sizeOf, typeInfo]
 simp [hi, hf]
end
section
variable {P : Program} {ops : Array Oper} {rest : List Oper} {a : Act} {w : World} {Q : Exit → Act → World → Prop}
theorem Qau {o : Oper} {T T' : TypeId} {p x : Operand} (ho : o.op = .store T p x) {g off : Nat} {c : Array Value} {cs : List Value} (hp : a.eval p = .pointer (some ⟨g, off, none⟩)) (hx : a.eval x = .agg cs.toArray) (hb : w.heap[g]? = some (.cells c T' (0, 0)))
  (hi : (P.info? T).map (·.size) = some cs.length) (hc : off + cs.length ≤ c.size) (h1 : ∀ v ∈ cs, v.oneCell' = true) :
  (execOp a.eval o).run P w = .ok .skip (w.setRow g (c.toList.take off ++ cs ++ c.toList.drop (off + cs.length)).toArray) := by
 obtain ⟨j, hj, hjs⟩ := Option.map_eq_some_iff.1 hi
 have hst := run_storeCells_at P g off T' cs 0 c w hb (by simpa using hc) h1
 have hrun : (storeVar T ⟨g, off, none⟩ (.agg cs.toArray)).run P w = .ok () (w.setRow g (c.toList.take off ++ cs ++ c.toList.drop (off + cs.length)).toArray) := by
  simp only [Nat.add_zero] at hst
  simp [storeVar, Value.cells, sizeOf, typeInfo, hj, hjs, hst]
 unfold execOp
 simp only [ho, hp, hx, Instr.storeAt, Instr.sureAddr, Sem.run_bind, Sem.run_pure, Result.andThen_ok, hrun]
theorem QgH {o : Oper} {T e n : Nat} {x : Operand} (ho : o.op = .sliceToArrayPointer T x) (hT : P.underlying T = some (.array n e)) {A : Option Addr} {m c : Nat} (hx : a.eval x = .slice A m c) (hn : n ≤ m) : (execOp a.eval o).run P w = .ok (.value (.pointer A)) w := by
 unfold execOp
 simp only [ho, hx, Sem.run_bind, run_arrayAt w T e n A m c hT hn, Result.andThen_ok, Sem.run_pure]
end
end
section
open Go.RowKit
structure Bel (X : List Nat) (w w' : World) : Prop where
 os : w'.os = w.os
 tape : w'.tape = w.tape
 output : w'.output = w.output
 size : w.heap.size ≤ w'.heap.size
 block : ∀ k, k < w.heap.size → k ∉ X → w'.heap[k]? = w.heap[k]?
theorem Bel.of {w w' : World} (h : Below w.heap.size w w') : Bel [] w w' := ⟨h.os, h.tape, h.output, h.size, fun k hk _ => h.block k hk⟩
theorem Bel.below {w w' : World} (h : Bel [] w w') : Below w.heap.size w w' := ⟨h.os, h.tape, h.output, h.size, fun k hk => h.block k hk (by simp)⟩
theorem Bel.trans {X Y : List Nat} {a b c : World} (h : Bel X a b) (k : Bel Y b c) (hY : ∀ y ∈ Y, y ∈ X ∨ a.heap.size ≤ y) : Bel X a c :=
 ⟨k.os.trans h.os, k.tape.trans h.tape, k.output.trans h.output, Nat.le_trans h.size k.size, fun i hi hx =>
  (k.block i (Nat.lt_of_lt_of_le hi h.size) fun hy => (hY i hy).elim hx fun h' => by omega).trans (h.block i hi hx)⟩
theorem Bel.mono {X Y : List Nat} {a b : World} (h : Bel X a b) (hX : ∀ x ∈ X, x ∈ Y ∨ a.heap.size ≤ x) : Bel Y a b :=
 ⟨h.os, h.tape, h.output, h.size, fun i hi hx => h.block i hi fun hy => (hX i hy).elim hx fun h' => by omega⟩
inductive Fc where
 | blk (g : Nat) (cs : List Value) (T : TypeId)
 | rd (A : Option Addr) (cs : List Value)
 | own (v : Value) (n : Nat) (e : TypeId) (size : Nat) (xs : List Value)
 | inv (φ : World → Prop) (F : Nat → Prop)
def Fc.wr : Fc → Bool
 | .blk .. => true
 | .own .. => true
 | _ => false
def Fc.foot : Fc → Nat → Prop
 | .blk g _ _, k => k = g
 | .rd A cs, k => cs ≠ [] ∧ ∃ o, A = some ⟨k, o, none⟩
 | .own v _ _ _ _, k => v.ownBlock = some k
 | .inv _ F, k => F k
def Fc.holds (B : Nat) (w : World) : Fc → Prop
 | .blk g cs T => w.heap[g]? = some (.cells cs.toArray T (0, 0))
 | .rd A cs => Rd w A cs
 | .own v n e size xs => w.ownsRow B e size v n xs
 | .inv φ F => φ w ∧ (∀ k, F k → k < w.heap.size) ∧ ∀ w', (∀ k, F k → w'.heap[k]? = w.heap[k]?) → φ w'
theorem Fc.bound {B : Nat} {w : World} {f : Fc} (h : f.holds B w) {k : Nat} (hk : f.foot k) : k < w.heap.size := by
 cases f with
 | blk g cs T => obtain rfl : k = g := hk; exact (Array.getElem?_eq_some_iff.1 h).1
 | rd A cs =>
  obtain ⟨hc, o, rfl⟩ := hk
  have hc' : 0 < cs.length := List.length_pos_iff.2 hc
  obtain ⟨b, o', e, hlt, _⟩ := Rd.open_ h hc'
  injection e with e
  injection e with e1
  omega
 | own v n e size xs => exact (World.ownsRow.lt h k hk).2
 | inv φ F => exact h.2.1 k hk
theorem Qid {w w' : World} {A : Option Addr} {cs : List Value} (h : Rd w A cs) (hk : ∀ k, (cs ≠ [] ∧ ∃ o, A = some ⟨k, o, none⟩) → w'.heap[k]? = w.heap[k]?) : Rd w' A cs := fun j v hv => by
 obtain ⟨b, o, hA, hc⟩ := h j v hv
 refine ⟨b, o, hA, ?_⟩
 have := hk b ⟨fun e => by simp [e] at hv, o, hA⟩
 rw [World.cell?_of_block (w := w) (w' := w') (a := ⟨b, o + j, none⟩) this]
 exact hc
theorem QfM {w w' : World} {B : Nat} {e : TypeId} {size n : Nat} {v : Value} {xs : List Value} (h : w.ownsRow B e size v n xs) (hk : ∀ k, v.ownBlock = some k → w'.heap[k]? = w.heap[k]?) : w'.ownsRow B e size v n xs := by
 refine ⟨h.1, ?_⟩
 rcases h.2 with h2 | ⟨g, cap, cur, rfl, hg, hh, r⟩
 ·exact .inl h2
 exact .inr ⟨g, cap, cur, rfl, hg, (hk g rfl).trans hh, r⟩
theorem Fc.kept {B : Nat} {w w' : World} {f : Fc} (h : f.holds B w) (hsz : w.heap.size ≤ w'.heap.size) (hk : ∀ k, f.foot k → w'.heap[k]? = w.heap[k]?) : f.holds B w' := by
 cases f with
 | blk g cs T => exact (hk g rfl).trans h
 | rd A cs => exact Qid h hk
 | own v n e size xs => exact QfM h hk
 | inv φ F => exact ⟨h.2.2 w' hk, fun k hF => Nat.lt_of_lt_of_le (h.2.1 k hF) hsz, fun w'' h'' => h.2.2 w'' fun k hF => (h'' k hF).trans (hk k hF)⟩
def Fc.sep (f g : Fc) : Prop := (f.wr || g.wr) = true → ∀ k, f.foot k → g.foot k → False
structure St (X : List Nat) (w0 w : World) (L : List Fc) : Prop where
 bel : Bel X w0 w
 ok : ∀ f ∈ L, f.holds w0.heap.size w
 sep : L.Pairwise Fc.sep
 fresh : ∀ f ∈ L, f.wr = true → ∀ k, f.foot k → w0.heap.size ≤ k ∨ k ∈ X
theorem Fc.base {B B' : Nat} {w : World} {f : Fc} (h : f.holds B w) (hB : B' ≤ B) : f.holds B' w := by
 cases f with
 | own v n e size xs => exact Ql8 h hB
 | _ => exact h
section
variable {X : List Nat} {w0 w w' : World} {L : List Fc}
theorem St.below (h : St [] w0 w L) : Below w0.heap.size w0 w := h.bel.below
theorem St.size (h : St X w0 w L) : w0.heap.size ≤ w.heap.size := h.bel.size
theorem St.call (h : St X w0 w L) (hb : Below w.heap.size w w') : St X w0 w' L :=
 ⟨h.bel.trans (Bel.of hb) (by simp), fun f hf => Fc.kept (h.ok f hf) hb.size fun k hk => hb.block k (Fc.bound (h.ok f hf) hk), h.sep, h.fresh⟩
theorem St.cons (h : St X w0 w L) {f : Fc} (hf : f.holds w0.heap.size w) (hs : ∀ g ∈ L, f.sep g) (hfr : f.wr = true → ∀ k, f.foot k → w0.heap.size ≤ k ∨ k ∈ X) : St X w0 w (f :: L) :=
  ⟨h.bel, fun g hg => (List.mem_cons.1 hg).elim (fun e => e ▸ hf) (h.ok g), List.pairwise_cons.2 ⟨hs, h.sep⟩,
   fun g hg => (List.mem_cons.1 hg).elim (fun e => e ▸ hfr) (h.fresh g)⟩
theorem St.sub (h : St X w0 w L) {L' : List Fc} (hs : L'.Sublist L) : St X w0 w L' :=
 ⟨h.bel, fun f hf => h.ok f (hs.subset hf), h.sep.sublist hs, fun f hf => h.fresh f (hs.subset hf)⟩
theorem St.nil (h : St X w0 w L) : St X w0 w [] := h.sub (List.nil_sublist _)
theorem St.tail (h : St X w0 w L) {f : Fc} {L' : List Fc} (e : L = f :: L') : St X w0 w L' := by subst e; exact h.sub (List.sublist_cons_self _ _)
theorem Fc.sep_symm {f g : Fc} (h : f.sep g) : g.sep f := fun hw k a b => h (by rw [Bool.or_comm]; exact hw) k b a
theorem QlS : ∀ {L : List Fc}, L.Pairwise Fc.sep → ∀ {f g : Fc}, f ∈ L → g ∈ L → f ≠ g → f.sep g
 | [], _, _, _, hf, _, _ => (List.not_mem_nil hf).elim
 | x :: l, hp, f, g, hf, hg, hne => by
  obtain ⟨h1, h2⟩ := List.pairwise_cons.1 hp
  rcases List.mem_cons.1 hf with h2f | h2f
  ·rcases List.mem_cons.1 hg with h2g | h2g
   ·exact (hne (h2f.trans h2g.symm)).elim
   exact h2f ▸ h1 g h2g
  rcases List.mem_cons.1 hg with h2g | h2g
  ·exact Fc.sep_symm (h2g ▸ h1 f h2f)
  exact QlS h2 h2f h2g hne
theorem St.perm (h : St X w0 w L) {L' : List Fc} (hp : L'.Perm L) : St X w0 w L' :=
 ⟨h.bel, fun f hf => h.ok f (hp.mem_iff.1 hf), (hp.symm.pairwise_iff fun hab => Fc.sep_symm hab).1 h.sep, fun f hf => h.fresh f (hp.mem_iff.1 hf)⟩
theorem St.part (h : St X w0 w L) {A A' : Option Addr} {cs cs' : List Value} (hm : Fc.rd A cs ∈ L) (hr : Rd w A' cs') (hf : ∀ k, (Fc.rd A' cs').foot k → (Fc.rd A cs).foot k) : St X w0 w (.rd A' cs' :: L) := by
 refine h.cons hr ?_ (by intro hw; cases hw)
 intro g hg hw k hk hk'
 have hgw : g.wr = true := by simpa [Fc.wr] using hw
 have hs : (Fc.rd A cs).sep g := QlS h.sep hm hg (fun e => by rw [← e] at hgw; cases hgw)
 exact hs (by rw [Bool.or_eq_true]; exact .inr hgw) k (hf k hk) hk'
inductive Repl (f f' : Fc) : List Fc → List Fc → Prop where
 | head {L : List Fc} : Repl f f' (f :: L) (f' :: L)
 | tail {g : Fc} {L L' : List Fc} (h : Repl f f' L L') : Repl f f' (g :: L) (g :: L')
theorem Repl.mem {f f' : Fc} : ∀ {L L' : List Fc}, Repl f f' L L' → f ∈ L
 | _, _, .head => List.mem_cons_self ..
 | _, _, .tail h => List.mem_cons_of_mem _ h.mem
theorem Repl.old {f f' : Fc} : ∀ {L L' : List Fc}, Repl f f' L L' → ∀ g ∈ L', g = f' ∨ (g ∈ L ∧ (L.Pairwise Fc.sep → g.sep f ∨ False))
 | _, _, .head, g, hg => by
  rcases List.mem_cons.1 hg with h | h
  ·exact .inl h
  exact .inr ⟨List.mem_cons_of_mem _ h, fun hp => .inl (Fc.sep_symm ((List.pairwise_cons.1 hp).1 g h))⟩
 | _, _, .tail (g := x) h, g, hg => by
  rcases List.mem_cons.1 hg with h2 | h2
  ·exact .inr ⟨h2 ▸ List.mem_cons_self .., fun hp => .inl (h2 ▸ (List.pairwise_cons.1 hp).1 f h.mem)⟩
  rcases h.old g h2 with h3 | ⟨h3, h4⟩
  ·exact .inl h3
  exact .inr ⟨List.mem_cons_of_mem _ h3, fun hp => h4 (List.pairwise_cons.1 hp).2⟩
theorem Repl.sep {f f' : Fc} (hw : f'.wr = true → f.wr = true) (hft : ∀ k, f'.foot k → f.foot k) : ∀ {L L' : List Fc}, Repl f f' L L' → L.Pairwise Fc.sep → L'.Pairwise Fc.sep
 | _, _, .head, hp => by
  obtain ⟨h1, h2⟩ := List.pairwise_cons.1 hp
  refine List.pairwise_cons.2 ⟨fun g hg hwr k a b => h1 g hg ?_ k (hft k a) b, h2⟩
  rw [Bool.or_eq_true] at hwr ⊢
  exact hwr.imp hw id
 | _, _, .tail (g := x) h, hp => by
  obtain ⟨h1, h2⟩ := List.pairwise_cons.1 hp
  refine List.pairwise_cons.2 ⟨fun g hg => ?_, h.sep hw hft h2⟩
  rcases h.old g hg with rfl | ⟨h3, _⟩
  ·intro hwr k a b
   refine h1 f h.mem ?_ k a (hft k b)
   rw [Bool.or_eq_true] at hwr ⊢
   exact hwr.imp id hw
  exact h1 g h3
structure Res (X : List Nat) (w w' : World) (N : List Fc) : Prop where
 bel : Bel X w w'
 ok : ∀ f ∈ N, f.holds w.heap.size w'
 sep : N.Pairwise Fc.sep
 fresh : ∀ f ∈ N, ∀ k, f.foot k → w.heap.size ≤ k ∨ k ∈ X
theorem St.ret (h : St X w0 w L) {N : List Fc} (hr : Res [] w w' N) : St X w0 w' (N ++ L) := by
 have hb := hr.bel.below
 have h1 := h.call hb
 refine ⟨h1.bel, fun f hf => ?_, List.pairwise_append.2 ⟨hr.sep, h1.sep, fun f hf g hg _ k a b => ?_⟩, fun f hf hw k hk => ?_⟩
 ·rcases List.mem_append.1 hf with hf | hf
  ·exact Fc.base (hr.ok f hf) h.size
  exact h1.ok f hf
 ·rcases hr.fresh f hf k a with h2 | h2
  ·have := Fc.bound (h.ok g hg) b
   omega
  simp at h2
 rcases List.mem_append.1 hf with hf | hf
 ·rcases hr.fresh f hf k hk with h2 | h2
  ·exact .inl (Nat.le_trans h.size h2)
  simp at h2
 exact h1.fresh f hf hw k hk
end
end
section
open Go.RowKit
class TRow (P : Program) (T : TypeId) (n : outParam Nat) : Prop where
 und : ∃ d, P.underlying T = some d ∧ d.isRow = true
 size : (P.info? T).map (·.size) = some n
class TOne (P : Program) (T : TypeId) : Prop where
 und : ∃ d, P.underlying T = some d ∧ d.isRow = false
 size : (P.info? T).map (·.size) = some 1
class TZ (P : Program) (T : TypeId) (cs : outParam (List Value)) : Prop where
 zero : ∃ z, (P.info? T).map (fun i => (i.zero, i.size)) = some (some z, z.cells.size) ∧ z.cells = cs.toArray
class TS (P : Program) (T : TypeId) (e size bytes : outParam Nat) (z : outParam Value) : Prop where
 el : ElT P T e size bytes z
class Row (cs : List Value) (n : outParam Nat) : Prop where
 len : cs.length = n
 one : ∀ v ∈ cs, v.oneCell' = true
class CellAt (cs : List Value) (off : Nat) (v : outParam Value) : Prop where
 at_ : cs[off]? = some v
class RowAt (cs : List Value) (off n : Nat) (out : outParam (List Value)) : Prop where
 at_ : ∀ j v, out[j]? = some v → cs[off + j]? = some v
 len : out.length = n
class SetAt (cs : List Value) (off : Nat) (new : List Value) (out : outParam (List Value)) : Prop where
 eq : out = cs.take off ++ new ++ cs.drop (off + new.length)
 fit : off + new.length ≤ cs.length
instance (v : Value) (l : List Value) : CellAt (v :: l) 0 v := ⟨rfl⟩
instance (u v : Value) (l : List Value) (n : Nat) [h : CellAt l n v] : CellAt (u :: l) (n + 1) v := ⟨h.at_⟩
theorem RowAt.whole {cs : List Value} {n : Nat} (h : cs.length = n) : RowAt cs 0 n cs := ⟨fun j v hv => by rw [Nat.zero_add]; exact hv, h⟩
theorem SetAt.whole {cs new : List Value} (h : cs.length = new.length) : SetAt cs 0 new new :=
 ⟨by rw [Nat.zero_add, ← h, List.drop_length, List.append_nil, List.take_zero, List.nil_append], by omega⟩
instance (b : B32) : Row b.cells 32 := ⟨B32.cells_length b, B32.cells_one b⟩
instance (b : B32) : RowAt b.cells 0 32 b.cells := .whole (B32.cells_length b)
instance (b c : B32) : SetAt b.cells 0 c.cells c.cells := .whole (by rw [B32.cells_length, B32.cells_length])
instance (u v : Value) (l : List Value) : SetAt (u :: l) 0 [v] (v :: l) := ⟨by simp, by simp⟩
instance (u v : Value) (l out : List Value) (n : Nat) [h : SetAt l n [v] out] : SetAt (u :: l) (n + 1) [v] (u :: out) := ⟨by rw [h.eq]; simp [Nat.add_right_comm], by have := h.fit; simp at this ⊢; omega⟩
class HasA (A : Option Addr) (L : List Fc) (cs : outParam (List Value)) : Prop where
 mem : Fc.rd A cs ∈ L
section
variable {P : Program} {X : List Nat} {w0 w : World} {L : List Fc} {a : Act} {o : Oper}
theorem St.blk (h : St X w0 w L) {g : Nat} {cs : List Value} {T : TypeId} (hm : Fc.blk g cs T ∈ L) : w.heap[g]? = some (.cells cs.toArray T (0, 0)) := h.ok _ hm
theorem St.rd (h : St X w0 w L) {A : Option Addr} {cs : List Value} (hm : Fc.rd A cs ∈ L) : Rd w A cs := h.ok _ hm
theorem St.own (h : St X w0 w L) {v : Value} {n : Nat} {e : TypeId} {size : Nat} {xs : List Value} (hm : Fc.own v n e size xs ∈ L) : w.ownsRow w0.heap.size e size v n xs := h.ok _ hm
theorem QqA {T : TypeId} {x : Operand} {v : Value} {cs : List Value} (ho : o.op = .box T x) (hx : a.eval x = v) (hv : v.cells = cs.toArray) : (execOp a.eval o).run P w = .ok (.value (.pointer (some ⟨w.heap.size, 0, none⟩))) (w.alloc (.cells cs.toArray T)) := by
 unfold execOp
 simp only [ho, hx, Instr.box, newVar, newRow, newObj, Sem.run_bind, Sem.run_pure, hv]
 rfl
theorem Qq9 {T : TypeId} {cs : List Value} [hz : TZ P T cs] (ho : o.op = .alloc T) : (execOp a.eval o).run P w = .ok (.value (.pointer (some ⟨w.heap.size, 0, none⟩))) (w.alloc (.cells cs.toArray T)) := by
 obtain ⟨z, h1, h2⟩ := hz.zero
 rw [← h2]
 exact QkV ho h1
end
section
variable {P : Program} {X : List Nat} {w0 w : World} {L L' : List Fc} {a : Act} {ops : Array Oper} {rest : List Oper} {Q : Exit → Act → World → Prop} {d : Option Tmp} {ty : TypeId} {pos : String} {af : Array Edge}
end
end
section
open Go.RowKit
structure Sl where
 A : Option Addr
 n : Nat
 c : Nat
theorem RowAt.mk' {cs pre out post : List Value} {off n : Nat} (h : cs = pre ++ (out ++ post)) (hp : pre.length = off) (ho : out.length = n) : RowAt cs off n out := by
 subst h; subst hp
 refine ⟨fun j v hv => ?_, ho⟩
 rw [List.getElem?_append_right (by omega), Nat.add_sub_cancel_left, List.getElem?_append_left (by have := (List.getElem?_eq_some_iff.1 hv).1; exact this)]
 exact hv
theorem CellAt.mk' {cs pre post : List Value} {off : Nat} {v : Value} (h : cs = pre ++ (v :: post)) (hp : pre.length = off) : CellAt cs off v := by
 subst h; subst hp
 exact ⟨by simp⟩
theorem SetAt.mk' {cs pre old new post out : List Value} {off : Nat} (h : cs = pre ++ (old ++ post)) (h' : out = pre ++ (new ++ post)) (hp : pre.length = off) (hl : old.length = new.length) : SetAt cs off new out := by
 subst h; subst hp; subst h'
 refine ⟨?_, by simp [hl]⟩
 rw [List.take_left, ← hl, List.drop_append, List.drop_of_length_le (by omega), Nat.add_sub_cancel_left, List.drop_left]
 simp
class OneC (v : Value) : Prop where
 one : v.oneCell' = true
class VCells (v : Value) (cs : outParam (List Value)) : Prop where
 eq : v.cells = cs.toArray
instance (cs : List Value) : VCells (.agg cs.toArray) cs := ⟨rfl⟩
instance (k : IntKind) (n : Int) : VCells (.int k n) [.int k n] := ⟨rfl⟩
instance (b : Bool) : VCells (.bool b) [.bool b] := ⟨rfl⟩
instance (s : ByteArray) : VCells (.string s) [.string s] := ⟨rfl⟩
instance (p : Option Addr) : VCells (.pointer p) [.pointer p] := ⟨rfl⟩
instance (A : Option Addr) (n c : Nat) : VCells (.slice A n c) [.slice A n c] := ⟨rfl⟩
instance (t : TypeId) (v : Value) : VCells (.iface t v) [.iface t v] := ⟨rfl⟩
instance (f : Fn) (c d : Array Value) : VCells (.func f c d) [.func f c d] := ⟨rfl⟩
instance (x : Leaf) : Row x.cells 64 := ⟨Leaf.cells_length x, Leaf.cells_one x⟩
instance (x : Leaf) : RowAt x.cells 0 64 x.cells := .whole (Leaf.cells_length x)
instance (x y : Leaf) : SetAt x.cells 0 y.cells y.cells := .whole (by rw [Leaf.cells_length, Leaf.cells_length])
instance (x : Leaf) : RowAt x.cells 0 32 x.key.cells := .mk' (pre := []) (post := (x.value.cells)) (by simp [Leaf.cells]) (by rfl) (B32.cells_length _)
instance (x : Leaf) (y : B32) : SetAt x.cells 0 y.cells ({ x with key := y } : Leaf).cells := .mk' (pre := []) (old := x.key.cells) (post := (x.value.cells)) (by simp [Leaf.cells]) (by simp [Leaf.cells]) (by rfl) (by rw [B32.cells_length, B32.cells_length])
instance (x : Leaf) : RowAt x.cells 32 32 x.value.cells := .mk' (pre := (x.key.cells)) (post := []) (by simp [Leaf.cells]) (by simp [B32.cells_length, Leaf.cells_length, Item.cells_length]) (B32.cells_length _)
instance (x : Leaf) (y : B32) : SetAt x.cells 32 y.cells ({ x with value := y } : Leaf).cells := .mk' (pre := (x.key.cells)) (old := x.value.cells) (post := []) (by simp [Leaf.cells]) (by simp [Leaf.cells]) (by simp [B32.cells_length, Leaf.cells_length, Item.cells_length]) (by rw [B32.cells_length, B32.cells_length])
structure Proof where
 kind : Int
 depth : Int
 leaf : Leaf
 bitmap : B32
 sibs : Sl
def Proof.cells (x : Proof) : List Value := [.int .i64 x.kind] ++ ([.int .i64 x.depth] ++ (x.leaf.cells ++ (x.bitmap.cells ++ ([.slice x.sibs.A x.sibs.n x.sibs.c] ++ []))))
def Jr : Proof := ⟨0, 0, Yi, QN, ⟨none, 0, 0⟩⟩
theorem Proof.cells_length (x : Proof) : x.cells.length = 99 := by simp [Proof.cells, B32.cells_length, Leaf.cells_length, Item.cells_length]
theorem Proof.cells_one (x : Proof) : ∀ v ∈ x.cells, v.oneCell' = true := by
 intro v hv
 simp only [Proof.cells, List.mem_append, List.mem_singleton, List.not_mem_nil, or_false] at hv
 rcases hv with rfl | rfl | h | h | rfl
 ·exact rfl
 ·exact rfl
 ·exact Leaf.cells_one _ v h
 ·exact B32.cells_one _ v h
 exact rfl
instance (x : Proof) : Row x.cells 99 := ⟨Proof.cells_length x, Proof.cells_one x⟩
instance (x : Proof) : RowAt x.cells 0 99 x.cells := .whole (Proof.cells_length x)
instance (x y : Proof) : SetAt x.cells 0 y.cells y.cells := .whole (by rw [Proof.cells_length, Proof.cells_length])
instance (x : Proof) : CellAt x.cells 0 (.int .i64 x.kind) := .mk' (pre := []) (post := ([.int .i64 x.depth] ++ x.leaf.cells ++ x.bitmap.cells ++ [.slice x.sibs.A x.sibs.n x.sibs.c])) (by simp [Leaf.cells, Proof.cells]) (by rfl)
instance (x : Proof) (y : Int) : SetAt x.cells 0 [.int .i64 y] ({ x with kind := y } : Proof).cells := .mk' (pre := []) (old := [.int .i64 x.kind]) (post := ([.int .i64 x.depth] ++ x.leaf.cells ++ x.bitmap.cells ++ [.slice x.sibs.A x.sibs.n x.sibs.c])) (by simp [Leaf.cells, Proof.cells]) (by simp [Leaf.cells, Proof.cells]) (by rfl) rfl
instance (x : Proof) : CellAt x.cells 1 (.int .i64 x.depth) := .mk' (pre := ([.int .i64 x.kind])) (post := (x.leaf.cells ++ x.bitmap.cells ++ [.slice x.sibs.A x.sibs.n x.sibs.c])) (by simp [Leaf.cells, Proof.cells]) (by simp [B32.cells_length, Leaf.cells_length, Item.cells_length])
instance (x : Proof) (y : Int) : SetAt x.cells 1 [.int .i64 y] ({ x with depth := y } : Proof).cells := .mk' (pre := ([.int .i64 x.kind])) (old := [.int .i64 x.depth]) (post := (x.leaf.cells ++ x.bitmap.cells ++ [.slice x.sibs.A x.sibs.n x.sibs.c])) (by simp [Leaf.cells, Proof.cells]) (by simp [Leaf.cells, Proof.cells]) (by simp [B32.cells_length, Leaf.cells_length, Item.cells_length]) rfl
instance (x : Proof) : RowAt x.cells 2 64 x.leaf.cells := .mk' (pre := ([.int .i64 x.kind] ++ [.int .i64 x.depth])) (post := (x.bitmap.cells ++ [.slice x.sibs.A x.sibs.n x.sibs.c])) (by simp [Proof.cells]) (by simp [B32.cells_length, Leaf.cells_length, Item.cells_length]) (Leaf.cells_length _)
instance (x : Proof) (y : Leaf) : SetAt x.cells 2 y.cells ({ x with leaf := y } : Proof).cells := .mk' (pre := ([.int .i64 x.kind] ++ [.int .i64 x.depth])) (old := x.leaf.cells) (post := (x.bitmap.cells ++ [.slice x.sibs.A x.sibs.n x.sibs.c])) (by simp [Proof.cells]) (by simp [Proof.cells]) (by simp [B32.cells_length, Leaf.cells_length, Item.cells_length]) (by rw [Leaf.cells_length, Leaf.cells_length])
instance (x : Proof) : RowAt x.cells 2 32 x.leaf.key.cells := .mk' (pre := ([.int .i64 x.kind] ++ [.int .i64 x.depth])) (post := (x.leaf.value.cells ++ x.bitmap.cells ++ [.slice x.sibs.A x.sibs.n x.sibs.c])) (by simp [Leaf.cells, Proof.cells]) (by simp [B32.cells_length, Leaf.cells_length, Item.cells_length]) (B32.cells_length _)
instance (x : Proof) (y : B32) : SetAt x.cells 2 y.cells ({ x with leaf.key := y } : Proof).cells := .mk' (pre := ([.int .i64 x.kind] ++ [.int .i64 x.depth])) (old := x.leaf.key.cells) (post := (x.leaf.value.cells ++ x.bitmap.cells ++ [.slice x.sibs.A x.sibs.n x.sibs.c])) (by simp [Leaf.cells, Proof.cells]) (by simp [Leaf.cells, Proof.cells]) (by simp [B32.cells_length, Leaf.cells_length, Item.cells_length]) (by rw [B32.cells_length, B32.cells_length])
instance (x : Proof) : RowAt x.cells 34 32 x.leaf.value.cells := .mk' (pre := ([.int .i64 x.kind] ++ [.int .i64 x.depth] ++ x.leaf.key.cells)) (post := (x.bitmap.cells ++ [.slice x.sibs.A x.sibs.n x.sibs.c])) (by simp [Leaf.cells, Proof.cells]) (by simp [B32.cells_length, Leaf.cells_length, Item.cells_length]) (B32.cells_length _)
instance (x : Proof) (y : B32) : SetAt x.cells 34 y.cells ({ x with leaf.value := y } : Proof).cells := .mk' (pre := ([.int .i64 x.kind] ++ [.int .i64 x.depth] ++ x.leaf.key.cells)) (old := x.leaf.value.cells) (post := (x.bitmap.cells ++ [.slice x.sibs.A x.sibs.n x.sibs.c])) (by simp [Leaf.cells, Proof.cells]) (by simp [Leaf.cells, Proof.cells]) (by simp [B32.cells_length, Leaf.cells_length, Item.cells_length]) (by rw [B32.cells_length, B32.cells_length])
instance (x : Proof) : RowAt x.cells 66 32 x.bitmap.cells := .mk' (pre := ([.int .i64 x.kind] ++ [.int .i64 x.depth] ++ x.leaf.cells)) (post := ([.slice x.sibs.A x.sibs.n x.sibs.c])) (by simp [Leaf.cells, Proof.cells]) (by simp [B32.cells_length, Leaf.cells_length, Item.cells_length]) (B32.cells_length _)
instance (x : Proof) (y : B32) : SetAt x.cells 66 y.cells ({ x with bitmap := y } : Proof).cells := .mk' (pre := ([.int .i64 x.kind] ++ [.int .i64 x.depth] ++ x.leaf.cells)) (old := x.bitmap.cells) (post := ([.slice x.sibs.A x.sibs.n x.sibs.c])) (by simp [Leaf.cells, Proof.cells]) (by simp [Leaf.cells, Proof.cells]) (by simp [B32.cells_length, Leaf.cells_length, Item.cells_length]) (by rw [B32.cells_length, B32.cells_length])
instance (x : Proof) : CellAt x.cells 98 (.slice x.sibs.A x.sibs.n x.sibs.c) := .mk' (pre := ([.int .i64 x.kind] ++ [.int .i64 x.depth] ++ x.leaf.cells ++ x.bitmap.cells)) (post := []) (by simp [Leaf.cells, Proof.cells]) (by simp [B32.cells_length, Leaf.cells_length, Item.cells_length])
instance (x : Proof) (A : Option Addr) (m c : Nat) : SetAt x.cells 98 [.slice A m c] ({ x with sibs := ⟨A, m, c⟩ } : Proof).cells := .mk' (pre := ([.int .i64 x.kind] ++ [.int .i64 x.depth] ++ x.leaf.cells ++ x.bitmap.cells)) (old := [.slice x.sibs.A x.sibs.n x.sibs.c]) (post := []) (by simp [Leaf.cells, Proof.cells]) (by simp [Leaf.cells, Proof.cells]) (by simp [B32.cells_length, Leaf.cells_length, Item.cells_length]) rfl
structure Entry where
 key : B32
 value : Sl
def Entry.cells (x : Entry) : List Value := x.key.cells ++ ([.slice x.value.A x.value.n x.value.c] ++ [])
def QcP : Entry := ⟨QN, ⟨none, 0, 0⟩⟩
theorem Entry.cells_length (x : Entry) : x.cells.length = 33 := by simp [Entry.cells, B32.cells_length, Leaf.cells_length, Item.cells_length]
theorem Entry.cells_one (x : Entry) : ∀ v ∈ x.cells, v.oneCell' = true := by
 intro v hv
 simp only [Entry.cells, List.mem_append, List.mem_singleton, List.not_mem_nil, or_false] at hv
 rcases hv with h | rfl
 ·exact B32.cells_one _ v h
 exact rfl
instance (x : Entry) : Row x.cells 33 := ⟨Entry.cells_length x, Entry.cells_one x⟩
instance (x : Entry) : RowAt x.cells 0 33 x.cells := .whole (Entry.cells_length x)
instance (x y : Entry) : SetAt x.cells 0 y.cells y.cells := .whole (by rw [Entry.cells_length, Entry.cells_length])
instance (x : Entry) : RowAt x.cells 0 32 x.key.cells := .mk' (pre := []) (post := ([.slice x.value.A x.value.n x.value.c])) (by simp [Entry.cells]) (by rfl) (B32.cells_length _)
instance (x : Entry) (y : B32) : SetAt x.cells 0 y.cells ({ x with key := y } : Entry).cells := .mk' (pre := []) (old := x.key.cells) (post := ([.slice x.value.A x.value.n x.value.c])) (by simp [Entry.cells]) (by simp [Entry.cells]) (by rfl) (by rw [B32.cells_length, B32.cells_length])
instance (x : Entry) : CellAt x.cells 32 (.slice x.value.A x.value.n x.value.c) := .mk' (pre := (x.key.cells)) (post := []) (by simp [Entry.cells]) (by simp [B32.cells_length, Leaf.cells_length, Item.cells_length])
instance (x : Entry) (A : Option Addr) (m c : Nat) : SetAt x.cells 32 [.slice A m c] ({ x with value := ⟨A, m, c⟩ } : Entry).cells := .mk' (pre := (x.key.cells)) (old := [.slice x.value.A x.value.n x.value.c]) (post := []) (by simp [Entry.cells]) (by simp [Entry.cells]) (by simp [B32.cells_length, Leaf.cells_length, Item.cells_length]) rfl
instance (x : Entry) (y : Sl) : SetAt x.cells 32 [.slice y.A y.n y.c] ({ x with value := y } : Entry).cells := .mk' (pre := (x.key.cells)) (old := [.slice x.value.A x.value.n x.value.c]) (post := []) (by simp [Entry.cells]) (by simp [Entry.cells]) (by simp [B32.cells_length, Leaf.cells_length, Item.cells_length]) rfl
structure Claim where
 key : Sl
 value : Sl
 present : Bool
def Claim.cells (x : Claim) : List Value := [.slice x.key.A x.key.n x.key.c] ++ ([.slice x.value.A x.value.n x.value.c] ++ ([.bool x.present] ++ []))
def Qah : Claim := ⟨⟨none, 0, 0⟩, ⟨none, 0, 0⟩, false⟩
theorem Claim.cells_length (x : Claim) : x.cells.length = 3 := by simp [Claim.cells, B32.cells_length, Leaf.cells_length, Item.cells_length]
theorem Claim.cells_one (x : Claim) : ∀ v ∈ x.cells, v.oneCell' = true := by
 intro v hv
 simp only [Claim.cells, List.mem_append, List.mem_singleton, List.not_mem_nil, or_false] at hv
 rcases hv with rfl | rfl | rfl
 ·exact rfl
 ·exact rfl
 exact rfl
instance (x : Claim) : Row x.cells 3 := ⟨Claim.cells_length x, Claim.cells_one x⟩
instance (x : Claim) : RowAt x.cells 0 3 x.cells := .whole (Claim.cells_length x)
instance (x y : Claim) : SetAt x.cells 0 y.cells y.cells := .whole (by rw [Claim.cells_length, Claim.cells_length])
instance (x : Claim) : CellAt x.cells 0 (.slice x.key.A x.key.n x.key.c) := .mk' (pre := []) (post := ([.slice x.value.A x.value.n x.value.c] ++ [.bool x.present])) (by simp [Claim.cells]) (by rfl)
instance (x : Claim) (A : Option Addr) (m c : Nat) : SetAt x.cells 0 [.slice A m c] ({ x with key := ⟨A, m, c⟩ } : Claim).cells := .mk' (pre := []) (old := [.slice x.key.A x.key.n x.key.c]) (post := ([.slice x.value.A x.value.n x.value.c] ++ [.bool x.present])) (by simp [Claim.cells]) (by simp [Claim.cells]) (by rfl) rfl
instance (x : Claim) : CellAt x.cells 1 (.slice x.value.A x.value.n x.value.c) := .mk' (pre := ([.slice x.key.A x.key.n x.key.c])) (post := ([.bool x.present])) (by simp [Claim.cells]) (by simp [B32.cells_length, Leaf.cells_length, Item.cells_length])
instance (x : Claim) (A : Option Addr) (m c : Nat) : SetAt x.cells 1 [.slice A m c] ({ x with value := ⟨A, m, c⟩ } : Claim).cells := .mk' (pre := ([.slice x.key.A x.key.n x.key.c])) (old := [.slice x.value.A x.value.n x.value.c]) (post := ([.bool x.present])) (by simp [Claim.cells]) (by simp [Claim.cells]) (by simp [B32.cells_length, Leaf.cells_length, Item.cells_length]) rfl
instance (x : Claim) : CellAt x.cells 2 (.bool x.present) := .mk' (pre := ([.slice x.key.A x.key.n x.key.c] ++ [.slice x.value.A x.value.n x.value.c])) (post := []) (by simp [Claim.cells]) (by simp [B32.cells_length, Leaf.cells_length, Item.cells_length])
instance (x : Claim) (y : Bool) : SetAt x.cells 2 [.bool y] ({ x with present := y } : Claim).cells := .mk' (pre := ([.slice x.key.A x.key.n x.key.c] ++ [.slice x.value.A x.value.n x.value.c])) (old := [.bool x.present]) (post := []) (by simp [Claim.cells]) (by simp [Claim.cells]) (by simp [B32.cells_length, Leaf.cells_length, Item.cells_length]) rfl
structure End where
 item : Item
 depth : Int
def End.cells (x : End) : List Value := x.item.cells ++ ([.int .i64 x.depth] ++ [])
theorem End.cells_length (x : End) : x.cells.length = 98 := by simp [End.cells, B32.cells_length, Leaf.cells_length, Item.cells_length]
structure Update where
 key : Sl
 value : Sl
 del : Bool
def Update.cells (x : Update) : List Value := [.slice x.key.A x.key.n x.key.c] ++ ([.slice x.value.A x.value.n x.value.c] ++ ([.bool x.del] ++ []))
def QaK : Update := ⟨⟨none, 0, 0⟩, ⟨none, 0, 0⟩, false⟩
theorem Update.cells_length (x : Update) : x.cells.length = 3 := by simp [Update.cells, B32.cells_length, Leaf.cells_length, Item.cells_length]
theorem Update.cells_one (x : Update) : ∀ v ∈ x.cells, v.oneCell' = true := by
 intro v hv
 simp only [Update.cells, List.mem_append, List.mem_singleton, List.not_mem_nil, or_false] at hv
 rcases hv with rfl | rfl | rfl
 ·exact rfl
 ·exact rfl
 exact rfl
instance (x : Update) : Row x.cells 3 := ⟨Update.cells_length x, Update.cells_one x⟩
instance (x : Update) (A : Option Addr) (m c : Nat) : SetAt x.cells 0 [.slice A m c] ({ x with key := ⟨A, m, c⟩ } : Update).cells := .mk' (pre := []) (old := [.slice x.key.A x.key.n x.key.c]) (post := ([.slice x.value.A x.value.n x.value.c] ++ [.bool x.del])) (by simp [Update.cells]) (by simp [Update.cells]) (by rfl) rfl
instance (x : Update) (y : Sl) : SetAt x.cells 0 [.slice y.A y.n y.c] ({ x with key := y } : Update).cells := .mk' (pre := []) (old := [.slice x.key.A x.key.n x.key.c]) (post := ([.slice x.value.A x.value.n x.value.c] ++ [.bool x.del])) (by simp [Update.cells]) (by simp [Update.cells]) (by rfl) rfl
instance (x : Update) (y : Sl) : SetAt x.cells 1 [.slice y.A y.n y.c] ({ x with value := y } : Update).cells := .mk' (pre := ([.slice x.key.A x.key.n x.key.c])) (old := [.slice x.value.A x.value.n x.value.c]) (post := ([.bool x.del])) (by simp [Update.cells]) (by simp [Update.cells]) (by simp [B32.cells_length, Leaf.cells_length, Item.cells_length]) rfl
instance (x : Update) (y : Bool) : SetAt x.cells 2 [.bool y] ({ x with del := y } : Update).cells := .mk' (pre := ([.slice x.key.A x.key.n x.key.c] ++ [.slice x.value.A x.value.n x.value.c])) (old := [.bool x.del]) (post := []) (by simp [Update.cells]) (by simp [Update.cells]) (by simp [B32.cells_length, Leaf.cells_length, Item.cells_length]) rfl
structure Change where
 key : B32
 value : Sl
 del : Bool
def Change.cells (x : Change) : List Value := x.key.cells ++ ([.slice x.value.A x.value.n x.value.c] ++ ([.bool x.del] ++ []))
def VI : Change := ⟨QN, ⟨none, 0, 0⟩, false⟩
theorem Change.cells_length (x : Change) : x.cells.length = 34 := by simp [Change.cells, B32.cells_length, Leaf.cells_length, Item.cells_length]
theorem Change.cells_one (x : Change) : ∀ v ∈ x.cells, v.oneCell' = true := by
 intro v hv
 simp only [Change.cells, List.mem_append, List.mem_singleton, List.not_mem_nil, or_false] at hv
 rcases hv with h | rfl | rfl
 ·exact B32.cells_one _ v h
 ·exact rfl
 exact rfl
instance (x : Change) : Row x.cells 34 := ⟨Change.cells_length x, Change.cells_one x⟩
instance (x : Change) : RowAt x.cells 0 34 x.cells := .whole (Change.cells_length x)
instance (x y : Change) : SetAt x.cells 0 y.cells y.cells := .whole (by rw [Change.cells_length, Change.cells_length])
instance (x : Change) : RowAt x.cells 0 32 x.key.cells := .mk' (pre := []) (post := ([.slice x.value.A x.value.n x.value.c] ++ [.bool x.del])) (by simp [Change.cells]) (by rfl) (B32.cells_length _)
instance (x : Change) (y : B32) : SetAt x.cells 0 y.cells ({ x with key := y } : Change).cells := .mk' (pre := []) (old := x.key.cells) (post := ([.slice x.value.A x.value.n x.value.c] ++ [.bool x.del])) (by simp [Change.cells]) (by simp [Change.cells]) (by rfl) (by rw [B32.cells_length, B32.cells_length])
instance (x : Change) (A : Option Addr) (m c : Nat) : SetAt x.cells 32 [.slice A m c] ({ x with value := ⟨A, m, c⟩ } : Change).cells := .mk' (pre := (x.key.cells)) (old := [.slice x.value.A x.value.n x.value.c]) (post := ([.bool x.del])) (by simp [Change.cells]) (by simp [Change.cells]) (by simp [B32.cells_length, Leaf.cells_length, Item.cells_length]) rfl
instance (x : Change) (y : Sl) : SetAt x.cells 32 [.slice y.A y.n y.c] ({ x with value := y } : Change).cells := .mk' (pre := (x.key.cells)) (old := [.slice x.value.A x.value.n x.value.c]) (post := ([.bool x.del])) (by simp [Change.cells]) (by simp [Change.cells]) (by simp [B32.cells_length, Leaf.cells_length, Item.cells_length]) rfl
instance (x : Change) : CellAt x.cells 33 (.bool x.del) := .mk' (pre := (x.key.cells ++ [.slice x.value.A x.value.n x.value.c])) (post := []) (by simp [Change.cells]) (by simp [B32.cells_length, Leaf.cells_length, Item.cells_length])
instance (x : Change) (y : Bool) : SetAt x.cells 33 [.bool y] ({ x with del := y } : Change).cells := .mk' (pre := (x.key.cells ++ [.slice x.value.A x.value.n x.value.c])) (old := [.bool x.del]) (post := []) (by simp [Change.cells]) (by simp [Change.cells]) (by simp [B32.cells_length, Leaf.cells_length, Item.cells_length]) rfl
structure Nd where
 c : Value
 dg : B32
def Nd.cells (x : Nd) : List Value := [x.c] ++ (x.dg.cells ++ [])
def zNd : Nd := ⟨.nilIface, QN⟩
theorem Nd.cells_length (x : Nd) : x.cells.length = 33 := by simp [Nd.cells, B32.cells_length, Leaf.cells_length, Item.cells_length]
instance (x : Nd) : CellAt x.cells 0 (x.c) := .mk' (pre := []) (post := (x.dg.cells)) (by simp [Nd.cells]) (by rfl)
instance (x : Nd) (y : Value) : SetAt x.cells 0 [y] ({ x with c := y } : Nd).cells := .mk' (pre := []) (old := [x.c]) (post := (x.dg.cells)) (by simp [Nd.cells]) (by simp [Nd.cells]) (by rfl) rfl
instance (x : Nd) : RowAt x.cells 1 32 x.dg.cells := .mk' (pre := ([x.c])) (post := []) (by simp [Nd.cells]) (by simp [B32.cells_length, Leaf.cells_length, Item.cells_length]) (B32.cells_length _)
instance (x : Nd) (y : B32) : SetAt x.cells 1 y.cells ({ x with dg := y } : Nd).cells := .mk' (pre := ([x.c])) (old := x.dg.cells) (post := []) (by simp [Nd.cells]) (by simp [Nd.cells]) (by simp [B32.cells_length, Leaf.cells_length, Item.cells_length]) (by rw [B32.cells_length, B32.cells_length])
structure NLeaf where
 leaf : Leaf
 value : Sl
def NLeaf.cells (x : NLeaf) : List Value := x.leaf.cells ++ ([.slice x.value.A x.value.n x.value.c] ++ [])
def Qbk : NLeaf := ⟨Yi, ⟨none, 0, 0⟩⟩
theorem NLeaf.cells_length (x : NLeaf) : x.cells.length = 65 := by simp [NLeaf.cells, B32.cells_length, Leaf.cells_length, Item.cells_length]
theorem NLeaf.cells_one (x : NLeaf) : ∀ v ∈ x.cells, v.oneCell' = true := by
 intro v hv
 simp only [NLeaf.cells, List.mem_append, List.mem_singleton, List.not_mem_nil, or_false] at hv
 rcases hv with h | rfl
 ·exact Leaf.cells_one _ v h
 exact rfl
instance (x : NLeaf) : Row x.cells 65 := ⟨NLeaf.cells_length x, NLeaf.cells_one x⟩
instance (x : NLeaf) : RowAt x.cells 0 65 x.cells := .whole (NLeaf.cells_length x)
instance (x y : NLeaf) : SetAt x.cells 0 y.cells y.cells := .whole (by rw [NLeaf.cells_length, NLeaf.cells_length])
instance (x : NLeaf) : RowAt x.cells 0 64 x.leaf.cells := .mk' (pre := []) (post := ([.slice x.value.A x.value.n x.value.c])) (by simp [NLeaf.cells]) (by rfl) (Leaf.cells_length _)
instance (x : NLeaf) (y : Leaf) : SetAt x.cells 0 y.cells ({ x with leaf := y } : NLeaf).cells := .mk' (pre := []) (old := x.leaf.cells) (post := ([.slice x.value.A x.value.n x.value.c])) (by simp [NLeaf.cells]) (by simp [NLeaf.cells]) (by rfl) (by rw [Leaf.cells_length, Leaf.cells_length])
instance (x : NLeaf) : RowAt x.cells 0 32 x.leaf.key.cells := .mk' (pre := []) (post := (x.leaf.value.cells ++ [.slice x.value.A x.value.n x.value.c])) (by simp [Leaf.cells, NLeaf.cells]) (by rfl) (B32.cells_length _)
instance (x : NLeaf) : CellAt x.cells 64 (.slice x.value.A x.value.n x.value.c) := .mk' (pre := (x.leaf.cells)) (post := []) (by simp [Leaf.cells, NLeaf.cells]) (by simp [B32.cells_length, Leaf.cells_length, Item.cells_length])
instance (x : NLeaf) (A : Option Addr) (m c : Nat) : SetAt x.cells 64 [.slice A m c] ({ x with value := ⟨A, m, c⟩ } : NLeaf).cells := .mk' (pre := (x.leaf.cells)) (old := [.slice x.value.A x.value.n x.value.c]) (post := []) (by simp [Leaf.cells, NLeaf.cells]) (by simp [Leaf.cells, NLeaf.cells]) (by simp [B32.cells_length, Leaf.cells_length, Item.cells_length]) rfl
structure NInner where
 l : Option Addr
 r : Option Addr
 dl : B32
 dr : B32
 n : Int
def NInner.cells (x : NInner) : List Value := [.pointer x.l] ++ ([.pointer x.r] ++ (x.dl.cells ++ (x.dr.cells ++ ([.int .i64 x.n] ++ []))))
def QaJ : NInner := ⟨none, none, QN, QN, 0⟩
theorem NInner.cells_length (x : NInner) : x.cells.length = 67 := by simp [NInner.cells, B32.cells_length, Leaf.cells_length, Item.cells_length]
theorem NInner.cells_one (x : NInner) : ∀ v ∈ x.cells, v.oneCell' = true := by
 intro v hv
 simp only [NInner.cells, List.mem_append, List.mem_singleton, List.not_mem_nil, or_false] at hv
 rcases hv with rfl | rfl | h | h | rfl
 ·exact rfl
 ·exact rfl
 ·exact B32.cells_one _ v h
 ·exact B32.cells_one _ v h
 exact rfl
instance (x : NInner) : Row x.cells 67 := ⟨NInner.cells_length x, NInner.cells_one x⟩
instance (x : NInner) : RowAt x.cells 0 67 x.cells := .whole (NInner.cells_length x)
instance (x y : NInner) : SetAt x.cells 0 y.cells y.cells := .whole (by rw [NInner.cells_length, NInner.cells_length])
instance (x : NInner) : RowAt x.cells 2 32 x.dl.cells := .mk' (pre := ([.pointer x.l] ++ [.pointer x.r])) (post := (x.dr.cells ++ [.int .i64 x.n])) (by simp [NInner.cells]) (by simp [B32.cells_length, Leaf.cells_length, Item.cells_length]) (B32.cells_length _)
instance (x : NInner) : RowAt x.cells 34 32 x.dr.cells := .mk' (pre := ([.pointer x.l] ++ [.pointer x.r] ++ x.dl.cells)) (post := ([.int .i64 x.n])) (by simp [NInner.cells]) (by simp [B32.cells_length, Leaf.cells_length, Item.cells_length]) (B32.cells_length _)
instance (x : NInner) : CellAt x.cells 66 (.int .i64 x.n) := .mk' (pre := ([.pointer x.l] ++ [.pointer x.r] ++ x.dl.cells ++ x.dr.cells)) (post := []) (by simp [NInner.cells]) (by simp [B32.cells_length, Leaf.cells_length, Item.cells_length])
instance (x : NInner) (y : Int) : SetAt x.cells 66 [.int .i64 y] ({ x with n := y } : NInner).cells := .mk' (pre := ([.pointer x.l] ++ [.pointer x.r] ++ x.dl.cells ++ x.dr.cells)) (old := [.int .i64 x.n]) (post := []) (by simp [NInner.cells]) (by simp [NInner.cells]) (by simp [B32.cells_length, Leaf.cells_length, Item.cells_length]) rfl
structure Chk where
 h : Option Addr
 root : Sl
 c : Claim
 b : Sl
 p : Proof
def Chk.cells (x : Chk) : List Value := [.pointer x.h] ++ ([.slice x.root.A x.root.n x.root.c] ++ (x.c.cells ++ ([.slice x.b.A x.b.n x.b.c] ++ (x.p.cells ++ []))))
def Qr1 : Chk := ⟨none, ⟨none, 0, 0⟩, Qah, ⟨none, 0, 0⟩, Jr⟩
theorem Chk.cells_length (x : Chk) : x.cells.length = 105 := by simp [Chk.cells, B32.cells_length, Leaf.cells_length, Item.cells_length, Claim.cells_length, Proof.cells_length]
theorem Chk.cells_one (x : Chk) : ∀ v ∈ x.cells, v.oneCell' = true := by
 intro v hv
 simp only [Chk.cells, List.mem_append, List.mem_singleton, List.not_mem_nil, or_false] at hv
 rcases hv with rfl | rfl | h | rfl | h
 ·exact rfl
 ·exact rfl
 ·exact Claim.cells_one _ v h
 ·exact rfl
 exact Proof.cells_one _ v h
instance (x : Chk) : Row x.cells 105 := ⟨Chk.cells_length x, Chk.cells_one x⟩
instance (x : Chk) : RowAt x.cells 0 105 x.cells := .whole (Chk.cells_length x)
instance (x : Chk) : CellAt x.cells 0 (.pointer x.h) := .mk' (pre := []) (post := ([.slice x.root.A x.root.n x.root.c] ++ x.c.cells ++ [.slice x.b.A x.b.n x.b.c] ++ x.p.cells)) (by simp [Leaf.cells, Claim.cells, Proof.cells, Chk.cells]) (by rfl)
instance (x : Chk) (y : Option Addr) : SetAt x.cells 0 [.pointer y] ({ x with h := y } : Chk).cells := .mk' (pre := []) (old := [.pointer x.h]) (post := ([.slice x.root.A x.root.n x.root.c] ++ x.c.cells ++ [.slice x.b.A x.b.n x.b.c] ++ x.p.cells)) (by simp [Leaf.cells, Claim.cells, Proof.cells, Chk.cells]) (by simp [Leaf.cells, Claim.cells, Proof.cells, Chk.cells]) (by rfl) rfl
instance (x : Chk) : CellAt x.cells 1 (.slice x.root.A x.root.n x.root.c) := .mk' (pre := ([.pointer x.h])) (post := (x.c.cells ++ [.slice x.b.A x.b.n x.b.c] ++ x.p.cells)) (by simp [Leaf.cells, Claim.cells, Proof.cells, Chk.cells]) (by simp [B32.cells_length, Leaf.cells_length, Claim.cells_length, Proof.cells_length])
instance (x : Chk) (A : Option Addr) (m c : Nat) : SetAt x.cells 1 [.slice A m c] ({ x with root := ⟨A, m, c⟩ } : Chk).cells := .mk' (pre := ([.pointer x.h])) (old := [.slice x.root.A x.root.n x.root.c]) (post := (x.c.cells ++ [.slice x.b.A x.b.n x.b.c] ++ x.p.cells)) (by simp [Leaf.cells, Claim.cells, Proof.cells, Chk.cells]) (by simp [Leaf.cells, Claim.cells, Proof.cells, Chk.cells]) (by simp [B32.cells_length, Leaf.cells_length, Claim.cells_length, Proof.cells_length]) rfl
instance (x : Chk) (y : Sl) : SetAt x.cells 1 [.slice y.A y.n y.c] ({ x with root := y } : Chk).cells := .mk' (pre := ([.pointer x.h])) (old := [.slice x.root.A x.root.n x.root.c]) (post := (x.c.cells ++ [.slice x.b.A x.b.n x.b.c] ++ x.p.cells)) (by simp [Leaf.cells, Claim.cells, Proof.cells, Chk.cells]) (by simp [Leaf.cells, Claim.cells, Proof.cells, Chk.cells]) (by simp [B32.cells_length, Leaf.cells_length, Claim.cells_length, Proof.cells_length]) rfl
instance (x : Chk) (y : Claim) : SetAt x.cells 2 y.cells ({ x with c := y } : Chk).cells := .mk' (pre := ([.pointer x.h] ++ [.slice x.root.A x.root.n x.root.c])) (old := x.c.cells) (post := ([.slice x.b.A x.b.n x.b.c] ++ x.p.cells)) (by simp [Leaf.cells, Proof.cells, Chk.cells]) (by simp [Leaf.cells, Proof.cells, Chk.cells]) (by simp [B32.cells_length, Leaf.cells_length, Claim.cells_length, Proof.cells_length]) (by rw [Claim.cells_length, Claim.cells_length])
instance (x : Chk) : CellAt x.cells 2 (.slice x.c.key.A x.c.key.n x.c.key.c) := .mk' (pre := ([.pointer x.h] ++ [.slice x.root.A x.root.n x.root.c])) (post := ([.slice x.c.value.A x.c.value.n x.c.value.c] ++ [.bool x.c.present] ++ [.slice x.b.A x.b.n x.b.c] ++ x.p.cells)) (by simp [Leaf.cells, Claim.cells, Proof.cells, Chk.cells]) (by simp [B32.cells_length, Leaf.cells_length, Claim.cells_length, Proof.cells_length])
instance (x : Chk) : CellAt x.cells 3 (.slice x.c.value.A x.c.value.n x.c.value.c) := .mk' (pre := ([.pointer x.h] ++ [.slice x.root.A x.root.n x.root.c] ++ [.slice x.c.key.A x.c.key.n x.c.key.c])) (post := ([.bool x.c.present] ++ [.slice x.b.A x.b.n x.b.c] ++ x.p.cells)) (by simp [Leaf.cells, Claim.cells, Proof.cells, Chk.cells]) (by simp [B32.cells_length, Leaf.cells_length, Claim.cells_length, Proof.cells_length])
instance (x : Chk) : CellAt x.cells 4 (.bool x.c.present) := .mk' (pre := ([.pointer x.h] ++ [.slice x.root.A x.root.n x.root.c] ++ [.slice x.c.key.A x.c.key.n x.c.key.c] ++ [.slice x.c.value.A x.c.value.n x.c.value.c])) (post := ([.slice x.b.A x.b.n x.b.c] ++ x.p.cells)) (by simp [Leaf.cells, Claim.cells, Proof.cells, Chk.cells]) (by simp [B32.cells_length, Leaf.cells_length, Claim.cells_length, Proof.cells_length])
instance (x : Chk) : CellAt x.cells 5 (.slice x.b.A x.b.n x.b.c) := .mk' (pre := ([.pointer x.h] ++ [.slice x.root.A x.root.n x.root.c] ++ x.c.cells)) (post := (x.p.cells)) (by simp [Leaf.cells, Claim.cells, Proof.cells, Chk.cells]) (by simp [B32.cells_length, Leaf.cells_length, Claim.cells_length, Proof.cells_length])
instance (x : Chk) (y : Sl) : SetAt x.cells 5 [.slice y.A y.n y.c] ({ x with b := y } : Chk).cells := .mk' (pre := ([.pointer x.h] ++ [.slice x.root.A x.root.n x.root.c] ++ x.c.cells)) (old := [.slice x.b.A x.b.n x.b.c]) (post := (x.p.cells)) (by simp [Leaf.cells, Claim.cells, Proof.cells, Chk.cells]) (by simp [Leaf.cells, Claim.cells, Proof.cells, Chk.cells]) (by simp [B32.cells_length, Leaf.cells_length, Claim.cells_length, Proof.cells_length]) rfl
instance (x : Chk) : RowAt x.cells 6 99 x.p.cells := .mk' (pre := ([.pointer x.h] ++ [.slice x.root.A x.root.n x.root.c] ++ x.c.cells ++ [.slice x.b.A x.b.n x.b.c])) (post := []) (by simp [Leaf.cells, Claim.cells, Chk.cells]) (by simp [B32.cells_length, Leaf.cells_length, Claim.cells_length, Proof.cells_length]) (Proof.cells_length _)
instance (x : Chk) (y : Proof) : SetAt x.cells 6 y.cells ({ x with p := y } : Chk).cells := .mk' (pre := ([.pointer x.h] ++ [.slice x.root.A x.root.n x.root.c] ++ x.c.cells ++ [.slice x.b.A x.b.n x.b.c])) (old := x.p.cells) (post := []) (by simp [Leaf.cells, Claim.cells, Chk.cells]) (by simp [Leaf.cells, Claim.cells, Chk.cells]) (by simp [B32.cells_length, Leaf.cells_length, Claim.cells_length, Proof.cells_length]) (by rw [Proof.cells_length, Proof.cells_length])
end
section
open Go.RowKit
class TB (P : Program) (T : TypeId) (z : outParam (List Value)) (pl : outParam (Nat → Option (Nat × Nat))) : Prop where
 run : ∀ (w : World) (ps : List (Nat × Value)) (cells : Array Value), Instr.fill pl z.toArray ps = some cells → (Instr.build T ps.toArray).run P w = .ok (.agg cells) w
class Place (pl : Nat → Option (Nat × Nat)) (i : Nat) (off n : outParam Nat) : Prop where
 eq : pl i = some (off, n)
def Qb0 (n : Nat) : Nat → Option (Nat × Nat) := fun i => some (i * n, n)
instance (n i : Nat) : Place (Qb0 n) i (i * n) n := ⟨rfl⟩
class Fills (pl : Nat → Option (Nat × Nat)) (cs : List Value) (ps : List (Nat × Value)) (out : outParam (List Value)) : Prop where
 eq : Instr.fill pl cs.toArray ps = some out.toArray
instance (pl : Nat → Option (Nat × Nat)) (cs : List Value) : Fills pl cs [] cs := ⟨rfl⟩
instance (pl : Nat → Option (Nat × Nat)) (cs cs' out new : List Value) (i off n : Nat) (v : Value) (ps : List (Nat × Value)) [hp : Place pl i off n] [hv : VCells v new] [hn : Row new n] [hs : SetAt cs off new cs'] [hf : Fills pl cs' ps out] : Fills pl cs ((i, v) :: ps) out := by
 have hl := hn.len
 have hfit := hs.fit
 refine ⟨?_⟩
 rw [Qfx pl _ i v ps off n hp.eq (by rw [hv.eq]; simpa using hl) (by simp; omega), ← hf.eq, hs.eq, hv.eq]
 simp [hl]
theorem Yy {v : Value} (h : v.oneCell' = true) : Row [v] 1 := ⟨rfl, by simpa using h⟩
instance (k : IntKind) (n : Int) : Row [.int k n] 1 := Yy rfl
instance (b : Bool) : Row [.bool b] 1 := Yy rfl
instance (s : ByteArray) : Row [.string s] 1 := Yy rfl
instance (p : Option Addr) : Row [.pointer p] 1 := Yy rfl
instance (A : Option Addr) (n c : Nat) : Row [.slice A n c] 1 := Yy rfl
instance (t : TypeId) (v : Value) : Row [.iface t v] 1 := Yy rfl
instance : Row [.nilFunc] 1 := Yy rfl
instance (f : Fn) (c d : Array Value) : Row [.func f c d] 1 := Yy rfl
instance : Row [] 0 := ⟨rfl, by simp⟩
instance (priority := 50) (v : Value) (l : List Value) (n : Nat) [h : Row [v] 1] [k : Row l n] : Row (v :: l) (n + 1) := ⟨by simp [k.len], fun u hu => (List.mem_cons.1 hu).elim (fun e => h.one u (by simp [e])) (k.one u)⟩
instance (priority := 50) (cs new : List Value) (n : Nat) [h : Row cs n] [k : Row new n] : SetAt cs 0 new new := .whole (by rw [h.len, k.len])
instance (priority := 50) (cs : List Value) (n : Nat) [h : Row cs n] : RowAt cs 0 n cs := .whole h.len
instance (priority := 40) (cs : List Value) : RowAt cs 0 0 [] := ⟨fun j v hv => by simp at hv, rfl⟩
instance (priority := 40) (v : Value) (cs out : List Value) (n : Nat) [h : RowAt cs 0 n out] : RowAt (v :: cs) 0 (n + 1) (v :: out) := ⟨fun j u hu => by
 cases j with
 | zero => simpa using hu
 | succ j => have := h.at_ j u (by simpa using hu); rw [Nat.zero_add] at this ⊢; simpa using this, by simp [h.len]⟩
instance (priority := 40) (v : Value) (cs out : List Value) (off n : Nat) [h : RowAt cs off n out] : RowAt (v :: cs) (off + 1) n out := ⟨fun j u hu => by
 have := h.at_ j u hu
 rw [Nat.add_right_comm]; simpa using this, h.len⟩
class TEq (P : Program) (T : TypeId) (xs ys : List Value) (p : outParam Bool) : Prop where
 eq : ∀ (w : World) (d : Nat), (Op.equalIn (d + 6) T (.agg xs.toArray) (.agg ys.toArray)).run P w = .ok p w
 guard : P.eqGuardType P.depth T = false
section
variable {P : Program} {a : Act} {w : World} {o : Oper}
theorem QqB {T : TypeId} {z out : List Value} {pl : Nat → Option (Nat × Nat)} [hT : TB P T z pl] {l : List (Nat × Operand)} {ps : List (Nat × Value)} (ho : o.op = .build T l.toArray) (hp : (l.map fun p => (p.1, a.eval p.2)) = ps) [hf : Fills pl z ps out] :
  (execOp a.eval o).run P w = .ok (.value (.agg out.toArray)) w := QkW ho ps hp (hT.run w ps _ hf.eq)
theorem QrJ {T T' : TypeId} {x y : Operand} {xs ys : List Value} {p : Bool} (ho : o.op = .binOp .eql T x y T') (hx : a.eval x = .agg xs.toArray) (hy : a.eval y = .agg ys.toArray) [h : TEq P T xs ys p] :
  (execOp a.eval o).run P w = .ok (.value (.bool p)) w := QpJ ho hx hy h.guard (by rw [run_eql_struct, h.eq w 9994]; rfl)
theorem QrS {T T' : TypeId} {x y : Operand} {xs ys : List Value} {p : Bool} (ho : o.op = .binOp .neq T x y T') (hx : a.eval x = .agg xs.toArray) (hy : a.eval y = .agg ys.toArray) [h : TEq P T xs ys p] :
  (execOp a.eval o).run P w = .ok (.value (.bool (!p))) w := QpK ho hx hy h.guard (by rw [run_neq_struct, h.eq w 9994]; rfl)
end
section
variable {P : Program} {X : List Nat} {w0 w : World} {L L' : List Fc} {a : Act} {ops : Array Oper} {rest : List Oper} {Q : Exit → Act → World → Prop} {d : Option Tmp} {ty : TypeId} {pos : String} {af : Array Edge}
theorem QdS {base : Nat} {t ty e : TypeId} {i : TypeInfo} {z : Value} {size bytes : Nat} (ht : P.underlying t = some (.slice e)) (hi : P.info? e = some i) (hz : i.zero = some z)
  (hsize : i.size = size) (hby : i.bytes = bytes) {v : Value} {n : Nat} {xs : List Value} (hown : w.ownsRow base e size v n xs)
  {a : Addr} {m c : Nat} {news : List Value} (hl : news.length = m * size) (hnews : ∀ j u, news[j]? = some u → w.cell? (a.add j) = some u) (h1 : ∀ u ∈ news, u.oneCell' = true)
  (h63 : n + m ≤ maxLen) (hbytes : (n + m) * bytes ≤ 140737488355328) {v' : Value} {w' : World} (hr : (Builtin.append_ #[t, t] ty #[v, .slice (some a) m c]).run P w = .ok v' w') (hnil : v' = .slice none 0 0 ↔ v = .slice none 0 0 ∧ m = 0) :
  v'.ownBlock = v.ownBlock ∨ v'.ownBlock = some w.heap.size := by
 subst hsize hby
 have hsmall : n + m ≤ 9223372036854775807 := by simp only [maxLen] at h63; omega
 rcases hown.2 with ⟨rfl, rfl⟩ | ⟨g, cap, cur, rfl, hbg, hg, hnc, hcm, hcs, htake⟩
 ·by_cases hm : m = 0
  ·rw [hnil.2 ⟨rfl, hm⟩]; exact .inl rfl
  have hr2 := run_append_nil (P := P) w t ty e i z ht hi hz a m c news hl hnews (by omega) (by omega) (by have hb := hbytes; simp only [Nat.zero_add] at hb; omega)
  rw [hr2] at hr
  injection hr with hr _
  rw [← hr]
  exact .inr rfl
 by_cases hroom : n + m ≤ cap
 ·have hfit : n * i.size + news.length ≤ cur.size := by rw [hl, hcs, ← Nat.add_mul]; exact Nat.mul_le_mul_right _ hroom
  have hr2 := run_append_room (P := P) w t ty e i ht hi g n cap cur hg a m c news hl hnews h1 hroom hfit
  rw [hr2] at hr
  injection hr with hr _
  rw [← hr]
  exact .inl rfl
 have holds : ∀ j u, xs[j]? = some u → w.cell? ((⟨g, 0, none⟩ : Addr).add j) = some u := hown.cells (g := g) rfl
 have hr2 := run_append_grow (P := P) w t ty e i z ht hi hz ⟨g, 0, none⟩ n cap xs hown.1 holds a m c news hl hnews (by omega) (by omega) (growslice_fits (by omega) hbytes)
 rw [hr2] at hr
 injection hr with hr _
 rw [← hr]
 exact .inr rfl
theorem Qit {o : Oper} {s x : Operand} {t e : TypeId} {size bytes : Nat} {z : Value} (ho : o.op = .call { callee := .builtin .append, args := #[s, x], argTypes := #[t, t] }) (E : ElT P t e size bytes z)
  {base n : Nat} {v : Value} {xs : List Value} (hs : a.eval s = v) (hown : w.ownsRow base e size v n xs) {A : Option Addr} {m c : Nat} {news : List Value} (hx : a.eval x = .slice A m c) (hA : A = none → m = 0 ∧ c = 0) (hl : news.length = m * size) (hr : Rd w A news)
  (h1 : ∀ u ∈ news, u.oneCell' = true) (hb : (n + m) * bytes ≤ 140737488355328) (hbase : base ≤ w.heap.size) :
  ∃ v' w', (execOp a.eval o).run P w = .ok (.value v') w' ∧ w'.ownsRow base e size v' (n + m) (xs ++ news) ∧ w.grownBy w' v.ownBlock ∧ (v'.ownBlock = v.ownBlock ∨ v'.ownBlock = some w.heap.size) := by
 obtain ⟨i, hi, hz, hsz, hby⟩ := info_parts E.hi
 have hnm : n + m ≤ maxLen := by
  have : n + m ≤ (n + m) * bytes := Nat.le_mul_of_pos_right _ E.hb
  unfold maxLen
  omega
 cases A with
 | none =>
  obtain ⟨rfl, rfl⟩ := hA rfl
  have hn0 : news = [] := List.eq_nil_of_length_eq_zero (by simpa using hl)
  subst hn0
  have hrun := run_append_owned_none (P := P) w base t o.type e i size E.ht hi v n xs hown
  refine ⟨v, w, ?_, by simpa using hown, World.grownBy.refl _ _, .inl rfl⟩
  unfold execOp
  simp only [ho, resolve, invoke, builtin, Sem.run_bind, Sem.run_pure, Result.andThen_ok, List.map_toArray, List.map_cons, List.map_nil, hs, hx, hrun]
 | some ad =>
  have hnews : ∀ j u, news[j]? = some u → w.cell? (ad.add j) = some u := fun j u hu => by
   obtain ⟨b, o', e, hc⟩ := hr j u hu
   obtain rfl := Option.some.inj e
   rw [Addr.add_mid]
   exact hc
  obtain ⟨v', w', hrun, h2, h3, h4⟩ := run_append_own (P := P) w base t o.type e i z size bytes E.ht hi hz hsz hby E.hz E.h0 v n xs hown ad m c news hl hnews h1 hnm hb hbase
  refine ⟨v', w', ?_, h2, h3, QdS E.ht hi hz hsz hby hown hl hnews h1 hnm hb hrun h4⟩
  unfold execOp
  simp only [ho, resolve, invoke, builtin, Sem.run_bind, Sem.run_pure, Result.andThen_ok, List.map_toArray, List.map_cons, List.map_nil, hs, hx, hrun]
end
end
end Go.Proofs.YtjhlbbgikccclaaGreatDoor
