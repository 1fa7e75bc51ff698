/- Operations on a map, updates in any order: plain; Sorted changes: where a key stands, a leaf's change among them, halves. Their cells. Plain; Arguments of the laws of trees, opened: updates, operations; Rows of one's own: room behind them, their tail cleared, an append of zeros that moves them. Strings joined and cut; batch: keys, check; the library's Clone, IndexFunc, DeleteFunc, BinarySearchFunc over changes; bytes.Equal; the entry of a leaf; find.Get, find.Way; extract.True (joined texts: E38 E39 TT N25 U168 U140) -/
import Derived.Test.YtjhlbbgikccclaaGreatDoorR9
import Derived.Lib.AppendZerosOnto
import Derived.Lib.Overlaps
import Derived.Laws.IdiomStrings
import Derived.Laws.BytesString
set_option linter.all false
/- E38 -/
namespace Go.Proofs.YtjhlbbgikccclaaGreatDoor
open Go.RowKit
theorem cmpL_swap : ∀ (a b : List UInt8), cmpL b a = - cmpL a b
 | [], [] => rfl
 | [], _ :: _ => rfl
 | _ :: _, [] => rfl
 | x :: a, y :: b => by
  unfold cmpL
  by_cases h : x < y
  ·rw [if_pos h, if_neg (fun h' : y < x => UInt8.lt_asymm h h'), if_pos h]; rfl
  ·by_cases h' : y < x
   ·rw [if_pos h', if_neg h, if_pos h']
   ·rw [if_neg h', if_neg h, if_neg h, if_neg h']; exact cmpL_swap a b
theorem cmpB_swap (a b : B32) : cmpB b a = - cmpB a b := cmpL_swap _ _
theorem ltK_irrefl (a : B32) : ¬ ltK a a := fun ⟨i, _, _, h3, h4⟩ => by rw [h3] at h4; cases h4
theorem cmpB_tri (a b : B32) (h : ¬ cmpB a b < 0) : a = b ∨ ltK b a := by
 by_cases h0 : cmpB a b = 0
 ·exact .inl (cmpB_eq.1 h0)
 ·exact .inr (ltK_of (by rw [cmpB_swap]; omega))
theorem ltK_cmp {a b : B32} (h : ltK a b) : cmpB a b < 0 := by
 by_cases h0 : cmpB a b < 0
 ·exact h0
 ·rcases cmpB_tri a b h0 with rfl | h1
  ·exact (ltK_irrefl a h).elim
  ·exact (ltK_irrefl a (ltK_trans h h1)).elim
def OrdM (m : List En) : Prop := (m.map En.key).Pairwise ltK
theorem OrdM.nil : OrdM [] := List.Pairwise.nil
theorem OrdM.nodup {m : List En} (h : OrdM m) : (m.map En.key).Nodup := List.Pairwise.imp (fun {a b} (hab : ltK a b) (e : a = b) => ltK_irrefl b (e ▸ hab)) h
theorem OrdM.alike {m : List En} (h : OrdM m) : Alike m 0 := Alike.start h.nodup
theorem OrdM.rem {m : List En} (h : OrdM m) (k : B32) : OrdM (remK m k) := List.Pairwise.sublist ((List.filter_sublist).map _) h
theorem insE_ord {e : En} : ∀ {l : List En}, OrdM l → (∀ f ∈ l, f.key ≠ e.key) → OrdM (insE e l)
 | [], _, _ => List.pairwise_singleton ..
 | g :: l, h, hn => by
  unfold OrdM at h ⊢
  have h0 := h
  rw [List.map_cons] at h
  obtain ⟨h1, h2⟩ := List.pairwise_cons.1 h
  unfold insE
  by_cases hc : cmpB e.key g.key < 0
  ·rw [if_pos hc, List.map_cons]
   have he := ltK_of hc
   refine List.pairwise_cons.2 ⟨fun x hx => ?_, h0⟩
   rw [List.map_cons] at hx
   rcases List.mem_cons.1 hx with rfl | hx
   ·exact he
   ·exact ltK_trans he (h1 x hx)
  ·rw [if_neg hc, List.map_cons]
   have hg : ltK g.key e.key := (cmpB_tri e.key g.key hc).resolve_left fun h0 => hn g (List.mem_cons_self ..) h0.symm
   refine List.pairwise_cons.2 ⟨fun x hx => ?_, insE_ord h2 fun f hf => hn f (List.mem_cons_of_mem _ hf)⟩
   obtain ⟨f, hf, rfl⟩ := List.mem_map.1 hx
   rcases insE_mem.1 hf with rfl | hf
   ·exact hg
   ·exact h1 _ (List.mem_map_of_mem hf)
theorem OrdM.put {m : List En} (h : OrdM m) (e : En) : OrdM (putM m e) := insE_ord (h.rem e.key) fun f hf => by simpa [remK] using (List.mem_filter.1 hf).2
def enU (x : CB) : En := ⟨⟨keyOf x.kb, x.c.value⟩, x.vb⟩
def stepU (m : List En) (x : CB) : List En := if x.c.present then remK m (keyOf x.kb) else putM m (enU x)
def applyU (m : List En) (l : List CB) : List En := l.foldl stepU m
def chU (x : CB) : Chg := ⟨⟨⟨keyOf x.kb, if x.c.present then ⟨none, 0, 0⟩ else x.c.value⟩, if x.c.present then [] else x.vb⟩, x.c.present⟩
theorem applyC_perm {m m' : List En} {l l' : List Chg} (hm : m.Perm m') (hl : l.Perm l') : (applyC m l).Perm (applyC m' l') := by
 have hh : ∀ k, hasC l k = hasC l' k := fun k => by
  unfold hasC
  rw [Bool.eq_iff_iff, List.any_eq_true, List.any_eq_true]
  exact ⟨fun ⟨x, h1, h2⟩ => ⟨x, hl.mem_iff.1 h1, h2⟩, fun ⟨x, h1, h2⟩ => ⟨x, hl.mem_iff.2 h1, h2⟩⟩
 unfold applyC
 refine ((hm.filter _).trans (List.Perm.of_eq (List.filter_congr fun e _ => by rw [hh]))).append ((hl.filter _).map _)
theorem stepU_applyC {m : List En} {x : CB} {l : List Chg} (h : hasC l (keyOf x.kb) = false) : (applyC (stepU m x) l).Perm (applyC m (chU x :: l)) := by
 have hrem : (remK m (keyOf x.kb)).filter (fun e => !hasC l e.key) = m.filter fun e => !hasC (chU x :: l) e.key := by
  unfold remK
  rw [List.filter_filter]
  apply List.filter_congr
  intro e _
  show (!hasC l e.key && decide (e.key ≠ keyOf x.kb)) = !(decide (keyOf x.kb = e.key) || hasC l e.key)
  by_cases hk : e.key = keyOf x.kb
  ·rw [show decide (e.key ≠ keyOf x.kb) = false from decide_eq_false fun h => h hk, show decide (keyOf x.kb = e.key) = true from decide_eq_true hk.symm]; simp
  ·rw [show decide (e.key ≠ keyOf x.kb) = true from decide_eq_true hk, show decide (keyOf x.kb = e.key) = false from decide_eq_false fun h => hk h.symm]; simp
 cases hp : x.c.present
 ·have h1 : stepU m x = putM m (enU x) := by unfold stepU; rw [if_neg (by simp [hp])]
  have h2 : (chU x).del = false := hp
  have h3 : (chU x).e = enU x := by unfold chU enU; simp [hp]
  rw [h1]
  refine (applyC_perm (putM_perm m (enU x)) (.refl l)).trans ?_
  unfold applyC
  rw [List.filter_cons_of_pos (by show (!hasC l (keyOf x.kb)) = true; rw [h]; rfl), List.filter_cons_of_pos (by rw [h2]; rfl), List.map_cons, h3, show (enU x).key = keyOf x.kb from rfl, hrem]
  exact List.perm_middle.symm
 ·have h1 : stepU m x = remK m (keyOf x.kb) := by unfold stepU; rw [if_pos hp]
  have h2 : (chU x).del = true := hp
  rw [h1]
  unfold applyC
  rw [hrem, List.filter_cons_of_neg (by rw [h2]; decide)]
theorem applyU_perm : ∀ (l : List CB) (m : List En), (l.map fun x => keyOf x.kb).Nodup → (applyU m l).Perm (applyC m (l.map chU))
 | [], m, _ => by rw [List.map_nil, applyC_nil]; exact .refl _
 | x :: l, m, h => by
  rw [List.map_cons, List.nodup_cons] at h
  refine (applyU_perm l (stepU m x) h.2).trans (stepU_applyC ?_)
  unfold hasC
  rw [Bool.eq_false_iff]
  intro ht
  obtain ⟨c, hc, hk⟩ := List.any_eq_true.1 ht
  obtain ⟨y, hy, rfl⟩ := List.mem_map.1 hc
  exact h.1 (List.mem_map.2 ⟨y, hy, of_decide_eq_true hk⟩)
theorem stepU_ord {m : List En} (h : OrdM m) (x : CB) : OrdM (stepU m x) := by
 unfold stepU
 split
 ·exact h.rem _
 ·exact h.put _
theorem stepU_len (m : List En) (x : CB) : (stepU m x).length ≤ m.length + 1 := by
 unfold stepU
 split
 ·exact Nat.le_trans (remK_le m _) (Nat.le_succ _)
 ·exact putM_len m _
theorem applyU_ord : ∀ (l : List CB) {m : List En}, OrdM m → OrdM (applyU m l)
 | [], _, h => h
 | x :: l, _, h => applyU_ord l (stepU_ord h x)
theorem applyU_len : ∀ (l : List CB) (m : List En), (applyU m l).length ≤ m.length + l.length
 | [], m => Nat.le_refl _
 | x :: l, m => by
  have h1 := applyU_len l (stepU m x)
  have h2 := stepU_len m x
  show (applyU (stepU m x) l).length ≤ _
  rw [List.length_cons]
  omega
theorem putM_vals {h : Zh} {m : List En} {e : En} (hv : ValsZ h m) (hs : SlZ h e.e.value e.val) (hl : e.val.length ≤ 10000000) : ValsZ h (putM m e) := fun f hf => by
 rcases putM_mem hf with rfl | hf
 ·exact ⟨hs, hl⟩
 ·exact hv f hf
theorem remK_vals {h : Zh} {m : List En} (hv : ValsZ h m) (k : B32) : ValsZ h (remK m k) := fun f hf => hv f (List.mem_filter.1 hf).1
theorem applyU_vals {h : Zh} : ∀ (l : List CB) {m : List En}, ValsZ h m → (∀ x ∈ l, SlZ h x.c.value x.vb ∧ x.vb.length ≤ 10000000) → ValsZ h (applyU m l)
 | [], _, hv, _ => hv
 | x :: l, m, hv, hl => by
  refine applyU_vals l (m := stepU m x) ?_ fun y hy => hl y (List.mem_cons_of_mem _ hy)
  unfold stepU
  split
  ·exact remK_vals hv _
  ·exact putM_vals hv (hl x (List.mem_cons_self ..)).1 (hl x (List.mem_cons_self ..)).2
def vlU (x : CB) : Nat := if x.c.present then 0 else x.vb.length
def entU (x : CB) : Int := entE x.kb.length (vlU x)
def errU (l : List CB) (i : Nat) : Int :=
 if entU (l.getD i zCB) = 0 then (if (l.take i).any (fun y => decide (y.kb = (l.getD i zCB).kb)) then 9 else 0) else entU (l.getD i zCB)
def checkU (l : List CB) : Option (Nat × Int) := firstF (errU l) l.length 0
theorem entE_key {kn vn : Nat} (h : entE kn vn = 0) : kn = 32 := by
 unfold entE at h
 split at h
 ·assumption
 ·cases h
theorem keyOf_inj {a b : List UInt8} (ha : a.length = 32) (hb : b.length = 32) (h : keyOf a = keyOf b) : a = b := by
 unfold keyOf at h
 rw [dif_pos ha, dif_pos hb] at h
 exact congrArg Subtype.val h
theorem errU_len {l : List CB} {i : Nat} (h : errU l i = 0) : (l.getD i zCB).kb.length = 32 := by
 unfold errU at h
 split at h
 ·rename_i h1; exact entE_key h1
 ·rename_i h1; exact (h1 h).elim
theorem errU_diff {l : List CB} {i : Nat} (h : errU l i = 0) {y : CB} (hy : y ∈ l.take i) : y.kb ≠ (l.getD i zCB).kb := fun e => by
 unfold errU at h
 split at h
 ·split at h
  ·cases h
  ·rename_i h2
   exact h2 (List.any_eq_true.2 ⟨y, hy, decide_eq_true e⟩)
 ·rename_i h1; exact h1 h
theorem nodup_snoc {α : Type} {l : List α} {x : α} (h : l.Nodup) (hx : x ∉ l) : (l ++ [x]).Nodup := by
 rw [List.nodup_append]
 refine ⟨h, by simp, fun a ha b hb e => ?_⟩
 rw [List.mem_singleton.1 hb] at e
 exact hx (e ▸ ha)
theorem keysU_nodup {l : List CB} : ∀ i, i ≤ l.length → (∀ j, j < i → errU l j = 0) → ((l.take i).map fun x => keyOf x.kb).Nodup
 | 0, _, _ => by simp
 | i + 1, hi, h => by
  have hx := getD_get zCB (l := l) (k := i) (by omega)
  rw [take_snocE hx, List.map_append, List.map_cons, List.map_nil]
  refine nodup_snoc (keysU_nodup i (by omega) fun j hj => h j (by omega)) fun hm => ?_
  obtain ⟨y, hy, hk⟩ := List.mem_map.1 hm
  obtain ⟨j, hj, hyj⟩ := List.getElem_of_mem hy
  rw [List.length_take] at hj
  have hyl : (l.getD j zCB) = y := by
   rw [List.getElem_take] at hyj
   rw [List.getD_eq_getElem?_getD, List.getElem?_eq_getElem (by omega)]
   exact hyj
  have h1 := errU_len (h j (by omega))
  rw [hyl] at h1
  exact errU_diff (h i (by omega)) hy (keyOf_inj h1 (errU_len (h i (by omega))) hk)
theorem checkU_none {l : List CB} (h : checkU l = none) : ∀ j, j < l.length → errU l j = 0 := fun j hj => firstF_zero _ _ _ h j (Nat.zero_le _) (by omega)
theorem checkU_nodup {l : List CB} (h : checkU l = none) : (l.map fun x => keyOf x.kb).Nodup := by
 have := keysU_nodup (l := l) l.length (Nat.le_refl _) fun j hj => checkU_none h j hj
 rwa [List.take_length] at this
structure OpV where
 kind : Int
 key : Sl
 val : Sl
 batch : Sl
 kb : List UInt8
 vb : List UInt8
 us : List CB
abbrev OpV.cells (o : OpV) : List Value := [.int .i64 o.kind, .slice o.key.A o.key.n o.key.c, .slice o.val.A o.val.n o.val.c, .slice o.batch.A o.batch.n o.batch.c]
theorem OpV.cells_length (o : OpV) : o.cells.length = 4 := rfl
def doM (m : List En) (o : OpV) : List En :=
 if o.kind = 0 then (if entE o.kb.length o.vb.length = 0 then putM m ⟨⟨keyOf o.kb, o.val⟩, o.vb⟩ else m)
 else if o.kind = 1 then m
 else if o.kind = 2 then (if o.kb.length = 32 then remK m (keyOf o.kb) else m)
 else (match checkU o.us with | none => applyU m o.us | some _ => m)
structure OpZ (h : Zh) (o : OpV) : Prop where
 key : SlZ h o.key o.kb
 val : SlZ h o.val o.vb
 n : o.batch.n = o.us.length
 cap : o.batch.n ≤ o.batch.c
 rd : RdZ h o.batch.A (cbs o.us)
 us : ClsZ h o.us
theorem OpZ.mono {h h' : Zh} (hl : LeZ h h') {o : OpV} (x : OpZ h o) : OpZ h' o := ⟨x.key.mono hl, x.val.mono hl, x.n, x.cap, x.rd.mono hl, x.us.mono hl⟩
def opsC (l : List OpV) : List Value := l.flatMap OpV.cells
def OpsZ (h : Zh) (l : List OpV) : Prop := ∀ o ∈ l, OpZ h o
theorem OpsZ.mono {h h' : Zh} (hl : LeZ h h') {l : List OpV} (x : OpsZ h l) : OpsZ h' l := fun o ho => (x o ho).mono hl
def fewU (l : List CB) : Bool := decide (l.length ≤ 20) && (l.all fun x => decide (x.kb.length ≤ 100 ∧ x.vb.length ≤ 70000)) && decide ((l.filter fun x => decide (300 < x.vb.length)).length ≤ 2)
def fewO (o : OpV) : Bool := decide (o.kb.length ≤ 100 ∧ o.vb.length ≤ 70000) && fewU o.us
theorem fewU_len {l : List CB} (h : fewU l = true) : l.length ≤ 20 := by
 unfold fewU at h
 rw [Bool.and_eq_true, Bool.and_eq_true] at h
 exact of_decide_eq_true h.1.1
theorem fewU_val {l : List CB} (h : fewU l = true) {x : CB} (hx : x ∈ l) : x.kb.length ≤ 100 ∧ x.vb.length ≤ 70000 := by
 unfold fewU at h
 rw [Bool.and_eq_true, Bool.and_eq_true, List.all_eq_true] at h
 exact of_decide_eq_true (h.1.2 x hx)
theorem fewO_val {o : OpV} (h : fewO o = true) : (o.kb.length ≤ 100 ∧ o.vb.length ≤ 70000) ∧ fewU o.us = true := by
 unfold fewO at h
 rw [Bool.and_eq_true] at h
 exact ⟨of_decide_eq_true h.1, h.2⟩
theorem doM_ord {m : List En} (h : OrdM m) (o : OpV) : OrdM (doM m o) := by
 unfold doM
 split
 ·split
  ·exact h.put _
  ·exact h
 ·split
  ·exact h
  ·split
   ·split
    ·exact h.rem _
    ·exact h
   ·split
    ·exact applyU_ord _ h
    ·exact h
theorem doM_len {m : List En} {o : OpV} (hf : fewO o = true) : (doM m o).length ≤ m.length + 20 := by
 have h1 := fewU_len (fewO_val hf).2
 have h2 := putM_len m ⟨⟨keyOf o.kb, o.val⟩, o.vb⟩
 have h3 := remK_le m (keyOf o.kb)
 have h4 := applyU_len o.us m
 unfold doM
 split
 ·split <;> omega
 ·split
  ·omega
  ·split
   ·split <;> omega
   ·split <;> omega
theorem doM_vals {h : Zh} {m : List En} {o : OpV} (hv : ValsZ h m) (hz : OpZ h o) (hf : fewO o = true) : ValsZ h (doM m o) := by
 obtain ⟨⟨_, h1⟩, h2⟩ := fewO_val hf
 unfold doM
 split
 ·split
  ·exact putM_vals hv hz.val (by dsimp only; omega)
  ·exact hv
 ·split
  ·exact hv
  ·split
   ·split
    ·exact remK_vals hv _
    ·exact hv
   ·split
    ·exact applyU_vals _ hv fun x hx => ⟨(hz.us x hx).2, by have := (fewU_val h2 hx).2; omega⟩
    ·exact hv
def doL (l : List OpV) (m : List En) : List En := l.foldl doM m
def kvE' (e : En) : B32 × List UInt8 := (e.key, e.val)
theorem part_kv (d : Nat) (b : Bool) : ∀ {m m' : List En}, m.map kvE' = m'.map kvE' → (part m d b).map kvE' = (part m' d b).map kvE'
 | [], [], _ => rfl
 | [], _ :: _, h => by cases h
 | _ :: _, [], h => by cases h
 | e :: m, f :: m', h => by
  rw [List.map_cons, List.map_cons] at h
  injection h with h1 h2
  have hk : e.key = f.key := congrArg Prod.fst h1
  have ih := part_kv d b h2
  unfold part at ih ⊢
  by_cases hb : (bitAt e.key d == b) = true
  ·rw [List.filter_cons_of_pos (p := fun e : En => bitAt e.key d == b) hb, List.filter_cons_of_pos (p := fun e : En => bitAt e.key d == b) (by rw [← hk]; exact hb), List.map_cons, List.map_cons, h1, ih]
  ·rw [List.filter_cons_of_neg (p := fun e : En => bitAt e.key d == b) hb, List.filter_cons_of_neg (p := fun e : En => bitAt e.key d == b) (by rw [← hk]; exact hb), ih]
theorem mkF_kv : ∀ (f : Nat) {m m' : List En} (d : Nat), m.map kvE' = m'.map kvE' → mkF f m d = mkF f m' d
 | 0, _, _, _, _ => rfl
 | f + 1, m, m', d, h => by
  match m, m', h with
  | [], [], _ => rfl
  | [], _ :: _, h => simp at h
  | _ :: _, [], h => simp at h
  | [e], [e'], h =>
   have h1 : kvE' e = kvE' e' := by simpa using h
   show Tr.leaf e.key e.val = Tr.leaf e'.key e'.val
   rw [show e.key = e'.key from congrArg Prod.fst h1, show e.val = e'.val from congrArg Prod.snd h1]
  | [_], _ :: _ :: _, h => simp at h
  | _ :: _ :: _, [_], h => simp at h
  | a :: b :: l, a' :: b' :: l', h =>
   show Tr.node (mkF f (part (a :: b :: l) d false) (d + 1)) (mkF f (part (a :: b :: l) d true) (d + 1)) = Tr.node (mkF f (part (a' :: b' :: l') d false) (d + 1)) (mkF f (part (a' :: b' :: l') d true) (d + 1))
   rw [mkF_kv f (d + 1) (part_kv d false h), mkF_kv f (d + 1) (part_kv d true h)]
theorem mkT_kv {m m' : List En} (h : m.map kvE' = m'.map kvE') (d : Nat) : mkT m d = mkT m' d := mkF_kv _ d h
end Go.Proofs.YtjhlbbgikccclaaGreatDoor
/- E39 -/
namespace Go.Proofs.YtjhlbbgikccclaaGreatDoor
open Go.RowKit
theorem rws_at {α : Type} {f : α → List Value} {k : Nat} (hk : ∀ x, (f x).length = k) : ∀ {l : List α} {i : Nat} {x : α}, l[i]? = some x → ∀ j v, (f x)[j]? = some v → (l.flatMap f)[i * k + j]? = some v
 | [], _, _, h, _, _, _ => by simp at h
 | y :: l, i, x, h, j, v, hv => by
  rw [List.flatMap_cons]
  cases i with
  | zero =>
   obtain rfl : y = x := by simpa using h
   rw [Nat.zero_mul, Nat.zero_add, List.getElem?_append_left (List.getElem?_eq_some_iff.1 hv).1]
   exact hv
  | succ i =>
   rw [List.getElem?_append_right (by rw [hk, Nat.succ_mul]; omega), hk, show (i + 1) * k + j - k = i * k + j by rw [Nat.succ_mul]; omega]
   exact rws_at hk (by simpa using h) j v hv
theorem rws_len {α : Type} {f : α → List Value} {k : Nat} (hk : ∀ x, (f x).length = k) : ∀ l : List α, (l.flatMap f).length = l.length * k
 | [] => by simp
 | x :: l => by rw [List.flatMap_cons, List.length_append, hk, rws_len hk l, List.length_cons, Nat.succ_mul]; omega
theorem rws_one {α : Type} {f : α → List Value} (h1 : ∀ x, ∀ v ∈ f x, v.oneCell' = true) (l : List α) : ∀ v ∈ l.flatMap f, v.oneCell' = true := fun v hv => by
 obtain ⟨x, -, h⟩ := List.mem_flatMap.1 hv
 exact h1 x v h
theorem rws_set {α : Type} {f : α → List Value} {k : Nat} (hk : ∀ x, (f x).length = k) : ∀ {l : List α} {i : Nat} (x : α), i < l.length → (l.flatMap f).take (i * k) ++ f x ++ (l.flatMap f).drop (i * k + k) = (l.set i x).flatMap f
 | [], _, _, h => by simp at h
 | y :: l, 0, x, _ => by
  rw [List.flatMap_cons, List.set_cons_zero, List.flatMap_cons, Nat.zero_mul, List.take_zero, List.nil_append, Nat.zero_add, List.drop_append_of_le_length (by rw [hk]; exact Nat.le_refl _), List.drop_of_length_le (by rw [hk]; exact Nat.le_refl _), List.nil_append]
 | y :: l, i + 1, x, h => by
  rw [List.flatMap_cons, List.set_cons_succ, List.flatMap_cons, ← rws_set hk x (show i < l.length by simpa using h)]
  rw [show (i + 1) * k = (f y).length + i * k by rw [hk, Nat.succ_mul]; omega, List.take_length_add_append, show (f y).length + i * k + k = (f y).length + (i * k + k) by omega, List.drop_length_add_append]
  simp [List.append_assoc]
theorem rws_take {α : Type} {f : α → List Value} {k : Nat} (hk : ∀ x, (f x).length = k) (l : List α) (i : Nat) : (l.flatMap f).take (i * k) = (l.take i).flatMap f := by
 have e : l.flatMap f = (l.take i).flatMap f ++ (l.drop i).flatMap f := by rw [← List.flatMap_append, List.take_append_drop]
 rcases Nat.lt_or_ge l.length i with h | h
 ·rw [List.take_of_length_le (by rw [rws_len hk]; exact Nat.mul_le_mul_right _ (by omega)), List.take_of_length_le (by omega)]
 ·rw [e, List.take_append_of_le_length (by rw [rws_len hk, List.length_take, Nat.min_eq_left h]; exact Nat.le_refl _), List.take_of_length_le (by rw [rws_len hk, List.length_take, Nat.min_eq_left h]; exact Nat.le_refl _)]
theorem rws_drop {α : Type} {f : α → List Value} {k : Nat} (hk : ∀ x, (f x).length = k) (l : List α) (i : Nat) : (l.flatMap f).drop (i * k) = (l.drop i).flatMap f := by
 have e : l.flatMap f = (l.take i).flatMap f ++ (l.drop i).flatMap f := by rw [← List.flatMap_append, List.take_append_drop]
 rcases Nat.lt_or_ge l.length i with h | h
 ·rw [List.drop_of_length_le (by rw [rws_len hk]; exact Nat.mul_le_mul_right _ (by omega)), List.drop_of_length_le (by omega)]
  rfl
 ·have hl : ((l.take i).flatMap f).length = i * k := by rw [rws_len hk, List.length_take, Nat.min_eq_left h]
  rw [e, ← hl, List.drop_left]
theorem rws_takeZ {α : Type} {f : α → List Value} {k : Nat} (hk : ∀ x, (f x).length = k) {h : Zh} {A : Option Addr} {l : List α} (hr : RdZ h A (l.flatMap f)) (m : Nat) : RdZ h A ((l.take m).flatMap f) := by
 refine ⟨fun j v hv => hr.at_ j v ?_⟩
 rw [← rws_take hk] at hv
 rw [List.getElem?_take] at hv
 split at hv
 ·exact hv
 ·cases hv
theorem rws_dropZ {α : Type} {f : α → List Value} {k : Nat} (hk : ∀ x, (f x).length = k) {h : Zh} {A : Option Addr} {l : List α} {c m : Nat} (hr : RdZ h A (l.flatMap f)) (hc : l.length ≤ c) : RdZ h (cutA A c m k) ((l.drop m).flatMap f) := by
 unfold cutA
 split
 ·have : l.drop m = [] := List.drop_of_length_le (by omega)
  rw [this]
  exact RdZ.nil _ _
 ·refine ⟨fun j v hv => ?_⟩
  rw [← rws_drop hk, List.getElem?_drop] at hv
  obtain ⟨b, o, rfl, h2⟩ := hr.at_ (m * k + j) v hv
  exact ⟨b, o + m * k, by simp [Addr.add_mid], by rw [Nat.add_assoc]; exact h2⟩
def Chg.st (c : Chg) : Change := ⟨c.e.e.key, c.e.e.value, c.del⟩
def zChg : Chg := ⟨⟨⟨zB32, ⟨none, 0, 0⟩⟩, []⟩, false⟩
def Chg.cells (c : Chg) : List Value := c.st.cells
theorem Chg.cells_length (c : Chg) : c.cells.length = 34 := Change.cells_length _
theorem Chg.cells_one (c : Chg) : ∀ v ∈ c.cells, v.oneCell' = true := Change.cells_one _
def chgs (l : List Chg) : List Value := l.flatMap Chg.cells
theorem chgs_len (l : List Chg) : (chgs l).length = l.length * 34 := rws_len Chg.cells_length l
theorem chgs_one (l : List Chg) : ∀ v ∈ chgs l, v.oneCell' = true := rws_one Chg.cells_one l
theorem chgs_at {l : List Chg} {i : Nat} {x : Chg} (h : l[i]? = some x) : ∀ j v, x.st.cells[j]? = some v → (chgs l)[i * 34 + j]? = some v := rws_at Chg.cells_length h
theorem chgs_key {l : List Chg} {i : Nat} {x : Chg} (h : l[i]? = some x) : ∀ j v, x.key.cells[j]? = some v → (chgs l)[i * 34 + j]? = some v := fun j v hv =>
 chgs_at h j v (by
  show (x.e.e.key.cells ++ _)[j]? = some v
  rw [List.getElem?_append_left (List.getElem?_eq_some_iff.1 hv).1]
  exact hv)
theorem chgs_val {l : List Chg} {i : Nat} {x : Chg} (h : l[i]? = some x) : (chgs l)[i * 34 + 32]? = some (.slice x.e.e.value.A x.e.e.value.n x.e.e.value.c) :=
 chgs_at h 32 _ (by
  show (x.e.e.key.cells ++ ([.slice x.e.e.value.A x.e.e.value.n x.e.e.value.c] ++ ([.bool x.del] ++ [])))[32]? = _
  rw [List.getElem?_append_right (by rw [B32.cells_length]; omega), B32.cells_length]
  rfl)
theorem chgs_app (l m : List Chg) : chgs l ++ chgs m = chgs (l ++ m) := by unfold chgs; rw [List.flatMap_append]
theorem getC {l : List Chg} {k : Nat} (h : k < l.length) : l[k]? = some (l.getD k zChg) := by rw [List.getD_eq_getElem?_getD, List.getElem?_eq_getElem h]; rfl
def OrdC (l : List Chg) : Prop := (l.map Chg.key).Pairwise ltK
theorem OrdC.sub {l l' : List Chg} (h : OrdC l) (hs : l'.Sublist l) : OrdC l' := List.Pairwise.sublist (hs.map _) h
theorem hasC_no {l : List Chg} {k : B32} (h : ∀ c ∈ l, c.key ≠ k) : hasC l k = false := by
 unfold hasC
 rw [Bool.eq_false_iff]
 intro ht
 obtain ⟨c, hc, hk⟩ := List.any_eq_true.1 ht
 exact h c hc (of_decide_eq_true hk)
structure AtC (l : List Chg) (k : B32) (a : Nat) : Prop where
 le : a ≤ l.length
 lt : ∀ j, j < l.length → (cmpB (l.getD j zChg).key k < 0 ↔ j < a)
 has : hasC l k = true ↔ a < l.length ∧ (l.getD a zChg).key = k
 ord : hasC l k = false → ∀ e : En, e.key = k → OrdC (l.take a ++ [⟨e, false⟩] ++ l.drop a)
theorem atC : ∀ {l : List Chg} (k : B32), OrdC l → ∃ a, AtC l k a
 | [], k, _ => ⟨0, Nat.le_refl _, fun j hj => by simp at hj, by simp [hasC], fun _ e _ => List.pairwise_singleton ..⟩
 | c :: l, k, h => by
  have hh := h
  unfold OrdC at h
  rw [List.map_cons] at h
  obtain ⟨h1, h2⟩ := List.pairwise_cons.1 h
  by_cases hc : cmpB c.key k < 0
  ·obtain ⟨a, a1, a2, a3, a4⟩ := atC (l := l) k h2
   have hne : c.key ≠ k := fun e => by
    have h3 := ltK_of hc
    rw [e] at h3
    exact ltK_irrefl k h3
   have hcons : hasC (c :: l) k = hasC l k := by
    show (decide (c.key = k) || hasC l k) = _
    rw [decide_eq_false hne, Bool.false_or]
   refine ⟨a + 1, by simp; omega, fun j hj => ?_, ?_, fun hn e he => ?_⟩
   ·cases j with
    | zero => exact ⟨fun _ => by omega, fun _ => hc⟩
    | succ j =>
     rw [List.getD_cons_succ]
     have := a2 j (by simpa using hj)
     exact ⟨fun h => by have := this.1 h; omega, fun h => this.2 (by omega)⟩
   ·rw [hcons, a3, List.getD_cons_succ, List.length_cons]
    exact ⟨fun ⟨x, y⟩ => ⟨by omega, y⟩, fun ⟨x, y⟩ => ⟨by omega, y⟩⟩
   ·rw [hcons] at hn
    have ih := a4 hn e he
    rw [List.take_succ_cons, List.drop_succ_cons, List.cons_append, List.cons_append]
    refine List.pairwise_cons.2 ⟨fun x hx => ?_, ih⟩
    obtain ⟨y, hy, rfl⟩ := List.mem_map.1 hx
    rcases List.mem_append.1 hy with hy | hy
    ·rcases List.mem_append.1 hy with hy | hy
     ·exact h1 _ (List.mem_map_of_mem (List.mem_of_mem_take hy))
     ·rw [List.mem_singleton.1 hy]
      show ltK c.key e.key
      rw [he]; exact ltK_of hc
    ·exact h1 _ (List.mem_map_of_mem (List.mem_of_mem_drop hy))
  ·have hge : ∀ x ∈ l, ltK k x.key := fun x hx => by
    rcases cmpB_tri c.key k hc with e | e
    ·exact e ▸ h1 _ (List.mem_map_of_mem hx)
    ·exact ltK_trans e (h1 _ (List.mem_map_of_mem hx))
   have hnl : hasC l k = false := hasC_no fun x hx e => ltK_irrefl k (by have := hge x hx; rwa [e] at this)
   have hcons : hasC (c :: l) k = decide (c.key = k) := by
    show (decide (c.key = k) || hasC l k) = _
    rw [hnl, Bool.or_false]
   refine ⟨0, Nat.zero_le _, fun j hj => ⟨fun h3 => ?_, fun h3 => by omega⟩, ?_, fun hn e he => ?_⟩
   ·cases j with
    | zero => exact (hc h3).elim
    | succ j =>
     have hj' : j < l.length := by simpa using hj
     rw [List.getD_cons_succ] at h3
     have hm : l.getD j zChg ∈ l := by rw [List.getD_eq_getElem?_getD, List.getElem?_eq_getElem hj']; exact List.getElem_mem hj'
     exact (ltK_irrefl k (ltK_trans (hge _ hm) (ltK_of h3))).elim
   ·rw [hcons, decide_eq_true_iff]
    exact ⟨fun h => ⟨by simp, h⟩, fun h => h.2⟩
   ·rw [hcons] at hn
    have hne : c.key ≠ k := of_decide_eq_false hn
    have hk : ltK k c.key := (cmpB_tri c.key k hc).resolve_left hne
    rw [List.take_zero, List.drop_zero, List.nil_append]
    refine List.pairwise_cons.2 ⟨fun x hx => ?_, hh⟩
    obtain ⟨y, hy, rfl⟩ := List.mem_map.1 hx
    show ltK e.key y.key
    rw [he]
    rcases List.mem_cons.1 hy with rfl | hy
    ·exact hk
    ·exact hge y hy
theorem applyC_merge {e e' : En} {l : List Chg} {a : Nat} (hk : e'.key = e.key) (hv : e'.val = e.val) (h : hasC l e.key = false) (d : Nat) : mkT (applyC [] (l.take a ++ [⟨e', false⟩] ++ l.drop a)) d = mkT (applyC [e] l) d := by
 have h1 : (applyC [] (l.take a ++ [⟨e', false⟩] ++ l.drop a)).Perm (e' :: (l.filter fun c => !c.del).map Chg.e) := by
  unfold applyC
  rw [List.filter_nil, List.nil_append]
  have h2 : (l.take a ++ [(⟨e', false⟩ : Chg)] ++ l.drop a).Perm (⟨e', false⟩ :: l) := by
   have h3 : (l.take a ++ [(⟨e', false⟩ : Chg)] ++ l.drop a).Perm (⟨e', false⟩ :: (l.take a ++ l.drop a)) := by
    rw [List.append_assoc]
    exact List.perm_middle
   rwa [List.take_append_drop] at h3
  refine ((h2.filter _).map _).trans ?_
  rw [List.filter_cons_of_pos (by rfl)]
  exact .refl _
 rw [mkT_perm h1 d]
 have h4 : applyC [e] l = e :: (l.filter fun c => !c.del).map Chg.e := by
  unfold applyC
  rw [List.filter_cons_of_pos (by rw [h]; rfl)]
  rfl
 rw [h4]
 refine mkT_kv ?_ d
 rw [List.map_cons, List.map_cons]
 unfold kvE'
 rw [hk, hv]
theorem applyC_has {e : En} {l : List Chg} (h : hasC l e.key = true) : applyC [e] l = applyC [] l := by
 unfold applyC
 rw [List.filter_cons_of_neg (by rw [h]; decide)]
def putsC (l : List Chg) : List Chg := l.filter fun c => !c.del
theorem applyC_puts (l : List Chg) : applyC [] l = (putsC l).map Chg.e := rfl
theorem putsC_puts {l : List Chg} (h : ∀ c ∈ l, c.del = false) : putsC l = l := List.filter_eq_self.2 fun c hc => by rw [h c hc]; rfl
theorem putsC_del {l : List Chg} : ∀ c ∈ putsC l, c.del = false := fun c hc => by
 have := (List.mem_filter.1 hc).2
 cases hd : c.del
 ·rfl
 ·rw [hd] at this; cases this
theorem applyC_putsC (l : List Chg) : applyC [] (putsC l) = applyC [] l := by rw [applyC_puts, applyC_puts, putsC_puts putsC_del]
def AlC (l : List Chg) (m : List En) (d : Nat) : Prop := AlikeK (l.map Chg.key ++ m.map En.key) d
theorem AlC.keys {l : List Chg} {m : List En} {d : Nat} (h : AlC l m d) : AlikeK (l.map Chg.key) d := fun a ha b hb => h a (List.mem_append_left _ ha) b (List.mem_append_left _ hb)
theorem AlC.part {l : List Chg} {m : List En} {d : Nat} (h : AlC l m d) (b : Bool) : AlC (partC l d b) (part m d b) (d + 1) := by
 have hm : ∀ a ∈ (partC l d b).map Chg.key ++ (Go.Proofs.YtjhlbbgikccclaaGreatDoor.part m d b).map En.key, a ∈ l.map Chg.key ++ m.map En.key ∧ bitAt a d = b := fun a ha => by
  rcases List.mem_append.1 ha with ha | ha
  ·obtain ⟨c, hc, rfl⟩ := List.mem_map.1 ha
   obtain ⟨h1, h2⟩ := List.mem_filter.1 hc
   exact ⟨List.mem_append_left _ (List.mem_map_of_mem h1), eq_of_beq h2⟩
  ·obtain ⟨c, hc, rfl⟩ := List.mem_map.1 ha
   obtain ⟨h1, h2⟩ := part_mem.1 hc
   exact ⟨List.mem_append_right _ (List.mem_map_of_mem h1), h2⟩
 intro a ha a' ha' i hi
 obtain ⟨h1, h2⟩ := hm a ha
 obtain ⟨h3, h4⟩ := hm a' ha'
 rcases Nat.lt_or_ge i d with h5 | h5
 ·exact h a h1 a' h3 i h5
 ·obtain rfl : i = d := by omega
  rw [h2, h4]
theorem AlC.mono {l l' : List Chg} {m m' : List En} {d : Nat} (h : AlC l m d) (hs : ∀ a ∈ l'.map Chg.key ++ m'.map En.key, a ∈ l.map Chg.key ++ m.map En.key) : AlC l' m' d := fun a ha b hb => h a (hs a ha) b (hs b hb)
theorem cut_at {l : List Chg} {d : Nat} (ho : OrdC l) (ha : AlikeK (l.map Chg.key) d) : ∃ m, m ≤ l.length ∧ (∀ j, j < (l.map Chg.key).length → bitAt ((l.map Chg.key).getD j zB32) d = decide (m ≤ j)) ∧ l.take m = partC l d false ∧ l.drop m = partC l d true := by
 obtain ⟨m, h1, h2, h3, h4⟩ := split_at ho ha
 rw [List.length_map] at h1
 have hb : ∀ j (hj : j < l.length), bitAt l[j].key d = decide (m ≤ j) := fun j hj => by
  have := h2 j (by rw [List.length_map]; exact hj)
  rwa [List.getD_eq_getElem?_getD, List.getElem?_eq_getElem (by rw [List.length_map]; exact hj), Option.getD_some, List.getElem_map] at this
 have hA : ∀ c ∈ l.take m, bitAt c.key d = false := fun c hc => by
  obtain ⟨j, hj, rfl⟩ := List.getElem_of_mem hc
  rw [List.length_take] at hj
  rw [List.getElem_take, hb j (by omega)]
  exact decide_eq_false (by omega)
 have hB : ∀ c ∈ l.drop m, bitAt c.key d = true := fun c hc => by
  obtain ⟨j, hj, rfl⟩ := List.getElem_of_mem hc
  rw [List.length_drop] at hj
  rw [List.getElem_drop, hb (m + j) (by omega)]
  exact decide_eq_true (by omega)
 refine ⟨m, h1, h2, ?_, ?_⟩
 all_goals
  unfold partC
  conv => rhs; rw [← List.take_append_drop m l]
  rw [List.filter_append]
 ·rw [List.filter_eq_self.2 fun c hc => by rw [hA c hc]; rfl, List.filter_eq_nil_iff.2 fun c hc => by rw [hB c hc]; decide, List.append_nil]
 ·rw [List.filter_eq_nil_iff.2 fun c hc => by rw [hA c hc]; decide, List.filter_eq_self.2 fun c hc => by rw [hB c hc]; rfl, List.nil_append]
theorem OrdC.last {l : List Chg} {d : Nat} (ho : OrdC l) (ha : AlikeK (l.map Chg.key) d) (hd : 256 ≤ d) : l.length ≤ 1 := by
 match l, ho, ha with
 | [], _, _ => simp
 | [_], _, _ => simp
 | a :: b :: l, ho, ha =>
  have h1 : ltK a.key b.key := (List.pairwise_cons.1 ho).1 _ (by simp)
  have h2 : a.key = b.key := bits_ext fun i hi => ha a.key (by simp) b.key (by simp) i (by omega)
  exact (ltK_irrefl b.key (h2 ▸ h1)).elim
def ChsZ (h : Zh) (l : List Chg) : Prop := ∀ c ∈ l, SlZ h c.e.e.value c.e.val ∧ c.e.val.length ≤ 10000000
theorem ChsZ.mono {h h' : Zh} (hl : LeZ h h') {l : List Chg} (x : ChsZ h l) : ChsZ h' l := fun c hc => ⟨(x c hc).1.mono hl, (x c hc).2⟩
theorem ChsZ.sub {h : Zh} {l l' : List Chg} (x : ChsZ h l) (hs : l' ⊆ l) : ChsZ h l' := fun c hc => x c (hs hc)
def costB (L d : Nat) : Nat := 4 * (L * (257 - d))
theorem costB_step (L1 L2 d : Nat) (hd : d < 256) (h : 0 < L1 + L2) : costB L1 (d + 1) + costB L2 (d + 1) + 4 ≤ costB (L1 + L2) d := by
 unfold costB
 obtain ⟨q, hq⟩ : ∃ q, 257 - (d + 1) = q := ⟨_, rfl⟩
 rw [hq, show 257 - d = q + 1 by omega, Nat.mul_add, Nat.add_mul]
 omega
theorem costB_one (d : Nat) (hd : d ≤ 256) : 4 ≤ costB 1 d := by unfold costB; omega
theorem costB_le (L L' d : Nat) (h : L ≤ L') : costB L d ≤ costB L' d := by unfold costB; exact Nat.mul_le_mul_left _ (Nat.mul_le_mul_right _ h)
theorem costB_max (L d : Nat) : costB L d ≤ 1028 * L := by
 unfold costB
 have : L * (257 - d) ≤ L * 257 := Nat.mul_le_mul_left _ (by omega)
 omega
end Go.Proofs.YtjhlbbgikccclaaGreatDoor
/- TT -/
namespace Go.Proofs.YtjhlbbgikccclaaGreatDoor
open Go.RowKit Go.ChangeShapes Go.WideShapes
section
variable {H : Type} {enc : TypeId × Value → H} {w : World} {base : Nat} {spare : Nat → Bool} {held : Bool} {v : Value} {d : DataW H} {ps : List MemPlace} {r : Reach} {b0 : Nat}
instance iCBInhT : Inhabited CB := ⟨zCB⟩
instance iOpInhT : Inhabited OpV := ⟨⟨0, ⟨none, 0, 0⟩, ⟨none, 0, 0⟩, ⟨none, 0, 0⟩, [], [], []⟩⟩
theorem c_Update : Tryz.prog.cellsOf 39 = 3 := by kernel_rfl
theorem c_Op : Tryz.prog.cellsOf 85 = 4 := by kernel_rfl
theorem c_updates : Tryz.prog.cellsOf 28 = 1 := by kernel_rfl
theorem c_intT : Tryz.prog.cellsOf 3 = 1 := by kernel_rfl
theorem updFields : ∃ f1 f2 f3 : Field, Tryz.prog.underlying 39 = some (.struct #[f1, f2, f3]) ∧ f1.type = 35 ∧ f2.type = 35 ∧ f3.type = 4 ∧ f1.offset = 0 ∧ f2.offset = 1 ∧ f3.offset = 2 :=
 ⟨_, _, _, Tryz.underlying39, rfl, rfl, rfl, rfl, rfl, rfl⟩
theorem opFields : ∃ f1 f2 f3 f4 : Field, Tryz.prog.underlying 85 = some (.struct #[f1, f2, f3, f4]) ∧ f1.type = 3 ∧ f2.type = 35 ∧ f3.type = 35 ∧ f4.type = 28 ∧ f1.offset = 0 ∧ f2.offset = 1 ∧ f3.offset = 2 ∧ f4.offset = 3 :=
 ⟨_, _, _, _, Tryz.underlying85, rfl, rfl, rfl, rfl, rfl, rfl, rfl, rfl⟩
set_option maxRecDepth 100000 in
theorem dec_Up {fuel : Nat} {cs : List Value} {x : DataW H × List MemPlace} (h : DataW.trod enc Tryz.prog w base spare held fuel 39 cs = some x) : ∃ y : CB, cs = y.cells ∧ (SlZ (World.zh w) y.c.key y.kb ∧ SlZ (World.zh w) y.c.value y.vb) := by
 obtain ⟨f1, f2, f3, hT, t1, t2, t3, o1, o2, o3⟩ := updFields
 obtain ⟨xs, n, -, -, hl, hxl, hx⟩ := DataW.trod_struct hT h
 rw [c_Update] at hl
 have hxl' : xs.length = 3 := hxl
 have k1 := hx 0 f1 rfl
 have k2 := hx 1 f2 rfl
 have k3 := hx 2 f3 rfl
 rw [List.getElem?_eq_getElem (by omega)] at k1 k2 k3
 rw [o1, t1, c_bytes, List.drop_zero] at k1
 rw [o2, t2, c_bytes] at k2
 rw [o3, t3, c_bool] at k3
 obtain ⟨s1, l1, e1, z1⟩ := dec_bytes k1
 obtain ⟨s2, l2, e2, z2⟩ := dec_bytes k2
 obtain ⟨b, e3, -⟩ := DataW.trod_bool Tryz.underlying4 k3
 refine ⟨⟨⟨s1, s2, b⟩, l1, l2⟩, ?_, z1, z2⟩
 have r1 : cs = cs.take 1 ++ ((cs.drop 1).take 1 ++ (cs.drop 2).take 1) := by
  rw [List.take_of_length_le (l := cs.drop 2) (by simp; omega)]
  rw [show cs.drop 2 = (cs.drop 1).drop 1 by rw [List.drop_drop], List.take_append_drop, List.take_append_drop]
 rw [r1, e1, e2, e3]
 rfl
theorem dec_Ups {fuel : Nat} {cs : List Value} {x : DataW H × List MemPlace} (h : DataW.trod enc Tryz.prog w base spare held fuel 28 cs = some x) : ∃ (s : Sl) (l : List CB), cs = [.slice s.A s.n s.c] ∧ s.n = l.length ∧ s.n ≤ s.c ∧ RdZ (World.zh w) s.A (cbs l) ∧ ClsZ (World.zh w) l := by
 obtain ⟨l, A, c, e2, hlc, -, -, hr, hz⟩ := open_rows_t (f := fun y : CB => y.cells) CB.cells_length (by omega) Tryz.underlying28 c_Update (fun y => SlZ (World.zh w) y.c.key y.kb ∧ SlZ (World.zh w) y.c.value y.vb) (fun fuel cs x h => dec_Up h) h
 exact ⟨⟨A, l.length, c⟩, l, e2, rfl, hlc, RdZ.of hr, hz⟩
set_option maxRecDepth 100000 in
theorem openUpdates (hval : Value.okWide Tryz.prog w r b0 28 v) (hd : DataW.Trod enc Tryz.prog w base spare held 28 v d ps) :
  ∃ (l : List CB) (A : Option Addr) (cap : Nat), v = .slice A l.length cap ∧ l.length ≤ cap ∧ RdZ (World.zh w) A (cbs l) ∧ ClsZ (World.zh w) l := by
 obtain ⟨l, A, c, h1, h4, -, -, h2, h3⟩ := open_rows (f := fun y : CB => y.cells) CB.cells_length (by omega) Tryz.underlying28 c_Update (fun y => SlZ (World.zh w) y.c.key y.kb ∧ SlZ (World.zh w) y.c.value y.vb) (fun fuel cs x h => dec_Up h) hval hd
 exact ⟨l, A, c, h1, h4, RdZ.of h2, h3⟩
set_option maxRecDepth 100000 in
theorem dec_Op {fuel : Nat} {cs : List Value} {x : DataW H × List MemPlace} (h : DataW.trod enc Tryz.prog w base spare held fuel 85 cs = some x) : ∃ y : OpV, cs = y.cells ∧ OpZ (World.zh w) y := by
 obtain ⟨f1, f2, f3, f4, hT, t1, t2, t3, t4, o1, o2, o3, o4⟩ := opFields
 obtain ⟨xs, n, -, -, hl, hxl, hx⟩ := DataW.trod_struct hT h
 rw [c_Op] at hl
 have hxl' : xs.length = 4 := hxl
 have k1 := hx 0 f1 rfl
 have k2 := hx 1 f2 rfl
 have k3 := hx 2 f3 rfl
 have k4 := hx 3 f4 rfl
 rw [List.getElem?_eq_getElem (by omega)] at k1 k2 k3 k4
 rw [o1, t1, c_intT, List.drop_zero] at k1
 rw [o2, t2, c_bytes] at k2
 rw [o3, t3, c_bytes] at k3
 rw [o4, t4, c_updates] at k4
 obtain ⟨i, e1, -, -⟩ := DataW.trod_int Tryz.underlying3 k1
 obtain ⟨s1, l1, e2, z1⟩ := dec_bytes k2
 obtain ⟨s2, l2, e3, z2⟩ := dec_bytes k3
 obtain ⟨s3, l3, e4, y1, y2, y3, y4⟩ := dec_Ups k4
 refine ⟨⟨i, s1, s2, s3, l1, l2, l3⟩, ?_, z1, z2, y1, y2, y3, y4⟩
 have r1 : cs = cs.take 1 ++ ((cs.drop 1).take 1 ++ ((cs.drop 2).take 1 ++ (cs.drop 3).take 1)) := by
  rw [List.take_of_length_le (l := cs.drop 3) (by simp; omega)]
  rw [show cs.drop 3 = (cs.drop 2).drop 1 by rw [List.drop_drop], List.take_append_drop, show cs.drop 2 = (cs.drop 1).drop 1 by rw [List.drop_drop], List.take_append_drop, List.take_append_drop]
 rw [r1, e1, e2, e3, e4]
 rfl
set_option maxRecDepth 100000 in
theorem openOps (hval : Value.okWide Tryz.prog w r b0 22 v) (hd : DataW.Trod enc Tryz.prog w base spare held 22 v d ps) :
  ∃ (l : List OpV) (A : Option Addr) (cap : Nat), v = .slice A l.length cap ∧ l.length ≤ cap ∧ RdZ (World.zh w) A (opsC l) ∧ OpsZ (World.zh w) l := by
 obtain ⟨l, A, c, h1, h4, -, -, h2, h3⟩ := open_rows (f := fun y : OpV => y.cells) OpV.cells_length (by omega) Tryz.underlying22 c_Op (OpZ (World.zh w)) (fun fuel cs x h => dec_Op h) hval hd
 exact ⟨l, A, c, h1, h4, RdZ.of h2, h3⟩
end
end Go.Proofs.YtjhlbbgikccclaaGreatDoor
/- N25 -/
namespace Go.Proofs.YtjhlbbgikccclaaGreatDoor
open Go.RowKit
section
variable {P : Program} {A : List Fa} {W : World} {n : Nat} {D : List Deferred} {E : Env} {L M : List Fa} {T T' : TypeId} {x y : Operand} {K : Act → World → Prop}
theorem h_room (g m : Nat) {N c e size : Nat} {xs : List Value} [ht : TakeG g L N c e size xs M] (hm : N + m ≤ c) (k : ∀ ys, ys.length = m * size → H A W n D E (.own (.slice (some ⟨g, 0, none⟩) (N + m) c) (N + m) e size (xs ++ ys) :: M) K) : H A W n D E L K := fun a w ka s => by
 have s2 := s.perm ht.perm
 have ho : w.ownsRow 0 e size (.slice (some ⟨g, 0, none⟩) N c) N xs := s2.ok (.own _ _ _ _ _) (List.mem_cons_self ..)
 obtain ⟨cur, hb, h3, h4, h5, h6⟩ := own_parts ho
 have hNm : (N + m) * size ≤ cur.length := by rw [h5]; exact Nat.mul_le_mul_right _ hm
 have hsp : (N + m) * size = N * size + m * size := Nat.add_mul ..
 have hxs : cur.take ((N + m) * size) = xs ++ (cur.drop (N * size)).take (m * size) := by rw [hsp, List.take_add, h6]
 refine k ((cur.drop (N * size)).take (m * size)) ?_ a w ka (s2.turn rfl (fun k hk => .inl hk) (own_new hb ?_ hm h4 h5 hxs) rfl rfl rfl (Nat.le_refl _) fun _ _ _ => rfl)
 ·rw [List.length_take, List.length_drop]; omega
 ·rw [← hxs, List.length_take]; omega
theorem x_clear {t e g o dLen dCap N c i size bytes : Nat} {z : Value} [E' : TS P t e size bytes z] {xs : List Value} (hd : ev E x = some (.slice (some ⟨g, o, none⟩) dLen dCap)) [ht : TakeG g L N c e size xs M] (ho' : o = i * size) (hi : i + dLen = N) (hz1 : ∀ v ∈ z.cells.toList, v.oneCell' = true) :
  RunsX P A W n D E L (.call { callee := .builtin .clear, args := #[x], argTypes := #[t] }) (fun _ : Unit => .tuple #[]) (fun _ => .own (.slice (some ⟨g, 0, none⟩) i c) i e size (xs.take (i * size)) :: M) := fun a w ka s op hop => by
 subst ho'
 have h2 := s.perm ht.perm
 have ho : w.ownsRow 0 e size (.slice (some ⟨g, 0, none⟩) N c) N xs := h2.ok (.own _ _ _ _ _) (List.mem_cons_self ..)
 obtain ⟨cur, hb, h3, h4, h5, h6⟩ := own_parts ho
 obtain ⟨ti, hti, htz, hts, htb⟩ := info_parts E'.el.hi
 have hzs := E'.el.hz
 have hN : N * size ≤ cur.length := by rw [h5]; exact Nat.mul_le_mul_right _ h3
 have hsp : N * size = i * size + dLen * size := by rw [← hi, Nat.add_mul]
 have hx1 : xs.take (i * size) = cur.take (i * size) := by rw [← h6, List.take_take, Nat.min_eq_left (by omega)]
 by_cases h0 : dLen = 0
 ·subst h0
  refine ⟨(), w, ?_, h2.turn rfl (fun k hk => .inl hk) (own_new hb ?_ (by omega) h4 h5 hx1.symm) rfl rfl rfl (Nat.le_refl _) fun _ _ _ => rfl⟩
  ·unfold execOp
   simp only [hop, resolve, invoke, builtin, ka.ev hd, List.map_toArray, List.map_cons, List.map_nil, Sem.run_bind, Sem.run_pure, Result.andThen_ok]
   simp [Builtin.clear_, run_underlying E'.el.ht]
  ·rw [hx1, List.length_take]; omega
 ·obtain ⟨zs, hzs'⟩ : ∃ zs, (Builtin.zeroCells z.cells dLen).toList = zs := ⟨_, rfl⟩
  have hzl : zs.length = dLen * size := by rw [← hzs']; simp [Builtin.zeroCells, hzs]
  have hz2 : ∀ v ∈ zs, v.oneCell' = true := fun v hv => by
   rw [← hzs'] at hv
   simp only [Builtin.zeroCells, Array.toList_map, Array.toList_range, List.mem_map, List.mem_range] at hv
   obtain ⟨j, hj, rfl⟩ := hv
   have hlt : j % z.cells.size < z.cells.size := Nat.mod_lt _ (by rw [hzs]; exact E'.el.h0)
   rw [getElem!_pos z.cells (j % z.cells.size) hlt]
   exact hz1 _ (by simp)
  have hst := run_storeCells_at P g (i * size) e zs 0 cur.toArray w hb (by simp; omega) hz2
  simp only [Nat.add_zero] at hst
  have hbl : Below 0 w (w.setRow g (cur.toArray.toList.take (i * size) ++ zs ++ cur.toArray.toList.drop (i * size + zs.length)).toArray) := below_setRow (Below.refl 0 w) (Nat.zero_le _) _
  refine ⟨(), _, ?_, h2.turn rfl (fun k hk => .inl hk) (own_new (setRow_heap w g _ _ e _ hb) ?_ (by omega) h4 ?_ ?_) hbl.os hbl.tape hbl.output hbl.size fun k _ hne => setRow_other w g k _ fun e => hne (show some g = some k by rw [e])⟩
  ·unfold execOp
   simp only [hop, resolve, invoke, builtin, ka.ev hd, List.map_toArray, List.map_cons, List.map_nil, Sem.run_bind, Sem.run_pure, Result.andThen_ok]
   simp [Builtin.clear_, run_underlying E'.el.ht, zeroValue, typeInfo, hti, htz, hzs', hst, h0]
  ·rw [hx1, List.length_take]; omega
  ·simp only [List.length_append, List.length_take, List.length_drop]
   omega
  ·simp only
   rw [hx1, List.append_assoc, List.take_append_of_le_length (by rw [List.length_take]; omega), List.take_take, Nat.min_self]
theorem x_appG {t e xt size bytes : Nat} {z : Value} {k : IntKind} [E' : TS P t e size bytes z] {g N c i q : Nat} {xs : List Value} (hxt : P.underlying xt = some (.int k)) (hs : ev E x = some (.slice (some ⟨g, 0, none⟩) i c)) (hx : ev E y = some (.int .i64 (q : Int))) (hi : i ≤ N) (h0 : 0 < q) (hg : c < i + q) (hb : (i + q) * bytes ≤ 140737488355328) [ht : TakeG g L N c e size xs M] :
  RunsX P A W n D E L (.call { callee := .builtin .append, args := #[x, y], argTypes := #[t, xt] }) (fun u : Nat × Nat => .slice (some ⟨u.1, 0, none⟩) (i + q) u.2) (fun u => .own (.slice (some ⟨u.1, 0, none⟩) (i + q) u.2) (i + q) e size (xs.take (i * size) ++ (madeCells z.cells (q * size)).toList) :: L) := fun a w ka s op hop => by
 have h2 := s.perm ht.perm
 have ho : w.ownsRow 0 e size (.slice (some ⟨g, 0, none⟩) N c) N xs := h2.ok (.own _ _ _ _ _) (List.mem_cons_self ..)
 obtain ⟨cur, hbk, h3, h4, h5, h6⟩ := own_parts ho
 obtain ⟨ti, hti, htz, hts, htb⟩ := info_parts E'.el.hi
 have hzs := E'.el.hz
 have hbp := E'.el.hb
 have hN : N * size ≤ cur.length := by rw [h5]; exact Nat.mul_le_mul_right _ h3
 have hiN : i * size ≤ N * size := Nat.mul_le_mul_right _ hi
 have hx1 : xs.take (i * size) = cur.take (i * size) := by rw [← h6, List.take_take, Nat.min_eq_left hiN]
 have hol : (xs.take (i * size)).length = i * size := by rw [hx1, List.length_take]; omega
 have hiq : i + q ≤ (i + q) * bytes := Nat.le_mul_of_pos_right _ hbp
 have hfc : (Builtin.firstCells ti.size i (.slice (some ⟨g, 0, none⟩) i c)).run P w.drew = .ok (xs.take (i * size)).toArray w.drew := by
  have hl := run_loadCells_list (P := P) (w := w.drew) ⟨g, 0, none⟩ (xs.take (i * size)) (fun j v hv => by
   have hc := cell_of_row w g j cur.toArray e (0, 0) hbk
   rw [hx1, List.getElem?_take] at hv
   split at hv
   ·rw [Addr.add_mid, Nat.zero_add]
    show w.cell? ⟨g, j, none⟩ = some v
    rw [hc]
    simpa using hv
   ·cases hv)
  rw [hol] at hl
  unfold Builtin.firstCells
  rw [hts]
  exact hl
 have hrun := Lib.run_append_grow_zeros (P := P) w t xt op.type e ti z .i64 k E'.el.ht hxt hti htz (some ⟨g, 0, none⟩) i c (xs.take (i * size)) hfc q h0 (by rw [hts]; exact E'.el.h0) hg (by omega) (by rw [htb]; have : q * bytes ≤ (i + q) * bytes := Nat.mul_le_mul_right _ (by omega); omega) (growslice_fits hg (by rw [htb]; exact hb))
 have hge := grownCap_ge w (i + q) c e
 have hcm := grownCap_le_maxLen w (i + q) c e (by unfold maxLen; omega)
 generalize grownCap w (i + q) c e = c' at *
 have hmz : (Builtin.zeroCells z.cells q).toList = (madeCells z.cells (q * size)).toList := by unfold Builtin.zeroCells madeCells; rw [hzs]
 have hml : (madeCells z.cells (q * size)).toList.length = q * size := by simp [madeCells]
 have hrl : (Builtin.zeroCells z.cells (c' - (i + q))).toList.length = (c' - (i + q)) * size := by simp [Builtin.zeroCells, hzs]
 have hS' := (s.drew).alloc (xs.take (i * size) ++ (madeCells z.cells (q * size)).toList ++ (Builtin.zeroCells z.cells (c' - (i + q))).toList) e
 have hcs : (i + q) * size + (c' - (i + q)) * size = c' * size := by rw [← Nat.add_mul]; congr 1; omega
 have hiqs : (i + q) * size = i * size + q * size := Nat.add_mul ..
 refine ⟨(w.heap.size, c'), _, ?_, hS'.blkOwn (m := i + q) (c := c') ?_ hge hcm ?_ ?_⟩
 ·unfold execOp
  simp only [hop, resolve, invoke, builtin, ka.ev hs, ka.ev hx, List.map_toArray, List.map_cons, List.map_nil, Sem.run_bind, Sem.run_pure, Result.andThen_ok]
  have harr : (xs.take (i * size)).toArray ++ Builtin.zeroCells z.cells q ++ Builtin.zeroCells z.cells (c' - (i + q)) = (xs.take (i * size) ++ (madeCells z.cells (q * size)).toList ++ (Builtin.zeroCells z.cells (c' - (i + q))).toList).toArray := by
   rw [← hmz]
   apply Array.ext'
   simp
  rw [hrun, harr]
  rfl
 ·rw [List.length_append, hol, hml, hiqs]
 ·rw [List.length_append, List.length_append, hol, hml, hrl]; omega
 ·rw [List.take_append_of_le_length (by rw [List.length_append, hol, hml]; omega), List.take_of_length_le (by rw [List.length_append, hol, hml]; omega)]
theorem r_funF {f : FuncId} {l : List Operand} {ts : Array TypeId} {vs : List Value} {v : Value} (hb : ∀ w, Fx w L → (callFunc f vs.toArray).run P w = .ok (.value v) w) (ha : evs E l = some vs) : Runs0 P n D E L (.call ⟨.value (.func f), l.toArray, ts⟩) v := fun a w ka s o ho => run_fun ka ho ha (hb w s)
theorem r_slLb {e size bytes N c l b O : Nat} {z : Value} {p : Operand} {k : IntKind} {i : Int} [E' : TS P T e size bytes z] (hx : ev E x = some (.slice (some ⟨b, O, none⟩) N c)) (hp : ev E p = some (.int k i)) [hi : NatOf i l] (hl : l ≤ N := by omega) (hlt : l < c := by omega) : Runs0 P n D E L (.slice T x (some p) none none) (.slice (some ⟨b, O + l * size, none⟩) (N - l) (c - l)) := by
 have := r_slL (P := P) (n := n) (D := D) (L := L) (E' := E') hx hp (hi := hi) hl
 rwa [cutA_lt hlt] at this
theorem r_addS {a b c : ByteArray} (hx : ev E x = some (.string a)) (hy : ev E y = some (.string b)) (hc : a ++ b = c) (hl : a.size + b.size ≤ 1000000000000 := by decide) : Runs0 P n D E L (.binOp .add T x y T') (.string c) := fun act w ka s o ho => run_bin ho (ka.ev hx) (ka.ev hy) rfl (by
 rw [binOp_string_add]
 have h1 : ¬ ((((a.size + b.size : Nat) : Int)) > IntKind.i64.max) := by
  show ¬ ((((a.size + b.size : Nat) : Int)) > 9223372036854775807)
  omega
 unfold Op.stringOp
 simp only [h1, if_false, hc, Sem.run_pure])
theorem r_neS {a b : ByteArray} (hx : ev E x = some (.string a)) (hy : ev E y = some (.string b)) : Runs0 P n D E L (.binOp .neq T x y T') (.bool !(a.toList == b.toList)) := fun act w ka s o ho => run_bin ho (ka.ev hx) (ka.ev hy) rfl (by rw [binOp_string_neq]; rfl)
theorem r_slS {q : Operand} {a b : ByteArray} {i j : Nat} (hT : P.underlying T = some .string) (hx : ev E x = some (.string a)) (hy : ev E y = some (.int .i64 (i : Int))) (hq : ev E q = some (.int .i64 (j : Int))) (hj : j ≤ a.size) (hi : i ≤ j) (hc : a.extract i j = b) : Runs0 P n D E L (.slice T x (some y) (some q) none) (.string b) := fun act w ka s o ho => by
 have c1 : (0 : Int) ≤ (j : Int) ∧ (j : Int) ≤ (a.size : Int) := ⟨by omega, by omega⟩
 have c2 : (0 : Int) ≤ (i : Int) ∧ (i : Int) ≤ (j : Int) := ⟨by omega, by omega⟩
 unfold execOp
 simp only [ho, ka.ev hx, ka.ev hy, ka.ev hq, Option.map_none, Option.map_some]
 simp [Instr.sliceAt, Instr.slice, run_underlying hT, Instr.sliceBounds, Instr.sliceBound, asIntOf, c1, c2, hc, hj, hi]
end
end Go.Proofs.YtjhlbbgikccclaaGreatDoor
/- U168 -/
namespace Go.Proofs.YtjhlbbgikccclaaGreatDoor
open Go.RowKit
def KeyF (f : FuncId) : Prop := ∀ x : Change, Spec Tryz.prog f [.agg x.cells.toArray].toArray [] [] (fun _ : Unit => .agg x.key.cells.toArray) (fun _ => [])
theorem keyF1 : KeyF 167 := fun x => by
 refine spec_of Tryz.func167 rfl (n := 5) rfl rfl ?_
 intro W
 refine yR ?_
 refine h_opX (x_box rfl) fun g1 => ?_
 refine h_opX (x_alloc) fun g2 => ?_
 refine yN ?_
 refine yR ?_
 refine h_op (r_field rfl) ?_
 refine h_op (r_loadr rfl) ?_
 refine h_opS (s_storer rfl rfl) ?_
 refine yN ?_
 refine h_ret ?_
 exact h_ret1 rfl (rv_row rfl) fun w s => ⟨(), rfl, s.res (List.nil_sublist _) (by simp)⟩
theorem keyF2 : KeyF 174 := fun x => by
 refine spec_of Tryz.func174 rfl (n := 5) rfl rfl ?_
 intro W
 refine yR ?_
 refine h_opX (x_box rfl) fun g1 => ?_
 refine h_opX (x_alloc) fun g2 => ?_
 refine yN ?_
 refine yR ?_
 refine h_op (r_field rfl) ?_
 refine h_op (r_loadr rfl) ?_
 refine h_opS (s_storer rfl rfl) ?_
 refine yN ?_
 refine h_ret ?_
 exact h_ret1 rfl (rv_row rfl) fun w s => ⟨(), rfl, s.res (List.nil_sublist _) (by simp)⟩
def ksI (l : List Chg) (k : Nat) : List B32 := (l.take k).map Chg.key ++ List.replicate (l.length - k) zB32
theorem ksI_len {l : List Chg} {k : Nat} (hk : k ≤ l.length) : (ksI l k).length = l.length := by simp [ksI]; omega
theorem ksI_zero (l : List Chg) : List.replicate l.length zB32 = ksI l 0 := by simp [ksI]
theorem ksI_all (l : List Chg) : ksI l l.length = l.map Chg.key := by simp [ksI]
theorem ksI_set {l : List Chg} {k : Nat} (hk : k < l.length) : (ksI l k).set k (l.getD k zChg).key = ksI l (k + 1) := by
 have hx := getC hk
 have hl : ((l.take k).map Chg.key).length = k := by rw [List.length_map, List.length_take]; omega
 unfold ksI
 rw [List.set_append_right _ _ (by omega), hl, Nat.sub_self, show l.length - k = (l.length - (k + 1)) + 1 by omega, List.replicate_succ, List.set_cons_zero, List.take_add_one, hx, List.map_append, List.append_assoc]
 rfl
theorem keys_s (f : FuncId) [Ent Tryz.prog f] (hF : KeyF f) (l : List Chg) (B : Option Addr) (c : Nat) (hl : l.length ≤ 1000000) : Spec Tryz.prog 166 [.slice B l.length c, .func (.func f) #[] #[]].toArray [.rd B (chgs l)] [] (fun g : Nat => .slice (some ⟨g, 0, none⟩) l.length l.length) (fun g => [.own (.slice (some ⟨g, 0, none⟩) l.length l.length) l.length 34 32 (dgs (l.map Chg.key))]) := by
 refine spec_of Tryz.func166 rfl (n := 26) rfl rfl ?_
 intro W
 refine yR ?_
 refine yS rfl ?_
 refine yN ?_
 refine yR ?_
 refine yM rfl ?_
 refine h_op (r_len rfl) ?_
 refine h_opX (x_make rfl rfl) fun g10 => ?_
 refine yS rfl ?_
 refine yN ?_
 refine h_seq ?_
 refine yR ?_
 refine yM rfl ?_
 refine h_op (r_len rfl) ?_
 refine yM rfl ?_
 refine yN ?_
 refine h_block ?_
 rw [made_dgs, ksI_zero]
 refine h_loop (fun (k : Nat) => k ≤ l.length) (fun (k : Nat) => [(13, .int .i64 (k : Int)), (12, .int .i64 (l.length : Int)), (11, .slice B l.length c), (5, .slice (some ⟨g10, 0, none⟩) l.length l.length), (1, .func (.func f) #[] #[])]) (fun (k : Nat) => [.own (.slice (some ⟨g10, 0, none⟩) l.length l.length) l.length 34 32 (dgs (ksI l k)), .rd B (chgs l)]) (fun (k : Nat) => l.length - k) 0 ((show 0 ≤ _ from Nat.zero_le _)) ⟨rfl, rfl, rfl, rfl, rfl, trivial⟩ (same) ?_
 rintro k hk
 refine yR ?_
 refine h_op (r_lss rfl rfl) ?_
 refine yN ?_
 refine h_seq ?_
 refine h_cond rfl (fun hlt => ?_) (fun hlt => ?_)
 ·have hk2 : k < l.length := by omega
  have hx := getC hk2
  have hset := dgs_set (ksI l k) k (l.getD k zChg).key (by rw [ksI_len (by omega)]; exact hk2)
  rw [ksI_set hk2] at hset
  refine h_pure (φ := ∃ b o, B = some ⟨b, o, none⟩) (fun w s => Rd.some (s.ok (.rd B (chgs l)) (by simp)) (by rw [chgs_len]; omega)) ?_
  rintro ⟨b, o, rfl⟩
  generalize l.getD k zChg = x at *
  have hFx := hF x.st
  refine h_skip ?_
  refine q_then ?_
  refine h_seq ?_
  refine h_block ?_
  refine yR ?_
  refine yM rfl ?_
  refine h_op (r_idx rfl rfl) ?_
  refine h_op (r_nthr rfl (out := x.st.cells) (Change.cells_length _) (chgs_at hx)) ?_
  refine h_opX (x_alloc) fun g7 => ?_
  refine yS rfl ?_
  refine h_opS (s_storer rfl rfl) ?_
  refine yN ?_
  refine h_reg ?_
  refine yM rfl ?_
  refine yM rfl ?_
  refine yM rfl ?_
  refine h_op (r_loadr rfl) ?_
  refine h_call (hFx.comes) rfl rfl rfl fun _ => ?_
  refine h_op (r_idx rfl rfl) ?_
  refine h_opS (s_setrO rfl rfl (by rw [dgs_len, ksI_len (by omega)]; omega) hset) ?_
  refine h_nil ?_
  refine q_block ?_
  refine q_then ?_
  refine h_reg ?_
  refine h_op (r_add rfl rfl) ?_
  refine yM rfl ?_
  refine h_nil ?_
  exact h_back (k + 1) ((show k + 1 ≤ _ from hk2)) ((show l.length - (k + 1) < l.length - k by omega)) ⟨rfl, rfl, rfl, rfl, rfl, trivial⟩ (same)
 ·obtain rfl : k = l.length := by omega
  rw [ksI_all]
  refine h_exit ?_
  refine q_thenE ?_
  refine q_thenE ?_
  refine q_blockE ?_
  refine q_then ?_
  refine yR ?_
  refine yM rfl ?_
  refine yS rfl ?_
  refine yN ?_
  refine h_ret ?_
  exact h_ret1 rfl rfl fun w s => ⟨g10, rfl, (same (L' := [.own (.slice (some ⟨g10, 0, none⟩) l.length l.length) l.length 34 32 (dgs (l.map Chg.key))]) w s).res (List.Sublist.refl _) (by simp [Fa.wr])⟩
theorem check_s (l : List Chg) (B : Option Addr) (c : Nat) (hl : l.length ≤ 1000000) : Spec Tryz.prog 111 [.slice B l.length c].toArray [.rd B (chgs l)] [] (fun _ : Unit => .int .i64 (chkK (l.map Chg.key))) (fun _ => []) := by
 have hk := fun g => kCheck_s (l.map Chg.key) (some ⟨g, 0, none⟩) l.length (by rw [List.length_map]; omega)
 rw [List.length_map] at hk
 refine spec_of Tryz.func111 rfl (n := 6) rfl rfl ?_
 intro W
 refine yR ?_
 refine yS rfl ?_
 refine yN ?_
 refine yR ?_
 refine yM rfl ?_
 refine h_call ((keys_s 167 keyF1 l B c hl).comes) rfl rfl rfl fun g4 => ?_
 refine h_call ((hk g4).comes) rfl rfl rfl fun _ => ?_
 refine yS rfl ?_
 refine yN ?_
 refine h_ret ?_
 exact h_ret1 rfl rfl fun w s => ⟨(), rfl, s.res (List.nil_sublist _) (by simp)⟩
theorem delF_s (x : Change) : Spec Tryz.prog 171 [.agg x.cells.toArray].toArray [] [] (fun _ : Unit => .bool x.del) (fun _ => []) := by
 refine spec_of Tryz.func171 rfl (n := 5) rfl rfl ?_
 intro W
 refine yR ?_
 refine h_opX (x_box rfl) fun g1 => ?_
 refine yS rfl ?_
 refine yN ?_
 refine yR ?_
 refine h_op (r_field rfl) ?_
 refine h_op (r_loadc rfl) ?_
 refine yS rfl ?_
 refine yN ?_
 refine h_ret ?_
 exact h_ret1 rfl rfl fun w s => ⟨(), rfl, s.res (List.nil_sublist _) (by simp)⟩
def fdel (l : List Chg) (k : Nat) : Prop := ∀ j, j < k → (l.getD j zChg).del = false
theorem IndexC_s (l : List Chg) (B : Option Addr) (c : Nat) (hl : l.length ≤ 1000000) (k : Nat) (hk : k ≤ l.length) (hf : fdel l k) (hd : k < l.length → (l.getD k zChg).del = true) : Spec Tryz.prog 243 [.slice B l.length c, .func (.func 171) #[] #[]].toArray [.rd B (chgs l)] [] (fun _ : Unit => .int .i64 (if k < l.length then (k : Int) else -1)) (fun _ => []) := by
 refine spec_of Tryz.func243 rfl (n := 19) rfl rfl ?_
 intro W
 refine yR ?_
 refine yS rfl ?_
 refine yN ?_
 refine h_seq ?_
 refine yR ?_
 refine yM rfl ?_
 refine h_op (r_len rfl) ?_
 refine yM rfl ?_
 refine yN ?_
 refine h_block ?_
 refine h_loop (fun (i : Nat) => i ≤ k) (fun (i : Nat) => [(8, .int .i64 (i : Int)), (7, .int .i64 (l.length : Int)), (0, .slice B l.length c), (1, .func (.func 171) #[] #[])]) (fun (i : Nat) => [.rd B (chgs l)]) (fun (i : Nat) => k + 1 - i) 0 ((show 0 ≤ _ from Nat.zero_le _)) ⟨rfl, rfl, rfl, rfl, trivial⟩ (same) ?_
 rintro i hi
 refine yR ?_
 refine h_op (r_lss rfl rfl) ?_
 refine yN ?_
 refine h_seq ?_
 by_cases hlt : i < l.length
 ·refine h_yes rfl ((by omega)) ?_
  have hx := getC hlt
  refine h_pure (φ := ∃ b o, B = some ⟨b, o, none⟩) (fun w s => Rd.some (s.ok (.rd B (chgs l)) (by simp)) (by rw [chgs_len]; omega)) ?_
  rintro ⟨b, o, rfl⟩
  have hfi := hf i
  have hdi : ¬ i < k → (l.getD i zChg).del = true := fun e => by
   obtain rfl : i = k := by omega
   exact hd hlt
  have hF := delF_s (l.getD i zChg).st
  rw [show (l.getD i zChg).st.del = (l.getD i zChg).del from rfl] at hF
  generalize l.getD i zChg = x at *
  by_cases hik : i < k
  ·rw [hfi hik] at hF
   refine h_skip ?_
   refine q_then ?_
   refine h_seq ?_
   refine h_block ?_
   refine yR ?_
   refine yM rfl ?_
   refine yS rfl ?_
   refine yN ?_
   refine yR ?_
   refine yM rfl ?_
   refine yM rfl ?_
   refine yM rfl ?_
   refine h_op (r_idx rfl rfl) ?_
   refine h_op (r_nthr rfl (out := x.st.cells) (Change.cells_length _) (chgs_at hx)) ?_
   refine h_call (hF.comes) rfl rfl rfl fun _ => ?_
   refine yN ?_
   refine h_condF rfl ?_
   refine h_skip ?_
   refine q_block ?_
   refine q_then ?_
   refine h_reg ?_
   refine h_op (r_add rfl rfl) ?_
   refine yM rfl ?_
   refine h_nil ?_
   exact h_back (i + 1) ((show i + 1 ≤ k from hik)) ((show k + 1 - (i + 1) < k + 1 - i by omega)) ⟨rfl, rfl, rfl, rfl, trivial⟩ (same)
  ·rw [hdi hik] at hF
   obtain rfl : i = k := by omega
   rw [if_pos hlt]
   refine h_skip ?_
   refine q_then ?_
   refine h_seq ?_
   refine h_block ?_
   refine yR ?_
   refine yM rfl ?_
   refine yS rfl ?_
   refine yN ?_
   refine yR ?_
   refine yM rfl ?_
   refine yM rfl ?_
   refine yM rfl ?_
   refine h_op (r_idx rfl rfl) ?_
   refine h_op (r_nthr rfl (out := x.st.cells) (Change.cells_length _) (chgs_at hx)) ?_
   refine h_call (hF.comes) rfl rfl rfl fun _ => ?_
   refine yN ?_
   refine h_condT rfl ?_
   refine yR ?_
   refine yM rfl ?_
   refine yS rfl ?_
   refine yN ?_
   refine h_ret ?_
   refine q_blockR ?_
   refine q_thenR ?_
   refine q_thenR ?_
   refine q_blockR ?_
   refine q_thenR ?_
   exact h_ret1 rfl rfl fun w s => ⟨(), rfl, s.res (List.nil_sublist _) (by simp)⟩
 ·obtain rfl : i = l.length := by omega
  obtain rfl : k = l.length := by omega
  rw [if_neg (by omega)]
  refine h_no rfl ((by omega)) ?_
  refine h_exit ?_
  refine q_thenE ?_
  refine q_thenE ?_
  refine q_blockE ?_
  refine q_then ?_
  refine yR ?_
  refine yS rfl ?_
  refine yN ?_
  refine h_ret ?_
  exact h_ret1 rfl rfl fun w s => ⟨(), rfl, s.res (List.nil_sublist _) (by simp)⟩
theorem putsC_take {l : List Chg} {j : Nat} {x : Chg} (h : l[j]? = some x) : putsC (l.take (j + 1)) = if x.del then putsC (l.take j) else putsC (l.take j) ++ [x] := by
 unfold putsC
 cases hd : x.del
 ·rw [if_neg (by simp)]
  exact filt_yes h (by rw [hd]; rfl)
 ·rw [if_pos rfl]
  exact filt_no h (by rw [hd]; decide)
structure DelR (l : List Chg) (i j : Nat) (r : List Chg) : Prop where
 len : r.length = l.length
 lt : i < j
 ct : i = (putsC (l.take j)).length
 head : r.take i = putsC (l.take j)
 tail : r.drop j = l.drop j
theorem DelR.get {l : List Chg} {i j : Nat} {r : List Chg} (h : DelR l i j r) (hj : j < l.length) : r[j]? = some (l.getD j zChg) := by
 have h1 := congrArg (fun q => q[0]?) h.tail
 simp only [List.getElem?_drop, Nat.add_zero] at h1
 rw [h1, getC hj]
theorem DelR.skip {l : List Chg} {i j : Nat} {r : List Chg} (h : DelR l i j r) (hj : j < l.length) (hd : (l.getD j zChg).del = true) : DelR l i (j + 1) r := by
 have e := putsC_take (getC hj)
 rw [if_pos hd] at e
 refine ⟨h.len, Nat.lt_succ_of_lt h.lt, by rw [e]; exact h.ct, by rw [e]; exact h.head, ?_⟩
 have := congrArg (fun q => q.drop 1) h.tail
 simpa [List.drop_drop] using this
theorem DelR.keep {l : List Chg} {i j : Nat} {r : List Chg} (h : DelR l i j r) (hj : j < l.length) (hd : (l.getD j zChg).del = false) : DelR l (i + 1) (j + 1) (r.set i (l.getD j zChg)) := by
 have e := putsC_take (getC hj)
 rw [if_neg (by rw [hd]; decide)] at e
 have hle := h.lt
 have hl := h.len
 refine ⟨by rw [List.length_set]; exact h.len, Nat.succ_lt_succ h.lt, by rw [e, List.length_append, ← h.ct]; rfl, ?_, ?_⟩
 ·rw [e, ← h.head, List.take_add_one, List.getElem?_set_self (by omega), List.take_set_of_le (Nat.le_refl _)]
  rfl
 ·rw [List.drop_set_of_lt (by omega)]
  have := congrArg (fun q => q.drop 1) h.tail
  simpa [List.drop_drop] using this
theorem DelR.start {l : List Chg} {k : Nat} (hk : k < l.length) (hf : fdel l k) (hd : (l.getD k zChg).del = true) : DelR l k (k + 1) l := by
 have h1 : putsC (l.take k) = l.take k := putsC_puts fun c hc => by
  obtain ⟨j, hj, hcj⟩ := List.getElem_of_mem hc
  rw [List.length_take] at hj
  rw [List.getElem_take] at hcj
  have := hf j (by omega)
  rw [List.getD_eq_getElem?_getD, List.getElem?_eq_getElem (by omega)] at this
  rw [← hcj]; exact this
 have e := putsC_take (getC hk)
 rw [if_pos hd, h1] at e
 exact ⟨rfl, Nat.lt_succ_self k, by rw [e, List.length_take]; omega, e.symm, rfl⟩
theorem DelR.end_ {l : List Chg} {i : Nat} {r : List Chg} (h : DelR l i l.length r) : i = (putsC l).length ∧ r.take i = putsC l := by
 have h1 := h.ct
 have h2 := h.head
 rw [List.take_length] at h1 h2
 exact ⟨h1, h2⟩
theorem fdel_at : ∀ l : List Chg, ∃ k, k ≤ l.length ∧ fdel l k ∧ (k < l.length → (l.getD k zChg).del = true)
 | [] => ⟨0, Nat.le_refl _, fun j hj => by omega, fun h => by simp at h⟩
 | c :: l => by
  cases hd : c.del
  ·obtain ⟨k, h1, h2, h3⟩ := fdel_at l
   refine ⟨k + 1, by simp; omega, fun j hj => ?_, fun h => ?_⟩
   ·cases j with
    | zero => exact hd
    | succ j => rw [List.getD_cons_succ]; exact h2 j (by omega)
   ·rw [List.getD_cons_succ]
    exact h3 (by simpa using h)
  ·exact ⟨0, Nat.zero_le _, fun j hj => by omega, fun _ => hd⟩
theorem DeleteC_s (l : List Chg) (g c : Nat) (hl : l.length ≤ 1000000) : Spec Tryz.prog 169 [.slice (some ⟨g, 0, none⟩) l.length c, .func (.func 171) #[] #[]].toArray [] [.own (.slice (some ⟨g, 0, none⟩) l.length c) l.length 37 34 (chgs l)] (fun _ : Unit => .slice (some ⟨g, 0, none⟩) (putsC l).length c) (fun _ => [.own (.slice (some ⟨g, 0, none⟩) (putsC l).length c) (putsC l).length 37 34 (chgs (putsC l))]) := by
 obtain ⟨k, hk, hf, hd⟩ := fdel_at l
 have hI := IndexC_s l (some ⟨g, 0, none⟩) c hl k hk hf hd
 have hz1 : ∀ v ∈ (Value.agg zChange.cells.toArray).cells.toList, v.oneCell' = true := fun v hv => Change.cells_one zChange v (by simpa [Value.cells] using hv)
 refine spec_of Tryz.func169 rfl (n := 42) rfl rfl ?_
 intro W
 refine yR ?_
 refine yS rfl ?_
 refine yN ?_
 refine yR ?_
 refine yM rfl ?_
 refine yM rfl ?_
 refine h_call (hI.comes) rfl rfl rfl fun _ => ?_
 by_cases hkl : k < l.length
 ·rw [if_pos hkl]
  have hS := DelR.start hkl hf (hd hkl)
  refine yS rfl ?_
  refine yN ?_
  refine h_seq ?_
  refine yR ?_
  refine yM rfl ?_
  refine h_op (r_eql rfl rfl) ?_
  refine yN ?_
  refine h_no rfl ((by omega)) ?_
  refine h_skip ?_
  refine q_then ?_
  refine h_seq ?_
  refine yR ?_
  refine yM rfl ?_
  refine h_op (r_int (r_add rfl rfl) (show _ = ((k + 1 : Nat) : Int) by omega)) ?_
  refine yS rfl ?_
  refine yN ?_
  refine h_block ?_
  refine h_loop (fun (s : Nat × Nat × List Chg) => s.2.1 ≤ l.length ∧ DelR l s.1 s.2.1 s.2.2) (fun (s : Nat × Nat × List Chg) => [(5, .int .i64 (s.1 : Int)), (6, .int .i64 (s.2.1 : Int)), (0, .slice (some ⟨g, 0, none⟩) l.length c), (1, .func (.func 171) #[] #[])]) (fun (s : Nat × Nat × List Chg) => [.own (.slice (some ⟨g, 0, none⟩) l.length c) l.length 37 34 (chgs s.2.2)]) (fun (s : Nat × Nat × List Chg) => l.length - s.2.1) (k, k + 1, l) (⟨hkl, hS⟩) ⟨rfl, rfl, rfl, rfl, trivial⟩ (same) ?_
  rintro ⟨i, j, r⟩ ⟨hj, hR⟩
  dsimp only at hj hR ⊢
  have hij := hR.lt
  have hrl := hR.len
  refine h_seq ?_
  refine yR ?_
  refine yM rfl ?_
  refine yM rfl ?_
  refine h_op (r_len rfl) ?_
  refine h_op (r_lss rfl rfl) ?_
  refine yN ?_
  by_cases hjl : j < l.length
  ·refine h_yes rfl ((by omega)) ?_
   have hx := hR.get hjl
   have hF := delF_s (l.getD j zChg).st
   have hsk := hR.skip hjl
   have hke := hR.keep hjl
   have hset : (chgs r).take (i * 34) ++ (l.getD j zChg).st.cells ++ (chgs r).drop (i * 34 + 34) = chgs (r.set i (l.getD j zChg)) := rws_set Chg.cells_length (l.getD j zChg) (show i < r.length by omega)
   rw [show (l.getD j zChg).st.del = (l.getD j zChg).del from rfl] at hF
   generalize l.getD j zChg = x at *
   cases hxd : x.del
   ·rw [hxd] at hF
    refine h_skip ?_
    refine q_then ?_
    refine h_seq ?_
    refine h_block ?_
    refine yR ?_
    refine yM rfl ?_
    refine yM rfl ?_
    refine h_op (r_idx rfl rfl) ?_
    refine h_op (r_nthr rfl (out := x.st.cells) (Change.cells_length _) (chgs_at hx)) ?_
    refine h_opX (x_alloc) fun g7 => ?_
    refine h_opS (s_storer rfl rfl) ?_
    refine yN ?_
    refine yR ?_
    refine yM rfl ?_
    refine h_op (r_loadr rfl) ?_
    refine h_call (hF.comes) rfl rfl rfl fun _ => ?_
    refine h_op (r_not rfl) ?_
    refine yN ?_
    refine h_condT rfl ?_
    refine yR ?_
    refine yM rfl ?_
    refine yM rfl ?_
    refine h_op (r_loadr rfl) ?_
    refine h_op (r_idx rfl rfl) ?_
    refine h_opS (s_setrO rfl rfl (by rw [chgs_len]; omega) hset) ?_
    refine yN ?_
    refine h_reg ?_
    refine yM rfl ?_
    refine h_op (r_add rfl rfl) ?_
    refine yS rfl ?_
    refine h_nil ?_
    refine q_block ?_
    refine q_then ?_
    refine h_reg ?_
    refine yM rfl ?_
    refine h_op (r_add rfl rfl) ?_
    refine yS rfl ?_
    refine h_nil ?_
    exact h_back (i + 1, j + 1, r.set i x) (⟨hjl, hke hxd⟩) ((show l.length - (j + 1) < l.length - j by omega)) ⟨rfl, rfl, rfl, rfl, trivial⟩ (same)
   ·rw [hxd] at hF
    refine h_skip ?_
    refine q_then ?_
    refine h_seq ?_
    refine h_block ?_
    refine yR ?_
    refine yM rfl ?_
    refine yM rfl ?_
    refine h_op (r_idx rfl rfl) ?_
    refine h_op (r_nthr rfl (out := x.st.cells) (Change.cells_length _) (chgs_at hx)) ?_
    refine h_opX (x_alloc) fun g7 => ?_
    refine h_opS (s_storer rfl rfl) ?_
    refine yN ?_
    refine yR ?_
    refine yM rfl ?_
    refine h_op (r_loadr rfl) ?_
    refine h_call (hF.comes) rfl rfl rfl fun _ => ?_
    refine h_op (r_not rfl) ?_
    refine yN ?_
    refine h_condF rfl ?_
    refine h_skip ?_
    refine q_block ?_
    refine q_then ?_
    refine h_reg ?_
    refine yM rfl ?_
    refine h_op (r_add rfl rfl) ?_
    refine yS rfl ?_
    refine h_nil ?_
    exact h_back (i, j + 1, r) (⟨hjl, hsk hxd⟩) ((show l.length - (j + 1) < l.length - j by omega)) ⟨rfl, rfl, rfl, rfl, trivial⟩ (same)
  ·obtain rfl : j = l.length := by omega
   obtain ⟨hi, ht⟩ := hR.end_
   have hcg : (chgs r).take (i * 34) = chgs (putsC l) := by rw [← ht]; exact rws_take Chg.cells_length r i
   refine h_pure (φ := l.length ≤ c) (fun w s => (s.ownLe (B := some ⟨g, 0, none⟩) (N := l.length) (c := c)).1) fun hc => ?_
   refine h_no rfl ((by omega)) ?_
   refine h_exit ?_
   refine q_thenE ?_
   refine q_thenE ?_
   refine q_blockE ?_
   refine q_then ?_
   refine yR ?_
   refine yM rfl ?_
   refine yM rfl ?_
   refine h_op (r_slLb rfl rfl) ?_
   refine h_opXN (x_clear (N := l.length) (i := i) rfl (Nat.zero_add _) (by omega) hz1) fun g903 => ?_
   refine yN ?_
   refine yR ?_
   refine yM rfl ?_
   refine yM rfl ?_
   refine h_op (r_slHb rfl rfl) ?_
   refine yS rfl ?_
   refine yN ?_
   refine h_ret ?_
   rw [hcg]
   subst hi
   exact h_ret1 rfl rfl fun w s => ⟨(), rfl, (same (L' := [.own (.slice (some ⟨g, 0, none⟩) (putsC l).length c) (putsC l).length 37 34 (chgs (putsC l))]) w s).res (List.Sublist.refl _) (by simp [Fa.wr])⟩
 ·obtain rfl : k = l.length := by omega
  have hp : putsC l = l := by
   have := putsC_puts (l := l) fun c hc => by
    obtain ⟨j, hj, hcj⟩ := List.getElem_of_mem hc
    have := hf j hj
    rw [List.getD_eq_getElem?_getD, List.getElem?_eq_getElem hj] at this
    rw [← hcj]; exact this
   exact this
  rw [if_neg hkl, hp]
  refine yS rfl ?_
  refine yN ?_
  refine h_seq ?_
  refine yR ?_
  refine yM rfl ?_
  refine h_op (r_eql rfl rfl) ?_
  refine yN ?_
  refine h_condT rfl ?_
  refine yR ?_
  refine yM rfl ?_
  refine yS rfl ?_
  refine yN ?_
  refine h_ret ?_
  refine q_thenR ?_
  exact h_ret1 rfl rfl fun w s => ⟨(), rfl, (same (L' := [.own (.slice (some ⟨g, 0, none⟩) l.length c) l.length 37 34 (chgs l)]) w s).res (List.Sublist.refl _) (by simp [Fa.wr])⟩
end Go.Proofs.YtjhlbbgikccclaaGreatDoor
/- U140 -/
namespace Go.Proofs.YtjhlbbgikccclaaGreatDoor
open Go.RowKit
theorem Entry_s (n : Nat) (h : Zh) (kk : B32) (b : List UInt8) (hb : b.length ≤ 1000000000) (p : Option Addr) [ht : TrZ n h (.leaf kk b) p] : Spec Tryz.prog 105 [.pointer p].toArray [.zone false h] [] (fun u : Option Addr × Nat => .agg (Entry.cells ⟨kk, ⟨u.1, b.length, u.2⟩⟩).toArray) (fun u => [.own (.slice u.1 b.length u.2) b.length 5 1 (bc b)]) := by
 refine spec_of Tryz.func105 rfl (n := 13) rfl rfl ?_
 intro W
 refine yR ?_
 refine h_opX (x_alloc) fun g2 => ?_
 refine yN ?_
 refine yR ?_
 refine yM rfl ?_
 refine h_call ((leaf_s n h kk b p).comes) rfl rfl rfl fun ⟨⟨sA, sn, sc⟩, hs⟩ => ?_
 dsimp only at hs ⊢
 have hsn := hs.len
 have hsr : RdZ h sA (bc b) := hs.rd
 have hnil := hs.nil
 dsimp only at hsn hnil
 subst hsn
 refine h_opX (x_alloc) fun g3 => ?_
 refine h_opS (s_storer rfl rfl) ?_
 refine yN ?_
 refine h_seq ?_
 refine ha_start [.blk g3 (NLeaf.cells ⟨leafOf n kk b, ⟨sA, b.length, sc⟩⟩) 281] [] mixed (same) ?_
 refine ha_takeP 0 rfl (r_field rfl) ?_
 refine ha_takeP 1 rfl (r_field rfl) ?_
 refine ha_take 2 rfl (r_loadr rfl) ?_
 refine ha_takeP 3 rfl (r_field rfl) ?_
 refine ha_take 4 rfl (r_loadc rfl) ?_
 refine ha_one 5 ?_
 refine ho_C 5 rfl ((Clone_s b sA sc hnil hb).comes) rfl rfl rfl (fun xx => same) fun ⟨A11, c11⟩ => ?_
 refine ha_takeP 6 rfl (r_build rfl) ?_
 refine ha_one 7 ?_
 refine ho_SL 7 rfl (s_storer rfl rfl) ?_
 refine q_then ?_
 refine h_ret ?_
 exact h_ret1 rfl (rv_row rfl) fun w s => ⟨(A11, c11), rfl, (same (L' := [.own (.slice A11 b.length c11) b.length 5 1 (bc b)]) w s).res (List.Sublist.refl _) (by simp [Fa.wr])⟩
section
variable (n : Nat) (h : Zh) (m : List En) (p : Option Addr) [ht : TrZ n h (mkT m 0) p] (key : B32) (D : Nat) (w : WayM key m D) (hvl : ∀ e ∈ m, e.val.length ≤ 1000000000)
include ht w hvl
theorem FGet_s : Spec Tryz.prog 86 [.pointer p, .agg key.cells.toArray].toArray [.zone false h] [] (fun u : Option Addr × Nat => .tuple #[.slice u.1 (getV (getE' m key)).length u.2, .bool (getE' m key).isSome]) (fun u => [.own (.slice u.1 (getV (getE' m key)).length u.2) (getV (getE' m key)).length 5 1 (bc (getV (getE' m key)))]) := by
 have hL := Locate_s n h (mkT m 0) p key D w.way
 have hon := w.on D (Nat.le_refl _)
 have hD := w.way.le
 have htD : TrZ n h (wayK key (mkT m 0) D) (wayQ h key p D) := inferInstance
 generalize wayQ h key p D = q at *
 rcases end_get w.last with ⟨h1, h2⟩ | ⟨e, h1, hb, ⟨hk, h2⟩ | ⟨hk, h2⟩⟩
 ·rw [h2]
  rw [hon, h1, mkT_nil] at htD
  have hK := Kind_s n h .nil q
  refine spec_of Tryz.func86 rfl (n := 27) rfl rfl ?_
  intro W
  refine yR ?_
  refine h_opX (x_box rfl) fun g3 => ?_
  refine yS rfl ?_
  refine yS rfl ?_
  refine yN ?_
  refine yR ?_
  refine yM rfl ?_
  refine h_op (r_loadr rfl) ?_
  refine h_call (hL.comes) rfl rfl rfl fun _ => ?_
  refine yM rfl ?_
  refine h_op (r_extract rfl rfl) ?_
  refine h_op (r_extract rfl rfl) ?_
  refine yS rfl ?_
  refine yS rfl ?_
  refine yN ?_
  refine h_seq ?_
  refine h_seq ?_
  refine ha_start [.blk g3 key.cells 34] [] mixed (same) ?_
  refine ha_takeP 0 rfl (r_move rfl) ?_
  refine ha_one 1 ?_
  refine ho_C 1 rfl (hK.comes) rfl rfl rfl (fun xx => same) fun _ => ?_
  refine ha_takeP 2 rfl (r_bool (r_neq rfl rfl) (show _ = true from rfl)) ?_
  refine ha_takeP 3 rfl (r_move rfl) ?_
  refine ha_off 4 rfl ?_
  refine ha_off 5 rfl ?_
  refine ha_off 6 rfl ?_
  refine ha_off 7 rfl ?_
  refine ha_off 8 rfl ?_
  refine ha_takeP 9 rfl (r_pick rfl rfl) ?_
  refine ha_done (by kernel_rfl) ?_
  refine q_then ?_
  refine h_condT rfl ?_
  refine yR ?_
  refine yS rfl ?_
  refine yS rfl ?_
  refine yN ?_
  refine h_ret ?_
  refine q_thenR ?_
  refine h_nil_own 5 1 (xs := bc []) rfl ?_
  exact h_ret2 rfl rfl rfl fun w s => ⟨(none, 0), rfl, (same (L' := [.own (.slice none 0 0) 0 5 1 (bc [])]) w s).res (List.Sublist.refl _) (by simp [Fa.wr])⟩
 ·rw [h2]
  have hem := (atM_bits (key := key) (m := m) (D := D) (e := e) (by rw [h1]; exact List.mem_singleton.2 rfl)).1
  rw [hon, h1, mkT_one e hD, hk] at htD
  have hK := Kind_s n h (.leaf key e.val) q
  have hLf := Leaf_s n h (.leaf key e.val) q
  have hEn := Entry_s n h key e.val (hvl e hem) q
  refine spec_of Tryz.func86 rfl (n := 27) rfl rfl ?_
  intro W
  refine yR ?_
  refine h_opX (x_box rfl) fun g3 => ?_
  refine yS rfl ?_
  refine yS rfl ?_
  refine yN ?_
  refine yR ?_
  refine yM rfl ?_
  refine h_op (r_loadr rfl) ?_
  refine h_call (hL.comes) rfl rfl rfl fun _ => ?_
  refine yM rfl ?_
  refine h_op (r_extract rfl rfl) ?_
  refine h_op (r_extract rfl rfl) ?_
  refine yS rfl ?_
  refine yS rfl ?_
  refine yN ?_
  refine h_seq ?_
  refine h_seq ?_
  refine ha_start [.blk g3 key.cells 34] [] mixed (same) ?_
  refine ha_takeP 0 rfl (r_move rfl) ?_
  refine ha_one 1 ?_
  refine ho_C 1 rfl (hK.comes) rfl rfl rfl (fun xx => same) fun _ => ?_
  refine ha_takeP 2 rfl (r_bool (r_neq rfl rfl) (show _ = false from rfl)) ?_
  refine ha_takeP 3 rfl (r_move rfl) ?_
  refine ha_takeP 4 rfl (r_move rfl) ?_
  refine ha_take 7 rfl (r_loadr rfl) ?_
  refine ha_one 5 ?_
  refine ho_C 5 rfl (hLf.comes) rfl rfl rfl (fun xx => same) fun _ => ?_
  refine ha_takeP 6 rfl (r_fldr rfl) ?_
  refine ha_takeP 8 rfl (r_bool (r_ner rfl rfl) (decide_eq_false (fun h => h rfl))) ?_
  refine ha_takeP 9 rfl (r_pick rfl rfl) ?_
  refine ha_done (by kernel_rfl) ?_
  refine q_then ?_
  refine h_condF rfl ?_
  refine h_skip ?_
  refine q_then ?_
  refine yR ?_
  refine yM rfl ?_
  refine h_call (hEn.comes) rfl rfl rfl fun ⟨A25, c25⟩ => ?_
  dsimp only
  refine h_op (r_fldc rfl) ?_
  refine yS rfl ?_
  refine yS rfl ?_
  refine yN ?_
  refine h_ret ?_
  exact h_ret2 rfl rfl rfl fun w s => ⟨(A25, c25), rfl, (same (L' := [.own (.slice A25 e.val.length c25) e.val.length 5 1 (bc e.val)]) w s).res (List.Sublist.refl _) (by simp [Fa.wr])⟩
 ·rw [h2]
  rw [hon, h1, mkT_one e hD] at htD
  have hK := Kind_s n h (.leaf e.key e.val) q
  have hLf := Leaf_s n h (.leaf e.key e.val) q
  refine spec_of Tryz.func86 rfl (n := 27) rfl rfl ?_
  intro W
  refine yR ?_
  refine h_opX (x_box rfl) fun g3 => ?_
  refine yS rfl ?_
  refine yS rfl ?_
  refine yN ?_
  refine yR ?_
  refine yM rfl ?_
  refine h_op (r_loadr rfl) ?_
  refine h_call (hL.comes) rfl rfl rfl fun _ => ?_
  refine yM rfl ?_
  refine h_op (r_extract rfl rfl) ?_
  refine h_op (r_extract rfl rfl) ?_
  refine yS rfl ?_
  refine yS rfl ?_
  refine yN ?_
  refine h_seq ?_
  refine h_seq ?_
  refine ha_start [.blk g3 key.cells 34] [] mixed (same) ?_
  refine ha_takeP 0 rfl (r_move rfl) ?_
  refine ha_one 1 ?_
  refine ho_C 1 rfl (hK.comes) rfl rfl rfl (fun xx => same) fun _ => ?_
  refine ha_takeP 2 rfl (r_bool (r_neq rfl rfl) (show _ = false from rfl)) ?_
  refine ha_takeP 3 rfl (r_move rfl) ?_
  refine ha_takeP 4 rfl (r_move rfl) ?_
  refine ha_take 7 rfl (r_loadr rfl) ?_
  refine ha_one 5 ?_
  refine ho_C 5 rfl (hLf.comes) rfl rfl rfl (fun xx => same) fun _ => ?_
  refine ha_takeP 6 rfl (r_fldr rfl) ?_
  refine ha_takeP 8 rfl (r_bool (r_ner rfl rfl) (decide_eq_true hk)) ?_
  refine ha_takeP 9 rfl (r_pick rfl rfl) ?_
  refine ha_done (by kernel_rfl) ?_
  refine q_then ?_
  refine h_condT rfl ?_
  refine yR ?_
  refine yS rfl ?_
  refine yS rfl ?_
  refine yN ?_
  refine h_ret ?_
  refine q_thenR ?_
  refine h_nil_own 5 1 (xs := bc []) rfl ?_
  exact h_ret2 rfl rfl rfl fun w s => ⟨(none, 0), rfl, (same (L' := [.own (.slice none 0 0) 0 5 1 (bc [])]) w s).res (List.Sublist.refl _) (by simp [Fa.wr])⟩
end
end Go.Proofs.YtjhlbbgikccclaaGreatDoor
