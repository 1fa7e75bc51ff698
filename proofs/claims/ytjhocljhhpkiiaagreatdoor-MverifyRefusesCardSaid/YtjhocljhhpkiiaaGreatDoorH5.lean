/- Memory that is written once and then read alone: a zone, and what is known of it for good; Interface values: assertions of types, methods. Pointers compared (joined texts: N10 N11) -/
import Derived.Test.YtjhocljhhpkiiaaGreatDoorH4
set_option linter.all false
/- N10 -/
namespace Go.Proofs.YtjhocljhhpkiiaaGreatDoor
set_option linter.unusedSimpArgs false
set_option linter.unusedVariables false
open Go.RowKit
abbrev Zh := Nat → Option Obj
def Zh.cell (h : Zh) (b o : Nat) : Option Value := match h b with
  | some (.cells c _ _) => c[o]?
  | _ => none
/-- h' holds all that h holds -/
class LeZ (h : outParam Zh) (h' : Zh) : Prop where
  le : ∀ k o, h k = some o → h' k = some o
theorem LeZ.refl (h : Zh) : LeZ h h := ⟨fun _ _ h => h⟩
theorem LeZ.trans {a b c : Zh} (h : LeZ a b) (h' : LeZ b c) : LeZ a c := ⟨fun k o e => h'.le k o (h.le k o e)⟩
theorem LeZ.cell {h h' : Zh} (hl : LeZ h h') {b o : Nat} {v : Value} (hc : h.cell b o = some v) : h'.cell b o = some v := by
  unfold Zh.cell at *
  cases hb : h b with
  | none => rw [hb] at hc; cases hc
  | some x => rw [hl.le b x hb]; rw [hb] at hc; exact hc
/-- a range that the zone holds -/
class RdZ (h : Zh) (A : Option Addr) (cs : outParam (List Value)) : Prop where
  at_ : ∀ j v, cs[j]? = some v → ∃ b o, A = some ⟨b, o, none⟩ ∧ h.cell b (o + j) = some v
theorem RdZ.nil (h : Zh) (A : Option Addr) : RdZ h A [] := ⟨fun j v e => by simp at e⟩
theorem RdZ.mono {h h' : Zh} (hl : LeZ h h') {A : Option Addr} {cs : List Value} (hr : RdZ h A cs) : RdZ h' A cs := ⟨fun j v hv => by
  obtain ⟨b, o, e, hc⟩ := hr.at_ j v hv
  exact ⟨b, o, e, hl.cell hc⟩⟩
instance (priority := 10) (h h' : Zh) (A : Option Addr) (cs : List Value) [hl : LeZ h h'] [hr : RdZ h A cs] : RdZ h' A cs := hr.mono hl
theorem RdZ.part {h : Zh} {b o off n : Nat} {cs out : List Value} (hr : RdZ h (some ⟨b, o, none⟩) cs) (hp : RowAt cs off n out) : RdZ h (some ⟨b, o + off, none⟩) out := ⟨fun j v hv => by
  obtain ⟨b', o', e, hc⟩ := hr.at_ (off + j) v (hp.at_ j v hv)
  injection e with e
  injection e with e1 e2
  subst e1 e2
  exact ⟨b, o + off, rfl, by rw [Nat.add_assoc]; exact hc⟩⟩
theorem Zh.cell_of {h : Zh} {w : World} (hw : ∀ k o, h k = some o → w.heap[k]? = some o) {b o : Nat} {v : Value} (hc : h.cell b o = some v) : w.cell? ⟨b, o, none⟩ = some v := by
  unfold Zh.cell at hc
  cases hb : h b with
  | none => rw [hb] at hc; cases hc
  | some x =>
    rw [hb] at hc
    simp only [World.cell?, hw b x hb]
    cases x with
    | cells c T z => simpa using hc
    | _ => cases hc
theorem RdZ.rd {h : Zh} {w : World} (hw : ∀ k o, h k = some o → w.heap[k]? = some o) {A : Option Addr} {cs : List Value} (hr : RdZ h A cs) : Rd w A cs := fun j v hv => by
  obtain ⟨b, o, e, hc⟩ := hr.at_ j v hv
  exact ⟨b, o, e, Zh.cell_of hw hc⟩
/-- what the world holds, frozen -/
def World.zh (w : World) : Zh := fun k => w.heap[k]?
theorem RdZ.of {w : World} {A : Option Addr} {cs : List Value} (hr : Rd w A cs) : RdZ (World.zh w) A cs := ⟨fun j v hv => by
  obtain ⟨b, o, e, hc⟩ := hr j v hv
  refine ⟨b, o, e, ?_⟩
  unfold Zh.cell World.zh
  simp only [World.cell?] at hc
  split at hc
  · rename_i h1
    rw [h1]
    simpa using hc
  · cases hc⟩
section
variable {b : Bool} {h : Zh} {L M : List Fa}
theorem Fx.zone {w : World} (hS : Fx w (.zone b h :: L)) : ∀ k o, h k = some o → w.heap[k]? = some o := hS.ok (.zone b h) (List.mem_cons_self ..)
theorem cells_zone {g O off : Nat} {cs : List Value} (hr : ∀ j v, cs[off + j]? = some v → h.cell g (O + j) = some v) : Cells g O (.zone b h :: L) off cs := ⟨fun hS j v hv => Zh.cell_of hS.zone (hr j v hv)⟩
theorem RdZ.cell {g o : Nat} {cs : List Value} (hr : RdZ h (some ⟨g, o, none⟩) cs) {j : Nat} {v : Value} (hv : cs[j]? = some v) : h.cell g (o + j) = some v := by
  obtain ⟨b', o', e, hc⟩ := hr.at_ j v hv
  injection e with e
  injection e with e1 e2
  subst e1 e2
  exact hc
instance (g o off : Nat) (cs : List Value) [hr : RdZ h (some ⟨g, o, none⟩) cs] : Cells g (o + off) (.zone b h :: L) off cs := cells_zone fun j v hv => by rw [Nat.add_assoc]; exact hr.cell hv
instance (g o : Nat) (cs : List Value) [hr : RdZ h (some ⟨g, o, none⟩) cs] : Cells g o (.zone b h :: L) 0 cs := cells_zone fun j v hv => hr.cell (by rwa [Nat.zero_add] at hv)
instance (priority := 900) (g O : Nat) (cs : List Value) [hr : RdZ h (some ⟨g, 0, none⟩) cs] : Cells g O (.zone b h :: L) O cs := cells_zone fun j v hv => by have := hr.cell hv; rwa [Nat.zero_add] at this
theorem zone_foot {A : Option Addr} {cs : List Value} (hr : RdZ h A cs) {k : Nat} (hk : (Fa.rd A cs).foot k) : (Fa.zone b h).foot k := by
  obtain ⟨hne, o, rfl⟩ := hk
  cases cs with
  | nil => exact (hne rfl).elim
  | cons v cs =>
    have := hr.cell (j := 0) (v := v) rfl
    unfold Zh.cell at this
    cases hb : h k with
    | none => rw [hb] at this; cases this
    | some x => exact ⟨x, hb⟩
instance (priority := 1400) (A : Option Addr) (cs : List Value) [hr : RdZ h A cs] : Rd1 (.zone b h :: L) (.rd A cs) := ⟨fun hw => ⟨rfl, hr.rd hw.zone, fun k hk => ⟨_, List.mem_cons_self .., zone_foot hr hk⟩⟩⟩
instance (priority := 1350) (g o off n : Nat) (cs out : List Value) [hr : RdZ h (some ⟨g, o, none⟩) cs] [hn : Row out n] [hp : RowAt cs off n out] : Rd1 (.zone b h :: L) (.rd (some ⟨g, o + off, none⟩) out) := ⟨fun hw => ⟨rfl, (hr.part hp).rd hw.zone, fun k hk => ⟨_, List.mem_cons_self .., zone_foot (hr.part hp) hk⟩⟩⟩
instance (priority := 1500) : Rd1 (.zone b h :: L) (.zone false h) := ⟨fun hw => ⟨rfl, hw.zone, fun k hk => ⟨_, List.mem_cons_self .., hk⟩⟩⟩
instance (priority := 1450) (h' : Zh) [hl : LeZ h h'] : Rd1 (.zone b h' :: L) (.zone false h) := ⟨fun hw => ⟨rfl, fun k o ho => hw.zone k o (hl.le k o ho), fun k ⟨o, ho⟩ => ⟨_, List.mem_cons_self .., o, hl.le k o ho⟩⟩⟩
/-- where the zone stands -/
class TakeZ (L : List Fa) (h : outParam Zh) (M : outParam (List Fa)) : Prop where
  perm : L.Perm (.zone true h :: M)
instance (h : Zh) (L : List Fa) : TakeZ (.zone true h :: L) h L := ⟨List.Perm.refl _⟩
instance (priority := 100) (f : Fa) (h : Zh) (L M : List Fa) [k : TakeZ L h M] : TakeZ (f :: L) h (f :: M) := ⟨(k.perm.cons f).trans (.swap ..)⟩
end
section
variable {A : List Fa} {W w : World} {n : Nat} {D : List Deferred} {E : Env} {L M M' : List Fa} {K : Act → World → Prop}
theorem Sx.merge {f f1 f2 : Fa} (s : Sx A W w (f1 :: f2 :: L)) (h1 : f1.wr = true) (h2 : f2.wr = true) (hf : f.holds w) (hft : ∀ k, f.foot k → f1.foot k ∨ f2.foot k) : Sx A W w (f :: L) := by
  obtain ⟨p1, p2⟩ := List.pairwise_cons.1 s.sep
  obtain ⟨p3, p4⟩ := List.pairwise_cons.1 p2
  refine ⟨⟨fun g hg => ?_, List.pairwise_cons.2 ⟨fun g hg _ k a b => ?_, p4⟩⟩, s.os, s.tape, s.output, s.size, s.block, fun g hg hw k hk => ?_⟩
  · rcases List.mem_cons.1 hg with rfl | hg
    · exact hf
    · exact s.ok g (List.mem_cons_of_mem _ (List.mem_cons_of_mem _ hg))
  · rcases hft k a with a | a
    · exact p1 g (List.mem_cons_of_mem _ hg) (by rw [h1]; rfl) k a b
    · exact p3 g hg (by rw [h2]; rfl) k a b
  · rcases List.mem_cons.1 hg with rfl | hg
    · rcases hft k hk with a | a
      · exact s.fresh f1 (List.mem_cons_self ..) h1 k a
      · exact s.fresh f2 (List.mem_cons_of_mem _ (List.mem_cons_self ..)) h2 k a
    · exact s.fresh g (List.mem_cons_of_mem _ (List.mem_cons_of_mem _ hg)) hw k hk
theorem Sx.apart {f1 f2 : Fa} (s : Sx A W w (f1 :: f2 :: L)) (h1 : f1.wr = true) {k : Nat} (a : f1.foot k) (b : f2.foot k) : False :=
  (List.pairwise_cons.1 s.sep).1 f2 (List.mem_cons_self ..) (by rw [h1]; rfl) k a b
def Zh.add (h : Zh) (g : Nat) (o : Obj) : Zh := fun k => if k = g then some o else h k
theorem Zh.add_le {h : Zh} {g : Nat} {o : Obj} (hn : h g = none) : LeZ h (h.add g o) := ⟨fun k o' hk => by
  unfold Zh.add
  by_cases e : k = g
  · rw [e, hn] at hk; cases hk
  · rw [if_neg e]; exact hk⟩
theorem Sx.freeze {f : Fa} {h : Zh} {g : Nat} {o : Obj} (s : Sx A W w (f :: .zone true h :: L)) (hf : f.wr = true) (hg : f.foot g) (ho : w.heap[g]? = some o) : LeZ h (h.add g o) ∧ Sx A W w (.zone true (h.add g o) :: L) := by
  have hn : h g = none := by
    cases hb : h g with
    | none => rfl
    | some x => exact (s.apart hf hg ⟨x, hb⟩).elim
  refine ⟨Zh.add_le hn, s.merge hf rfl (fun k o' hk => ?_) fun k ⟨o', hk⟩ => ?_⟩
  all_goals
    unfold Zh.add at hk
    by_cases e : k = g
  · rw [if_pos e] at hk; injection hk with hk; rw [e, ← hk]; exact ho
  · rw [if_neg e] at hk; exact s.ok (.zone true h) (List.mem_cons_of_mem _ (List.mem_cons_self ..)) k o' hk
  · exact .inl (e ▸ hg)
  · rw [if_neg e] at hk; exact .inr ⟨o', hk⟩
theorem Zh.add_cell {h : Zh} {g : Nat} {c : Array Value} {T : TypeId} {z : Nat × Nat} (j : Nat) : (h.add g (.cells c T z)).cell g j = c[j]? := by
  unfold Zh.cell Zh.add
  simp
theorem h_freeze (g : Nat) {cs : List Value} {T : TypeId} {h : Zh} [ht : TakeB g L cs T M] [hz : TakeZ M h M'] (k : ∀ h', LeZ h h' → RdZ h' (some ⟨g, 0, none⟩) cs → H A W n D E (.zone true h' :: M') K) : H A W n D E L K := fun a w ka s => by
  have s2 := (s.perm ht.perm).perm (hz.perm.cons _)
  obtain ⟨h1, h2⟩ := s2.freeze rfl rfl (s2.ok (.blk g cs T) (List.mem_cons_self ..))
  exact k _ h1 ⟨fun j v hv => ⟨g, 0, rfl, by rw [Zh.add_cell, Nat.zero_add]; simpa using hv⟩⟩ a w ka h2
theorem h_freezeO (v : Value) {N e size : Nat} {xs : List Value} {h : Zh} [ht : TakeO v L N e size xs M] [hz : TakeZ M h M'] (k : ∀ h' B c, v = .slice B N c → N ≤ c → xs.length = N * size → (B = none → N = 0 ∧ c = 0) → LeZ h h' → RdZ h' B xs → H A W n D E (.zone true h' :: M') K) : H A W n D E L K := fun a w ka s => by
  have s2 := (s.perm ht.perm).perm (hz.perm.cons _)
  have ho : w.ownsRow 0 e size v N xs := s2.ok (.own v N e size xs) (List.mem_cons_self ..)
  rcases ho.2 with ⟨h1, h2⟩ | ⟨g, cap, cur, h1, _, h3, h4, h5, h6, h7⟩
  · have h0 : N = 0 := h2
    have hxs : xs = [] := List.eq_nil_of_length_eq_zero (by rw [ho.1, h0, Nat.zero_mul])
    refine k h none 0 (by rw [h1, h0]) (by omega) ho.1 (fun _ => ⟨h0, rfl⟩) (LeZ.refl h) (by rw [hxs]; exact RdZ.nil _ _) a w ka s2.tail
  · subst h1
    obtain ⟨e1, e2⟩ := s2.freeze rfl (rfl : (Fa.own (.slice (some ⟨g, 0, none⟩) N cap) N e size xs).foot g) h3
    refine k _ (some ⟨g, 0, none⟩) cap rfl h4 ho.1 (fun e => by cases e) e1 ⟨fun j u hu => ⟨g, 0, rfl, ?_⟩⟩ a w ka e2
    rw [Zh.add_cell, Nat.zero_add, ← Array.getElem?_toList]
    rw [← h7, List.getElem?_take] at hu
    split at hu
    · exact hu
    · cases hu
end
end Go.Proofs.YtjhocljhhpkiiaaGreatDoor
/- N11 -/
namespace Go.Proofs.YtjhocljhhpkiiaaGreatDoor
set_option linter.unusedSimpArgs false
set_option linter.unusedVariables false
open Go.RowKit
/-- a type that is no interface -/
class TConc (P : Program) (T : TypeId) : Prop where
  und : ∃ d, P.underlying T = some d ∧ ∀ l, d ≠ .interface l
/-- the method of a type, behind an interface value -/
class MethT (P : Program) (T : TypeId) (name : String) (f : outParam FuncId) : Prop where
  ok : ∀ v args w, (callMethod (.iface T v) name args).run P w = .ok (.enter f (#[v] ++ args)) w
section
variable {P : Program} {n : Nat} {D : List Deferred} {E : Env} {L : List Fa} {T T' xT : TypeId} {x y : Operand}
theorem run_assert_yes {w : World} {u : Value} {ok : Bool} [hT : TConc P T] : (Instr.typeAssert (.iface T u) xT T ok).run P w = .ok (if ok then .tuple #[u, .bool true] else u) w := by
  obtain ⟨d, hu, hd⟩ := hT.und
  unfold Instr.typeAssert
  rw [Sem.run_bind, run_underlying hu]
  simp only [Result.andThen_ok]
  cases d <;> first | (exact absurd rfl (hd _)) | (cases ok <;> simp)
theorem run_assert_no {w : World} {u z : Value} (ho : ¬ T' = T) (hz : (zeroValue T).run P w = .ok z w) [hT : TConc P T] : (Instr.typeAssert (.iface T' u) xT T true).run P w = .ok (.tuple #[z, .bool false]) w := by
  obtain ⟨d, hu, hd⟩ := hT.und
  unfold Instr.typeAssert
  rw [Sem.run_bind, run_underlying hu]
  simp only [Result.andThen_ok]
  cases d <;> first | (exact absurd rfl (hd _)) | (simp [ho, hz])
/-- the zero value of a type -/
class TZero (P : Program) (T : TypeId) (z : outParam Value) : Prop where
  run : ∀ w, (zeroValue T).run P w = .ok z w
theorem r_as2 {u : Value} [hT : TConc P T] (hx : ev E x = some (.iface T u)) : Runs0 P n D E L (.typeAssert x xT T true) (.tuple #[u, .bool true]) := fun a w ka s o ho => by
  unfold execOp
  simp only [ho, ka.ev hx]
  rw [Sem.run_bind, run_assert_yes]
  rfl
theorem r_as2n {u z : Value} [hT : TConc P T] [hz : TZero P T z] (hx : ev E x = some (.iface T' u)) (hne : ¬ T' = T := by decide) : Runs0 P n D E L (.typeAssert x xT T true) (.tuple #[z, .bool false]) := fun a w ka s o ho => by
  unfold execOp
  simp only [ho, ka.ev hx]
  rw [Sem.run_bind, run_assert_no hne (hz.run w)]
  rfl
theorem r_as1 {u : Value} [hT : TConc P T] (hx : ev E x = some (.iface T u)) : Runs0 P n D E L (.typeAssert x xT T false) u := fun a w ka s o ho => by
  unfold execOp
  simp only [ho, ka.ev hx]
  rw [Sem.run_bind, run_assert_yes]
  rfl
theorem r_mkI {v : Value} [hT : TConc P T] (hx : ev E x = some v) : Runs0 P n D E L (.makeInterface T x) (.iface T v) := by
  obtain ⟨d, hu, hd⟩ := hT.und
  refine r_iface hu ?_ hx
  cases d <;> first | rfl | exact absurd rfl (hd _)
theorem run_equalIn_slN (w : World) (d : Nat) {e : TypeId} (B : Option Addr) (N c : Nat) (h : P.underlying T = some (.slice e)) : (Op.equalIn (d + 1) T (.slice B N c) (.slice none 0 0)).run P w = .ok B.isNone w := by
  cases B <;> simp [Op.equalIn, run_underlying h]
theorem run_eq_slN (w : World) {e : TypeId} (B : Option Addr) (N c : Nat) (h : P.underlying T = some (.slice e)) : (binOp .eql T (.slice B N c) (.slice none 0 0)).run P w = .ok (.bool B.isNone) w := by
  simp only [binOp]
  simp [Op.equal, Op.maxDepth, run_equalIn_slN w 9999 B N c h]
theorem r_slnil {e size bytes : Nat} {z : Value} [E' : TS P T e size bytes z] {B : Option Addr} {N c : Nat} (hx : ev E x = some (.slice B N c)) (hy : ev E y = some (.slice none 0 0)) : Runs0 P n D E L (.binOp .eql T x y T') (.bool B.isNone) := fun a w ka s o ho =>
  run_bin ho (ka.ev hx) (ka.ev hy) rfl (run_eq_slN w B N c E'.el.ht)
/-- a field: where it stands, its type -/
class TFT (P : Program) (T : TypeId) (i : Nat) (off ft : outParam Nat) : Prop where
  fld : ∃ (fs : Array Field) (f : Field), P.underlying T = some (.struct fs) ∧ fs[i]? = some f ∧ f.offset = off ∧ f.type = ft
theorem extract_row {cs out : List Value} {off m : Nat} (h : RowAt cs off m out) : cs.toArray.extract off (off + m) = out.toArray := by
  apply Array.ext'
  simp only [List.extract_toArray, List.extract_eq_drop_take']
  apply List.ext_getElem?
  intro j
  rw [List.getElem?_drop, List.getElem?_take]
  by_cases hj : j < m
  · rw [if_pos (by omega)]
    have hl := h.len
    rw [List.getElem?_eq_getElem (l := out) (by omega)]
    exact h.at_ j _ (List.getElem?_eq_getElem (by omega))
  · rw [if_neg (by omega), List.getElem?_eq_none (by rw [h.len]; omega)]
theorem r_fldr {i off ft m : Nat} {cs out : List Value} [h : TFT P T i off ft] [hr : TRow P ft m] (hx : ev E x = some (.agg cs.toArray)) [hp : RowAt cs off m out] : Runs0 P n D E L (.field T x i) (.agg out.toArray) := fun a w ka s o ho => by
  obtain ⟨fs, f, hu, hf, rfl, rfl⟩ := h.fld
  obtain ⟨d, hu', hd⟩ := hr.und
  have hpr := part_row (w := w) hu' hd hr.size cs.toArray f.offset
  rw [extract_row hp] at hpr
  unfold execOp
  simp only [ho, ka.ev hx, Instr.field, Sem.run_bind, run_underlying hu, Result.andThen_ok, hf, asAgg, Sem.run_pure, hpr]
theorem r_fldc {i off ft : Nat} {cs : List Value} {v : Value} [h : TFT P T i off ft] [hr : TOne P ft] (hx : ev E x = some (.agg cs.toArray)) [hp : CellAt cs off v] : Runs0 P n D E L (.field T x i) v := fun a w ka s o ho => by
  obtain ⟨fs, f, hu, hf, rfl, rfl⟩ := h.fld
  obtain ⟨d, hu', hd⟩ := hr.und
  have hpr : (part f.type cs.toArray f.offset).run P w = .ok v w := by
    have hagg : (isAgg f.type).run P w = .ok false w := by
      unfold isAgg
      rw [Sem.run_bind, run_underlying hu' w]
      cases d <;> simp_all
    unfold part
    rw [Sem.run_bind, hagg]
    have := hp.at_
    simp [this]
  unfold execOp
  simp only [ho, ka.ev hx, Instr.field, Sem.run_bind, run_underlying hu, Result.andThen_ok, hf, asAgg, Sem.run_pure, hpr]
end
section
variable {A : List Fa} {W : World} {n : Nat} {D : List Deferred} {E : Env} {L : List Fa} {P : Program} {ro : Option Nat} {Q : Exit → Act → World → Prop} {ops : Array Oper} {rest : List Oper} {d : Nat} {ty : TypeId} {pos : String} {af : Array Edge} {g : Option (Nat × Bool)}
theorem x_callM {a : Act} {w : World} {o : Oper} {x : Operand} {l : List Operand} {ts : Array TypeId} {f : FuncId} {T : TypeId} {u : Value} {name : String} {argv : List Value} [hm : MethT P T name f] (ka : Kn n D E a) (ho : o.op = .call ⟨.invoke x name, l.toArray, ts⟩) (hx : ev E x = some (.iface T u)) (ha : evs E l = some argv) :
    (execOp a.eval o).run P w = .ok (.enter f (u :: argv).toArray) w := by
  unfold execOp
  simp only [ho, resolve, ka.ev hx, Sem.run_bind, Sem.run_pure, Result.andThen_ok, invoke]
  rw [List.map_toArray, ka.evs ha]
  have e0 : ((#[Value.iface T u] : Array Value) ++ argv.toArray)[0]? = some (.iface T u) := by simp
  rw [e0]
  simp only []
  have e : ((#[Value.iface T u] : Array Value) ++ argv.toArray).extract 1 ((#[Value.iface T u] : Array Value) ++ argv.toArray).size = argv.toArray := by simp
  rw [e]
  have := hm.ok u argv.toArray w
  rw [show ((u :: argv).toArray : Array Value) = #[u] ++ argv.toArray by simp]
  exact this
theorem h_callM {x : Operand} {l : List Operand} {ts : Array TypeId} {f : FuncId} {T : TypeId} {u : Value} {name : String} {argv args : List Value} [MethT P T name f] {τ : Type} {v : τ → Value} {L' : τ → List Fa} (hc : Comes P A W L f args.toArray v L') (hx : ev E x = some (.iface T u)) (ha : evs E l = some argv) (he : u :: argv = args)
    (k : ∀ x, H A W n D ((d, v x) :: E) (L' x) (wpListIn (FR ro) 0 P ops Q rest)) (hd : Nat.blt d n = true := by exact rfl) (hg : wn ops E g = some true := by exact rfl) : H A W n D E L (wpListIn (FR ro) 0 P ops Q (⟨some d, .call ⟨.invoke x name, l.toArray, ts⟩, ty, pos, af, g⟩ :: rest)) := fun a w ka s => by
  unfold wpListIn
  rw [wn_run ka hg, if_pos rfl]
  refine wpIn_ent (x_callM ka rfl hx ha) (he ▸ hc w s) ?_
  rintro e w' ⟨y, rfl, hy⟩
  exact ⟨_, rfl, k y _ _ (ka.put hd _) hy⟩
theorem results3 {fn : Func} {a : Act} {w : World} {r s q : ResultVar} {v u x : Value} (ka : Kn n D E a) (hw : Fx w L) (hf : fn.results = #[r, s, q]) (h : ResV P E L r v) (h1 : ResV P E L s u) (h2 : ResV P E L q x) : (results fn a.tmps).run P w = .ok (.tuple #[v, u, x]) w := by
  cases r with
  | tmp t0 =>
    have e0 := resV_tmp ka h; rw [Array.getD_eq_getD_getElem?] at e0
    cases s with
    | tmp t1 =>
      have e1 := resV_tmp ka h1; rw [Array.getD_eq_getD_getElem?] at e1
      cases q with
      | tmp t2 =>
        have e2 := resV_tmp ka h2; rw [Array.getD_eq_getD_getElem?] at e2
        simp [results, hf, e0, e1, e2, asAddr]
      | cell p2 T2 =>
        obtain ⟨b2, e2, f2⟩ := resV_cell ka hw h2; rw [Array.getD_eq_getD_getElem?] at e2
        simp [results, hf, e0, e1, e2, f2, asAddr]
    | cell p1 T1 =>
      obtain ⟨b1, e1, f1⟩ := resV_cell ka hw h1; rw [Array.getD_eq_getD_getElem?] at e1
      cases q with
      | tmp t2 =>
        have e2 := resV_tmp ka h2; rw [Array.getD_eq_getD_getElem?] at e2
        simp [results, hf, e0, e1, f1, e2, asAddr]
      | cell p2 T2 =>
        obtain ⟨b2, e2, f2⟩ := resV_cell ka hw h2; rw [Array.getD_eq_getD_getElem?] at e2
        simp [results, hf, e0, e1, f1, e2, f2, asAddr]
  | cell p0 T0 =>
    obtain ⟨b0, e0, f0⟩ := resV_cell ka hw h; rw [Array.getD_eq_getD_getElem?] at e0
    cases s with
    | tmp t1 =>
      have e1 := resV_tmp ka h1; rw [Array.getD_eq_getD_getElem?] at e1
      cases q with
      | tmp t2 =>
        have e2 := resV_tmp ka h2; rw [Array.getD_eq_getD_getElem?] at e2
        simp [results, hf, e0, f0, e1, e2, asAddr]
      | cell p2 T2 =>
        obtain ⟨b2, e2, f2⟩ := resV_cell ka hw h2; rw [Array.getD_eq_getD_getElem?] at e2
        simp [results, hf, e0, f0, e1, e2, f2, asAddr]
    | cell p1 T1 =>
      obtain ⟨b1, e1, f1⟩ := resV_cell ka hw h1; rw [Array.getD_eq_getD_getElem?] at e1
      cases q with
      | tmp t2 =>
        have e2 := resV_tmp ka h2; rw [Array.getD_eq_getD_getElem?] at e2
        simp [results, hf, e0, f0, e1, f1, e2, asAddr]
      | cell p2 T2 =>
        obtain ⟨b2, e2, f2⟩ := resV_cell ka hw h2; rw [Array.getD_eq_getD_getElem?] at e2
        simp [results, hf, e0, f0, e1, f1, e2, f2, asAddr]
theorem h_ret3 {fn : Func} {R : Ending → World → Prop} {F : Fence} {m : Nat} {r s q : ResultVar} {v u x : Value} (hf : fn.results = #[r, s, q]) (h : ResV P E L r v) (h1 : ResV P E L s u) (h2 : ResV P E L q x) (hR : ∀ w, Sx A W w L → R (.returned (.tuple #[v, u, x])) w) : H A W n [] E L (bodyPostM F m P fn R .ret) := fun a w ka s' => by
  show LeavesInM F m P fn a.tmps R a.defers .returning w
  rw [ka.defers]
  exact ⟨_, results3 ka s'.toFx hf h h1 h2, hR w s'⟩
end
end Go.Proofs.YtjhocljhhpkiiaaGreatDoor
