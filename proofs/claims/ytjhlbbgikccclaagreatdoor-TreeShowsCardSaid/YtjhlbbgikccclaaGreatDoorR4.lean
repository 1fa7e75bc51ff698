/- A range over a function that makes what it yields: new facts come with each round; Memory that is written once and then read alone: a zone, and what is known of it for good; Interface values: assertions of types, methods. Pointers compared; The seat's types and functions, for the new logic; SHA-256 in plain Lean, as the reference reckons it; Rotations; the padding; The reference's padding and schedule (joined texts: N9 N10 N11 TN E7 U1 U2) -/
import Derived.Test.YtjhlbbgikccclaaGreatDoorR3
import Derived.Test.YtjhlbbgikccclaaGreatDoorRows
import Derived.Shelf.Abstract
set_option linter.all false
/- N9 -/
namespace Go.Proofs.YtjhlbbgikccclaaGreatDoor
open Go.RowKit
def IterG (P : Program) (gf : FuncId) (lb : List Value) (R A : List Fa) {τ : Type} (N : Nat) (enc : Nat → τ → List Value) (G : Nat → τ → List Fa) (A' : List Fa) : Prop :=
 ∀ (l : Nat) (J : Nat → List Fa → Prop) (Rm m0 : List Fa) (w : World), (∀ k m, J k m → ∀ f ∈ m, f.wr = true) →
  (∀ k u m, k < N → J k m → ∀ w, Fx w (G k u ++ m) → Reads w (G k u ++ m) Rm → YieldAt Fence.wide 0 P l (enc k u).toArray w fun e w' => e = .returned (.bool true) ∧ ∃ m', J (k + 1) m' ∧ Rx (G k u ++ m) w w' m') →
  J 0 m0 → Fx w (A ++ m0) → Reads w (A ++ m0) (R ++ Rm) →
  Calls P gf (.func (.yield l) #[] #[] :: lb).toArray w fun e w' => ∃ v m', e = .returned v ∧ J N m' ∧ Rx (A ++ m0) w w' (A' ++ m')
theorem wf_perm {A A' : List Fa} (h : A.Perm A') (k : Nat) : wf A k ↔ wf A' k := ⟨fun ⟨f, hf, h1⟩ => ⟨f, h.mem_iff.1 hf, h1⟩, fun ⟨f, hf, h1⟩ => ⟨f, h.mem_iff.2 hf, h1⟩⟩
theorem Rx.permA {A A' : List Fa} {W w : World} {N : List Fa} (hr : Rx A W w N) (h : A.Perm A') : Rx A' W w N :=
 ⟨⟨hr.toFx, hr.os, hr.tape, hr.output, hr.size, fun k hk hn => hr.block k hk fun hw => hn ((wf_perm h k).1 hw), fun f hf hw k hk => (hr.fresh f hf hw k hk).imp_right (wf_perm h k).1⟩, fun f hf k hk => (hr.all f hf k hk).imp_right (wf_perm h k).1⟩
theorem Reads.perm {w : World} {A A' R : List Fa} (hr : Reads w A R) (h : A.Perm A') : Reads w A' R := fun r hrm => ⟨(hr r hrm).1, (hr r hrm).2.1, fun a ha => (hr r hrm).2.2 a (h.mem_iff.2 ha)⟩
instance (priority := 2000) (G m Rm L M' M : List Fa) [h : Take G L M'] [k : TakeT m Rm M' M] : TakeT (G ++ m) Rm L M := ⟨by
 refine h.perm.trans ?_
 rw [List.append_assoc]
 exact List.Perm.append_left _ k.perm⟩
section
variable {A : List Fa} {W : World} {n : Nat} {D : List Deferred} {E : Env} {L M : List Fa} {P : Program} {Q : Exit → Act → World → Prop}
theorem h_rangeG {τ : Type} {N : Nat} {G : Nat → τ → List Fa} {g : Operand} {ps : List Nat} {assign body : Code} {gf : FuncId} {lb : List Value} {R Ai Ai' : List Fa} {enc : Nat → τ → List Value} (it : IterG P gf lb R Ai N enc G Ai') (hg : ev E g = some (.func (.func gf) #[] lb.toArray)) [eg : Ent P gf]
  (J : Nat → List Fa → Prop) (m0 Rm : List Fa) [ht : Take (Ai ++ m0) L M] [hr : Rds M (R ++ Rm)] (hJw : ∀ k m, J k m → ∀ f ∈ m, f.wr = true) (h0 : J 0 m0) (hps : (ps.all fun p => Nat.blt p n) = true) (hen : ∀ k u, (enc k u).length = ps.length)
  (hround : ∀ (l : Nat) (r : Loop) (k : Nat) (u : τ) (m : List Fa) (W1 : World), r.state = .ready → r.pending = none → k < N → J k m →
   H (.obj l (.loop r) :: (G k u ++ m)) W1 n [] (parEnv ps (enc k u) E) (.obj l (.loop r) :: ((G k u ++ m) ++ Rm)) (assign.wpIn (FR (some l)) 0 P (Exit.then (fun a₁ w₁ => ∃ w₂, (Instr.beginRound l).run P w₁ = .ok () w₂ ∧ body.wpIn (FR (some l)) 0 P (roundPost P l (RoundOk l r (J (k + 1)) (G k u ++ m) W1)) a₁ w₂) (fun _ _ _ => False))))
  (hdone : ∀ (b : Nat) (m : List Fa), J N m → H A W n ({ target := .collected b, args := #[] } :: D) E ((Ai' ++ m) ++ (.obj b (.deferred (some [])) :: M)) (Q .normal)) :
  H A W n D E L ((Code.rangeFunc g ps.toArray assign body).wpIn (FR none) 0 P Q) := fun a w ka s => by
 refine wpIn_rangeFunc ?_
 intro fn hfn
 obtain ⟨rec, hrec⟩ : ∃ rec : Loop, rec = { state := .ready, pending := none, fn, tmps := a.tmps, params := ps.toArray, assign, body, defers := w.heap.size } := ⟨_, rfl⟩
 have s1 := (s.allocObj (.deferred (some []))).allocObj (.loop rec)
 rw [World.size_alloc] at s1
 generalize hW1 : (w.alloc (.deferred (some []))).alloc (.loop rec) = W1 at s1
 have s2 := s1.zag ht.perm
 have hev : a.eval g = .func (.func gf) #[] lb.toArray := ka.ev hg
 refine ⟨w.heap.size + 1, [{ target := .collected w.heap.size, args := #[] }], W1, { target := .fn (.func gf) lb.toArray, args := #[.func (.yield (w.heap.size + 1)) #[] #[]] }, W1, gf, #[.func (.yield (w.heap.size + 1)) #[] #[]] ++ lb.toArray, W1, ?_, ?_, ?_, ?_, (fun h => by cases h), ?_⟩
 ·rw [← hW1, hrec]
  exact run_enterLoop_outer _ _ _ _ _
 ·simp only [resolve, hev]
  simp [go_sem]
 ·intro f' _
  trivial
 ·simp only [invoke]
  exact eg.ok _ _
 ·have hcall := it (w.heap.size + 1) (fun k m => ∃ m1, m = .obj (w.heap.size + 1) (.loop rec) :: m1 ∧ J k m1) Rm (.obj (w.heap.size + 1) (.loop rec) :: m0) W1 (by rintro k m ⟨m1, rfl, hm⟩ f hf; exact (List.mem_cons.1 hf).elim (fun h => by rw [h]; rfl) (hJw k m1 hm f)) ?_ ⟨m0, rfl, h0⟩ (s2.toFx.sub (List.sublist_append_left _ _)) ?_
  ·rw [show (#[.func (.yield (w.heap.size + 1)) #[] #[]] ++ lb.toArray : Array Value) = (.func (.yield (w.heap.size + 1)) #[] #[] :: lb).toArray by simp]
   refine (calls_FR hcall).mono ?_
   rintro e w3 ⟨v, m', rfl, ⟨m1, rfl, hJ⟩, hx⟩
   have s3 := s2.ret hx
   have s4 := s3.perm (M := .obj (w.heap.size + 1) (.loop rec) :: ((Ai' ++ m1) ++ (.obj w.heap.size (.deferred (some [])) :: M))) (by
    simp only [List.append_assoc, List.cons_append]
    exact List.perm_middle)
   have ho : w3.heap[w.heap.size + 1]? = some (.loop rec) := s4.ok (.obj _ _) (List.mem_cons_self ..)
   refine ⟨none, w3.putObj (w.heap.size + 1) (.loop { rec with state := .exhausted }), ?_, ?_⟩
   ·have := run_endLoop (P := P) ho (by rw [hrec]; simp)
    have hpn : rec.pending = none := by rw [hrec]
    rw [this, hpn]
   ·exact hdone _ m1 hJ _ _ ⟨ka.size, by show [_] ++ a.defers = _; rw [ka.defers]; rfl, ka.val⟩ (s4.putObj _).tail
  ·rintro k u m hkN ⟨m1, rfl, hJ⟩ w4 hf0 hR0
   have hpm : (G k u ++ .obj (w.heap.size + 1) (.loop rec) :: m1).Perm (.obj (w.heap.size + 1) (.loop rec) :: (G k u ++ m1)) := List.perm_middle
   have hf := hf0.perm hpm
   have hR := hR0.perm hpm
   have ho : w4.heap[w.heap.size + 1]? = some (.loop rec) := hf.ok (.obj _ _) (List.mem_cons_self ..)
   have hy := run_yield (P := P) (args := (enc k u).toArray) ho (by rw [hrec]; simpa using hen k u)
   refine ⟨_, _, _, _, hy, ?_⟩
   have hk : Kn n [] E { tmps := a.tmps, defers := [] } := ⟨ka.size, rfl, ka.val⟩
   have hk2 := Kn.par ps (enc k u) E a.tmps hps hk
   have hh := hround (w.heap.size + 1) rec k u m1 w4 (by rw [hrec]) (by rw [hrec]) hkN hJ _ w4 hk2 (Sx.start hf hR)
   rw [hrec] at hh ⊢
   refine (roundIn_of_wpIn (F := Fence.wide) trivial (R := RoundOk (w.heap.size + 1) rec (J (k + 1)) (G k u ++ m1) w4) ?_).mono ?_
   ·rw [hrec]
    simp only [List.zip_toArray, List.foldl_toArray]
    exact hh
   ·rintro e w5 ⟨rfl, m', hJ', hx⟩
    rw [← hrec]
    exact ⟨rfl, _, ⟨m', rfl, hJ'⟩, hx.permA hpm.symm⟩
  ·refine s2.reads (M := .obj w.heap.size (.deferred (some [])) :: M) (List.Perm.refl _) ⟨fun hw r hrm => ?_⟩
   obtain ⟨h1, h2, h3⟩ := hr.ok hw.tail r hrm
   exact ⟨h1, h2, fun k hk => let ⟨f, hf, hfk⟩ := h3 k hk; ⟨f, List.mem_cons_of_mem _ hf, hfk⟩⟩
theorem iter_ofG {L1 LL : List Fa → List Fa → List Fa} {gf n : Nat} {fn : Func} {c : Code} {lb : List Value} {R Ai Ai' : List Fa} {τ : Type} {N : Nat} {enc : Nat → τ → List Value} {G : Nat → τ → List Fa} (hf : P.funcs[gf]? = some fn) (hb : fn.body = some c) (hn : fn.ntmps = n) (hl : Nat.ble (lb.length + 1) n = true) [hL1 : ∀ m0 Rm, App R (m0 ++ Rm) (L1 m0 Rm)] [hL2 : ∀ m0 Rm, App Ai (L1 m0 Rm) (LL m0 Rm)]
  (h : ∀ (l : Nat) (J : Nat → List Fa → Prop) (Rm m0 : List Fa) (W : World), (∀ k m, J k m → ∀ f ∈ m, f.wr = true) → (∀ r ∈ Rm, r.wr = false) → (∀ k u m, k < N → J k m → YA P l (enc k u) Rm (G k u ++ m) (J (k + 1))) → J 0 m0 →
   H (Ai ++ m0) W n [] (argsEnv 0 (.func (.yield l) #[] #[] :: lb)) (LL m0 Rm) (c.wpIn (FR none) 0 P (bodyPostM (FR none) 0 P fn fun e w' => ∃ v m', e = .returned v ∧ J N m' ∧ Rx (Ai ++ m0) W w' (Ai' ++ m')))) : IterG P gf lb R Ai N enc G Ai' := fun l J Rm m0 w hJw hy h0 hA hR => by
 have hl' : (Value.func (.yield l) #[] #[] :: lb).length ≤ n := by simpa using hl
 have hp : (Ai ++ m0 ++ (R ++ Rm)).Perm (Ai ++ (R ++ (m0 ++ Rm))) := by
  rw [List.append_assoc]
  refine List.Perm.append_left _ ?_
  rw [← List.append_assoc, ← List.append_assoc]
  exact List.Perm.append_right _ List.perm_append_comm
 have s := (Sx.start hA hR).perm hp
 rw [(hL1 m0 Rm).eq, (hL2 m0 Rm).eq] at s
 refine (callsIn_wide (n := 0)).1 (callsIn_of_wp_marks hf hb trivial (h l J Rm m0 w hJw (fun r hr => (hR r (List.mem_append_right _ hr)).1) hy h0 _ w ⟨?_, rfl, fun t u ht => ?_⟩ s))
 ·simp only [hn, Array.size_append, List.size_toArray, Array.size_replicate]
  omega
 ·obtain ⟨_, h2⟩ := argsEnv_look (.func (.yield l) #[] #[] :: lb) 0 t u ht
  have hlt : t < (Value.func (.yield l) #[] #[] :: lb).length := by
   obtain ⟨h3, _⟩ := List.getElem?_eq_some_iff.1 h2
   simpa using h3
  rw [Array.getElem?_append_left (by simpa using hlt)]
  simpa using h2
end
end Go.Proofs.YtjhlbbgikccclaaGreatDoor
/- N10 -/
namespace Go.Proofs.YtjhlbbgikccclaaGreatDoor
open Go.RowKit
abbrev Zh := Nat → Option Obj
def Zh.cell (h : Zh) (b o : Nat) : Option Value := match h b with
 | some (.cells c _ _) => c[o]?
 | _ => none
class LeZ (h : outParam Zh) (h' : Zh) : Prop where
 le : ∀ k o, h k = some o → h' k = some o
theorem LeZ.refl (h : Zh) : LeZ h h := ⟨fun _ _ h => h⟩
theorem LeZ.trans {a b c : Zh} (h : LeZ a b) (h' : LeZ b c) : LeZ a c := ⟨fun k o e => h'.le k o (h.le k o e)⟩
theorem LeZ.cell {h h' : Zh} (hl : LeZ h h') {b o : Nat} {v : Value} (hc : h.cell b o = some v) : h'.cell b o = some v := by
 unfold Zh.cell at *
 cases hb : h b with
 | none => rw [hb] at hc; cases hc
 | some x => rw [hl.le b x hb]; rw [hb] at hc; exact hc
class RdZ (h : Zh) (A : Option Addr) (cs : outParam (List Value)) : Prop where
 at_ : ∀ j v, cs[j]? = some v → ∃ b o, A = some ⟨b, o, none⟩ ∧ h.cell b (o + j) = some v
theorem RdZ.nil (h : Zh) (A : Option Addr) : RdZ h A [] := ⟨fun j v e => by simp at e⟩
theorem RdZ.mono {h h' : Zh} (hl : LeZ h h') {A : Option Addr} {cs : List Value} (hr : RdZ h A cs) : RdZ h' A cs := ⟨fun j v hv => by
 obtain ⟨b, o, e, hc⟩ := hr.at_ j v hv
 exact ⟨b, o, e, hl.cell hc⟩⟩
theorem RdZ.part {h : Zh} {b o off n : Nat} {cs out : List Value} (hr : RdZ h (some ⟨b, o, none⟩) cs) (hp : RowAt cs off n out) : RdZ h (some ⟨b, o + off, none⟩) out := ⟨fun j v hv => by
 obtain ⟨b', o', e, hc⟩ := hr.at_ (off + j) v (hp.at_ j v hv)
 injection e with e
 injection e with e1 e2
 subst e1 e2
 exact ⟨b, o + off, rfl, by rw [Nat.add_assoc]; exact hc⟩⟩
theorem Zh.cell_of {h : Zh} {w : World} (hw : ∀ k o, h k = some o → w.heap[k]? = some o) {b o : Nat} {v : Value} (hc : h.cell b o = some v) : w.cell? ⟨b, o, none⟩ = some v := by
 unfold Zh.cell at hc
 cases hb : h b with
 | none => rw [hb] at hc; cases hc
 | some x =>
  rw [hb] at hc
  simp only [World.cell?, hw b x hb]
  cases x with
  | cells c T z => simpa using hc
  | _ => cases hc
theorem RdZ.rd {h : Zh} {w : World} (hw : ∀ k o, h k = some o → w.heap[k]? = some o) {A : Option Addr} {cs : List Value} (hr : RdZ h A cs) : Rd w A cs := fun j v hv => by
 obtain ⟨b, o, e, hc⟩ := hr.at_ j v hv
 exact ⟨b, o, e, Zh.cell_of hw hc⟩
def World.zh (w : World) : Zh := fun k => w.heap[k]?
theorem RdZ.of {w : World} {A : Option Addr} {cs : List Value} (hr : Rd w A cs) : RdZ (World.zh w) A cs := ⟨fun j v hv => by
 obtain ⟨b, o, e, hc⟩ := hr j v hv
 refine ⟨b, o, e, ?_⟩
 unfold Zh.cell World.zh
 simp only [World.cell?] at hc
 split at hc
 ·rename_i h1
  rw [h1]
  simpa using hc
 ·cases hc⟩
section
variable {b : Bool} {h : Zh} {L M : List Fa}
theorem Fx.zone {w : World} (hS : Fx w (.zone b h :: L)) : ∀ k o, h k = some o → w.heap[k]? = some o := hS.ok (.zone b h) (List.mem_cons_self ..)
theorem cells_zone {g O off : Nat} {cs : List Value} (hr : ∀ j v, cs[off + j]? = some v → h.cell g (O + j) = some v) : Cells g O (.zone b h :: L) off cs := ⟨fun hS j v hv => Zh.cell_of hS.zone (hr j v hv)⟩
theorem RdZ.cell {g o : Nat} {cs : List Value} (hr : RdZ h (some ⟨g, o, none⟩) cs) {j : Nat} {v : Value} (hv : cs[j]? = some v) : h.cell g (o + j) = some v := by
 obtain ⟨b', o', e, hc⟩ := hr.at_ j v hv
 injection e with e
 injection e with e1 e2
 subst e1 e2
 exact hc
instance (g o off : Nat) (cs : List Value) [hr : RdZ h (some ⟨g, o, none⟩) cs] : Cells g (o + off) (.zone b h :: L) off cs := cells_zone fun j v hv => by rw [Nat.add_assoc]; exact hr.cell hv
instance (g o : Nat) (cs : List Value) [hr : RdZ h (some ⟨g, o, none⟩) cs] : Cells g o (.zone b h :: L) 0 cs := cells_zone fun j v hv => hr.cell (by rwa [Nat.zero_add] at hv)
instance (priority := 900) (g O : Nat) (cs : List Value) [hr : RdZ h (some ⟨g, 0, none⟩) cs] : Cells g O (.zone b h :: L) O cs := cells_zone fun j v hv => by have := hr.cell hv; rwa [Nat.zero_add] at this
theorem zone_foot {A : Option Addr} {cs : List Value} (hr : RdZ h A cs) {k : Nat} (hk : (Fa.rd A cs).foot k) : (Fa.zone b h).foot k := by
 obtain ⟨hne, o, rfl⟩ := hk
 cases cs with
 | nil => exact (hne rfl).elim
 | cons v cs =>
  have := hr.cell (j := 0) (v := v) rfl
  unfold Zh.cell at this
  cases hb : h k with
  | none => rw [hb] at this; cases this
  | some x => exact ⟨x, hb⟩
instance (priority := 1400) (A : Option Addr) (cs : List Value) [hr : RdZ h A cs] : Rd1 (.zone b h :: L) (.rd A cs) := ⟨fun hw => ⟨rfl, hr.rd hw.zone, fun k hk => ⟨_, List.mem_cons_self .., zone_foot hr hk⟩⟩⟩
instance (priority := 1500) : Rd1 (.zone b h :: L) (.zone false h) := ⟨fun hw => ⟨rfl, hw.zone, fun k hk => ⟨_, List.mem_cons_self .., hk⟩⟩⟩
instance (priority := 1450) (h' : Zh) [hl : LeZ h h'] : Rd1 (.zone b h' :: L) (.zone false h) := ⟨fun hw => ⟨rfl, fun k o ho => hw.zone k o (hl.le k o ho), fun k ⟨o, ho⟩ => ⟨_, List.mem_cons_self .., o, hl.le k o ho⟩⟩⟩
class TakeZ (L : List Fa) (h : outParam Zh) (M : outParam (List Fa)) : Prop where
 perm : L.Perm (.zone true h :: M)
instance (h : Zh) (L : List Fa) : TakeZ (.zone true h :: L) h L := ⟨List.Perm.refl _⟩
instance (priority := 100) (f : Fa) (h : Zh) (L M : List Fa) [k : TakeZ L h M] : TakeZ (f :: L) h (f :: M) := ⟨(k.perm.cons f).trans (.swap ..)⟩
end
section
variable {A : List Fa} {W w : World} {n : Nat} {D : List Deferred} {E : Env} {L M M' : List Fa} {K : Act → World → Prop}
theorem Sx.merge {f f1 f2 : Fa} (s : Sx A W w (f1 :: f2 :: L)) (h1 : f1.wr = true) (h2 : f2.wr = true) (hf : f.holds w) (hft : ∀ k, f.foot k → f1.foot k ∨ f2.foot k) : Sx A W w (f :: L) := by
 obtain ⟨p1, p2⟩ := List.pairwise_cons.1 s.sep
 obtain ⟨p3, p4⟩ := List.pairwise_cons.1 p2
 refine ⟨⟨fun g hg => ?_, List.pairwise_cons.2 ⟨fun g hg _ k a b => ?_, p4⟩⟩, s.os, s.tape, s.output, s.size, s.block, fun g hg hw k hk => ?_⟩
 ·rcases List.mem_cons.1 hg with rfl | hg
  ·exact hf
  ·exact s.ok g (List.mem_cons_of_mem _ (List.mem_cons_of_mem _ hg))
 ·rcases hft k a with a | a
  ·exact p1 g (List.mem_cons_of_mem _ hg) (by rw [h1]; rfl) k a b
  ·exact p3 g hg (by rw [h2]; rfl) k a b
 ·rcases List.mem_cons.1 hg with rfl | hg
  ·rcases hft k hk with a | a
   ·exact s.fresh f1 (List.mem_cons_self ..) h1 k a
   ·exact s.fresh f2 (List.mem_cons_of_mem _ (List.mem_cons_self ..)) h2 k a
  ·exact s.fresh g (List.mem_cons_of_mem _ (List.mem_cons_of_mem _ hg)) hw k hk
theorem Sx.apart {f1 f2 : Fa} (s : Sx A W w (f1 :: f2 :: L)) (h1 : f1.wr = true) {k : Nat} (a : f1.foot k) (b : f2.foot k) : False :=
 (List.pairwise_cons.1 s.sep).1 f2 (List.mem_cons_self ..) (by rw [h1]; rfl) k a b
def Zh.add (h : Zh) (g : Nat) (o : Obj) : Zh := fun k => if k = g then some o else h k
theorem Zh.add_le {h : Zh} {g : Nat} {o : Obj} (hn : h g = none) : LeZ h (h.add g o) := ⟨fun k o' hk => by
 unfold Zh.add
 by_cases e : k = g
 ·rw [e, hn] at hk; cases hk
 ·rw [if_neg e]; exact hk⟩
theorem Sx.freeze {f : Fa} {h : Zh} {g : Nat} {o : Obj} (s : Sx A W w (f :: .zone true h :: L)) (hf : f.wr = true) (hg : f.foot g) (ho : w.heap[g]? = some o) : LeZ h (h.add g o) ∧ Sx A W w (.zone true (h.add g o) :: L) := by
 have hn : h g = none := by
  cases hb : h g with
  | none => rfl
  | some x => exact (s.apart hf hg ⟨x, hb⟩).elim
 refine ⟨Zh.add_le hn, s.merge hf rfl (fun k o' hk => ?_) fun k ⟨o', hk⟩ => ?_⟩
 all_goals
  unfold Zh.add at hk
  by_cases e : k = g
 ·rw [if_pos e] at hk; injection hk with hk; rw [e, ← hk]; exact ho
 ·rw [if_neg e] at hk; exact s.ok (.zone true h) (List.mem_cons_of_mem _ (List.mem_cons_self ..)) k o' hk
 ·exact .inl (e ▸ hg)
 ·rw [if_neg e] at hk; exact .inr ⟨o', hk⟩
theorem Zh.add_cell {h : Zh} {g : Nat} {c : Array Value} {T : TypeId} {z : Nat × Nat} (j : Nat) : (h.add g (.cells c T z)).cell g j = c[j]? := by
 unfold Zh.cell Zh.add
 simp
theorem h_freeze (g : Nat) {cs : List Value} {T : TypeId} {h : Zh} [ht : TakeB g L cs T M] [hz : TakeZ M h M'] (k : ∀ h', LeZ h h' → RdZ h' (some ⟨g, 0, none⟩) cs → H A W n D E (.zone true h' :: M') K) : H A W n D E L K := fun a w ka s => by
 have s2 := (s.perm ht.perm).perm (hz.perm.cons _)
 obtain ⟨h1, h2⟩ := s2.freeze rfl rfl (s2.ok (.blk g cs T) (List.mem_cons_self ..))
 exact k _ h1 ⟨fun j v hv => ⟨g, 0, rfl, by rw [Zh.add_cell, Nat.zero_add]; simpa using hv⟩⟩ a w ka h2
theorem h_freezeO (v : Value) {N e size : Nat} {xs : List Value} {h : Zh} [ht : TakeO v L N e size xs M] [hz : TakeZ M h M'] (k : ∀ h' B c, v = .slice B N c → N ≤ c → xs.length = N * size → (B = none → N = 0 ∧ c = 0) → LeZ h h' → RdZ h' B xs → H A W n D E (.zone true h' :: M') K) : H A W n D E L K := fun a w ka s => by
 have s2 := (s.perm ht.perm).perm (hz.perm.cons _)
 have ho : w.ownsRow 0 e size v N xs := s2.ok (.own v N e size xs) (List.mem_cons_self ..)
 rcases ho.2 with ⟨h1, h2⟩ | ⟨g, cap, cur, h1, _, h3, h4, h5, h6, h7⟩
 ·have h0 : N = 0 := h2
  have hxs : xs = [] := List.eq_nil_of_length_eq_zero (by rw [ho.1, h0, Nat.zero_mul])
  refine k h none 0 (by rw [h1, h0]) (by omega) ho.1 (fun _ => ⟨h0, rfl⟩) (LeZ.refl h) (by rw [hxs]; exact RdZ.nil _ _) a w ka s2.tail
 ·subst h1
  obtain ⟨e1, e2⟩ := s2.freeze rfl (rfl : (Fa.own (.slice (some ⟨g, 0, none⟩) N cap) N e size xs).foot g) h3
  refine k _ (some ⟨g, 0, none⟩) cap rfl h4 ho.1 (fun e => by cases e) e1 ⟨fun j u hu => ⟨g, 0, rfl, ?_⟩⟩ a w ka e2
  rw [Zh.add_cell, Nat.zero_add, ← Array.getElem?_toList]
  rw [← h7, List.getElem?_take] at hu
  split at hu
  ·exact hu
  ·cases hu
end
end Go.Proofs.YtjhlbbgikccclaaGreatDoor
/- N11 -/
namespace Go.Proofs.YtjhlbbgikccclaaGreatDoor
open Go.RowKit
class TConc (P : Program) (T : TypeId) : Prop where
 und : ∃ d, P.underlying T = some d ∧ ∀ l, d ≠ .interface l
class MethT (P : Program) (T : TypeId) (name : String) (f : outParam FuncId) : Prop where
 ok : ∀ v args w, (callMethod (.iface T v) name args).run P w = .ok (.enter f (#[v] ++ args)) w
section
variable {P : Program} {n : Nat} {D : List Deferred} {E : Env} {L : List Fa} {T T' xT : TypeId} {x y : Operand}
theorem run_assert_yes {w : World} {u : Value} {ok : Bool} [hT : TConc P T] : (Instr.typeAssert (.iface T u) xT T ok).run P w = .ok (if ok then .tuple #[u, .bool true] else u) w := by
 obtain ⟨d, hu, hd⟩ := hT.und
 unfold Instr.typeAssert
 rw [Sem.run_bind, run_underlying hu]
 simp only [Result.andThen_ok]
 cases d <;> first | (exact absurd rfl (hd _)) | (cases ok <;> simp)
theorem run_assert_no {w : World} {u z : Value} (ho : ¬ T' = T) (hz : (zeroValue T).run P w = .ok z w) [hT : TConc P T] : (Instr.typeAssert (.iface T' u) xT T true).run P w = .ok (.tuple #[z, .bool false]) w := by
 obtain ⟨d, hu, hd⟩ := hT.und
 unfold Instr.typeAssert
 rw [Sem.run_bind, run_underlying hu]
 simp only [Result.andThen_ok]
 cases d <;> first | (exact absurd rfl (hd _)) | (simp [ho, hz])
class TZero (P : Program) (T : TypeId) (z : outParam Value) : Prop where
 run : ∀ w, (zeroValue T).run P w = .ok z w
theorem r_as2 {u : Value} [hT : TConc P T] (hx : ev E x = some (.iface T u)) : Runs0 P n D E L (.typeAssert x xT T true) (.tuple #[u, .bool true]) := fun a w ka s o ho => by
 unfold execOp
 simp only [ho, ka.ev hx]
 rw [Sem.run_bind, run_assert_yes]
 rfl
theorem r_as2n {u z : Value} [hT : TConc P T] [hz : TZero P T z] (hx : ev E x = some (.iface T' u)) (hne : ¬ T' = T := by decide) : Runs0 P n D E L (.typeAssert x xT T true) (.tuple #[z, .bool false]) := fun a w ka s o ho => by
 unfold execOp
 simp only [ho, ka.ev hx]
 rw [Sem.run_bind, run_assert_no hne (hz.run w)]
 rfl
theorem r_as1 {u : Value} [hT : TConc P T] (hx : ev E x = some (.iface T u)) : Runs0 P n D E L (.typeAssert x xT T false) u := fun a w ka s o ho => by
 unfold execOp
 simp only [ho, ka.ev hx]
 rw [Sem.run_bind, run_assert_yes]
 rfl
theorem r_mkI {v : Value} [hT : TConc P T] (hx : ev E x = some v) : Runs0 P n D E L (.makeInterface T x) (.iface T v) := by
 obtain ⟨d, hu, hd⟩ := hT.und
 refine r_iface hu ?_ hx
 cases d <;> first | rfl | exact absurd rfl (hd _)
theorem run_equalIn_slN (w : World) (d : Nat) {e : TypeId} (B : Option Addr) (N c : Nat) (h : P.underlying T = some (.slice e)) : (Op.equalIn (d + 1) T (.slice B N c) (.slice none 0 0)).run P w = .ok B.isNone w := by
 cases B <;> simp [Op.equalIn, run_underlying h]
theorem run_eq_slN (w : World) {e : TypeId} (B : Option Addr) (N c : Nat) (h : P.underlying T = some (.slice e)) : (binOp .eql T (.slice B N c) (.slice none 0 0)).run P w = .ok (.bool B.isNone) w := by
 simp only [binOp]
 simp [Op.equal, Op.maxDepth, run_equalIn_slN w 9999 B N c h]
theorem r_slnil {e size bytes : Nat} {z : Value} [E' : TS P T e size bytes z] {B : Option Addr} {N c : Nat} (hx : ev E x = some (.slice B N c)) (hy : ev E y = some (.slice none 0 0)) : Runs0 P n D E L (.binOp .eql T x y T') (.bool B.isNone) := fun a w ka s o ho =>
 run_bin ho (ka.ev hx) (ka.ev hy) rfl (run_eq_slN w B N c E'.el.ht)
class TFT (P : Program) (T : TypeId) (i : Nat) (off ft : outParam Nat) : Prop where
 fld : ∃ (fs : Array Field) (f : Field), P.underlying T = some (.struct fs) ∧ fs[i]? = some f ∧ f.offset = off ∧ f.type = ft
theorem extract_row {cs out : List Value} {off m : Nat} (h : RowAt cs off m out) : cs.toArray.extract off (off + m) = out.toArray := by
 apply Array.ext'
 simp only [List.extract_toArray, List.extract_eq_drop_take']
 apply List.ext_getElem?
 intro j
 rw [List.getElem?_drop, List.getElem?_take]
 by_cases hj : j < m
 ·rw [if_pos (by omega)]
  have hl := h.len
  rw [List.getElem?_eq_getElem (l := out) (by omega)]
  exact h.at_ j _ (List.getElem?_eq_getElem (by omega))
 ·rw [if_neg (by omega), List.getElem?_eq_none (by rw [h.len]; omega)]
theorem r_fldr {i off ft m : Nat} {cs out : List Value} [h : TFT P T i off ft] [hr : TRow P ft m] (hx : ev E x = some (.agg cs.toArray)) [hp : RowAt cs off m out] : Runs0 P n D E L (.field T x i) (.agg out.toArray) := fun a w ka s o ho => by
 obtain ⟨fs, f, hu, hf, rfl, rfl⟩ := h.fld
 obtain ⟨d, hu', hd⟩ := hr.und
 have hpr := part_row (w := w) hu' hd hr.size cs.toArray f.offset
 rw [extract_row hp] at hpr
 unfold execOp
 simp only [ho, ka.ev hx, Instr.field, Sem.run_bind, run_underlying hu, Result.andThen_ok, hf, asAgg, Sem.run_pure, hpr]
theorem r_fldc {i off ft : Nat} {cs : List Value} {v : Value} [h : TFT P T i off ft] [hr : TOne P ft] (hx : ev E x = some (.agg cs.toArray)) [hp : CellAt cs off v] : Runs0 P n D E L (.field T x i) v := fun a w ka s o ho => by
 obtain ⟨fs, f, hu, hf, rfl, rfl⟩ := h.fld
 obtain ⟨d, hu', hd⟩ := hr.und
 have hpr : (part f.type cs.toArray f.offset).run P w = .ok v w := by
  have hagg : (isAgg f.type).run P w = .ok false w := by
   unfold isAgg
   rw [Sem.run_bind, run_underlying hu' w]
   cases d <;> simp_all
  unfold part
  rw [Sem.run_bind, hagg]
  have := hp.at_
  simp [this]
 unfold execOp
 simp only [ho, ka.ev hx, Instr.field, Sem.run_bind, run_underlying hu, Result.andThen_ok, hf, asAgg, Sem.run_pure, hpr]
end
section
variable {A : List Fa} {W : World} {n : Nat} {D : List Deferred} {E : Env} {L : List Fa} {P : Program} {ro : Option Nat} {Q : Exit → Act → World → Prop} {ops : Array Oper} {rest : List Oper} {d : Nat} {ty : TypeId} {pos : String} {af : Array Edge} {g : Option (Nat × Bool)}
theorem x_callM {a : Act} {w : World} {o : Oper} {x : Operand} {l : List Operand} {ts : Array TypeId} {f : FuncId} {T : TypeId} {u : Value} {name : String} {argv : List Value} [hm : MethT P T name f] (ka : Kn n D E a) (ho : o.op = .call ⟨.invoke x name, l.toArray, ts⟩) (hx : ev E x = some (.iface T u)) (ha : evs E l = some argv) :
  (execOp a.eval o).run P w = .ok (.enter f (u :: argv).toArray) w := by
 unfold execOp
 simp only [ho, resolve, ka.ev hx, Sem.run_bind, Sem.run_pure, Result.andThen_ok, invoke]
 rw [List.map_toArray, ka.evs ha]
 have e0 : ((#[Value.iface T u] : Array Value) ++ argv.toArray)[0]? = some (.iface T u) := by simp
 rw [e0]
 simp only []
 have e : ((#[Value.iface T u] : Array Value) ++ argv.toArray).extract 1 ((#[Value.iface T u] : Array Value) ++ argv.toArray).size = argv.toArray := by simp
 rw [e]
 have := hm.ok u argv.toArray w
 rw [show ((u :: argv).toArray : Array Value) = #[u] ++ argv.toArray by simp]
 exact this
theorem h_callM {x : Operand} {l : List Operand} {ts : Array TypeId} {f : FuncId} {T : TypeId} {u : Value} {name : String} {argv args : List Value} [MethT P T name f] {τ : Type} {v : τ → Value} {L' : τ → List Fa} (hc : Comes P A W L f args.toArray v L') (hx : ev E x = some (.iface T u)) (ha : evs E l = some argv) (he : u :: argv = args)
  (k : ∀ x, H A W n D ((d, v x) :: E) (L' x) (wpListIn (FR ro) 0 P ops Q rest)) (hd : Nat.blt d n = true := by exact rfl) (hg : wn ops E g = some true := by exact rfl) : H A W n D E L (wpListIn (FR ro) 0 P ops Q (⟨some d, .call ⟨.invoke x name, l.toArray, ts⟩, ty, pos, af, g⟩ :: rest)) := fun a w ka s => by
 unfold wpListIn
 rw [wn_run ka hg, if_pos rfl]
 refine wpIn_ent (x_callM ka rfl hx ha) (he ▸ hc w s) ?_
 rintro e w' ⟨y, rfl, hy⟩
 exact ⟨_, rfl, k y _ _ (ka.put hd _) hy⟩
theorem results3 {fn : Func} {a : Act} {w : World} {r s q : ResultVar} {v u x : Value} (ka : Kn n D E a) (hw : Fx w L) (hf : fn.results = #[r, s, q]) (h : ResV P E L r v) (h1 : ResV P E L s u) (h2 : ResV P E L q x) : (results fn a.tmps).run P w = .ok (.tuple #[v, u, x]) w := by
 cases r with
 | tmp t0 =>
  have e0 := resV_tmp ka h; rw [Array.getD_eq_getD_getElem?] at e0
  cases s with
  | tmp t1 =>
   have e1 := resV_tmp ka h1; rw [Array.getD_eq_getD_getElem?] at e1
   cases q with
   | tmp t2 =>
    have e2 := resV_tmp ka h2; rw [Array.getD_eq_getD_getElem?] at e2
    simp [results, hf, e0, e1, e2, asAddr]
   | cell p2 T2 =>
    obtain ⟨b2, e2, f2⟩ := resV_cell ka hw h2; rw [Array.getD_eq_getD_getElem?] at e2
    simp [results, hf, e0, e1, e2, f2, asAddr]
  | cell p1 T1 =>
   obtain ⟨b1, e1, f1⟩ := resV_cell ka hw h1; rw [Array.getD_eq_getD_getElem?] at e1
   cases q with
   | tmp t2 =>
    have e2 := resV_tmp ka h2; rw [Array.getD_eq_getD_getElem?] at e2
    simp [results, hf, e0, e1, f1, e2, asAddr]
   | cell p2 T2 =>
    obtain ⟨b2, e2, f2⟩ := resV_cell ka hw h2; rw [Array.getD_eq_getD_getElem?] at e2
    simp [results, hf, e0, e1, f1, e2, f2, asAddr]
 | cell p0 T0 =>
  obtain ⟨b0, e0, f0⟩ := resV_cell ka hw h; rw [Array.getD_eq_getD_getElem?] at e0
  cases s with
  | tmp t1 =>
   have e1 := resV_tmp ka h1; rw [Array.getD_eq_getD_getElem?] at e1
   cases q with
   | tmp t2 =>
    have e2 := resV_tmp ka h2; rw [Array.getD_eq_getD_getElem?] at e2
    simp [results, hf, e0, f0, e1, e2, asAddr]
   | cell p2 T2 =>
    obtain ⟨b2, e2, f2⟩ := resV_cell ka hw h2; rw [Array.getD_eq_getD_getElem?] at e2
    simp [results, hf, e0, f0, e1, e2, f2, asAddr]
  | cell p1 T1 =>
   obtain ⟨b1, e1, f1⟩ := resV_cell ka hw h1; rw [Array.getD_eq_getD_getElem?] at e1
   cases q with
   | tmp t2 =>
    have e2 := resV_tmp ka h2; rw [Array.getD_eq_getD_getElem?] at e2
    simp [results, hf, e0, f0, e1, f1, e2, asAddr]
   | cell p2 T2 =>
    obtain ⟨b2, e2, f2⟩ := resV_cell ka hw h2; rw [Array.getD_eq_getD_getElem?] at e2
    simp [results, hf, e0, f0, e1, f1, e2, f2, asAddr]
theorem h_ret3 {fn : Func} {R : Ending → World → Prop} {F : Fence} {m : Nat} {r s q : ResultVar} {v u x : Value} (hf : fn.results = #[r, s, q]) (h : ResV P E L r v) (h1 : ResV P E L s u) (h2 : ResV P E L q x) (hR : ∀ w, Sx A W w L → R (.returned (.tuple #[v, u, x])) w) : H A W n [] E L (bodyPostM F m P fn R .ret) := fun a w ka s' => by
 show LeavesInM F m P fn a.tmps R a.defers .returning w
 rw [ka.defers]
 exact ⟨_, results3 ka s'.toFx hf h h1 h2, hR w s'⟩
end
end Go.Proofs.YtjhlbbgikccclaaGreatDoor
/- TN -/
namespace Go.Proofs.YtjhlbbgikccclaaGreatDoor
open Go.RowKit Go.Shelf
instance : TOne Tryz.prog 3 := ⟨⟨_, Tryz.underlying3, rfl⟩, by kernel_rfl⟩
instance : TZ Tryz.prog 3 [.int .i64 0] := ⟨⟨.int .i64 0, by kernel_rfl, rfl⟩⟩
instance : TOne Tryz.prog 4 := ⟨⟨_, Tryz.underlying4, rfl⟩, by kernel_rfl⟩
instance : TZ Tryz.prog 4 [.bool false] := ⟨⟨.bool false, by kernel_rfl, rfl⟩⟩
instance : TOne Tryz.prog 5 := ⟨⟨_, Tryz.underlying5, rfl⟩, by kernel_rfl⟩
instance : TOne Tryz.prog 9 := ⟨⟨_, Tryz.underlying9, rfl⟩, by kernel_rfl⟩
instance : TS Tryz.prog 22 85 4 80 (.agg #[.int .i64 0, .slice none 0 0, .slice none 0 0, .slice none 0 0]) := ⟨⟨Tryz.underlying22, by kernel_rfl, rfl, by decide, by decide⟩⟩
instance : TOne Tryz.prog 24 := ⟨⟨_, Tryz.underlying24, rfl⟩, by kernel_rfl⟩
instance : TZ Tryz.prog 24 [.slice none 0 0] := ⟨⟨.slice none 0 0, by kernel_rfl, rfl⟩⟩
instance : TS Tryz.prog 24 89 33 56 (.agg zEntry.cells.toArray) := ⟨⟨Tryz.underlying24, by kernel_rfl, by simp [Value.cells, Entry.cells_length], by decide, by decide⟩⟩
instance : TOne Tryz.prog 28 := ⟨⟨_, Tryz.underlying28, rfl⟩, by kernel_rfl⟩
instance : TS Tryz.prog 28 39 3 56 (.agg zUpdate.cells.toArray) := ⟨⟨Tryz.underlying28, by kernel_rfl, by simp [Value.cells, Update.cells_length], by decide, by decide⟩⟩
instance : TS Tryz.prog 29 37 34 64 (.agg zChange.cells.toArray) := ⟨⟨Tryz.underlying29, by kernel_rfl, by simp [Value.cells, Change.cells_length], by decide, by decide⟩⟩
instance : TOne Tryz.prog 31 := ⟨⟨_, Tryz.underlying31, rfl⟩, by kernel_rfl⟩
instance : TZ Tryz.prog 31 [.pointer none] := ⟨⟨.pointer none, by kernel_rfl, rfl⟩⟩
instance : TArr Tryz.prog 33 32 5 1 := ⟨Tryz.underlying33, by kernel_rfl⟩
instance : TRow Tryz.prog 34 32 := ⟨⟨_, Tryz.underlying34, rfl⟩, by kernel_rfl⟩
instance : TArr Tryz.prog 34 32 5 1 := ⟨Tryz.underlying34, by kernel_rfl⟩
instance : TZ Tryz.prog 34 zB32.cells := ⟨⟨.agg zB32.cells.toArray, by kernel_rfl, rfl⟩⟩
instance : TB Tryz.prog 34 zB32.cells (plArr 1) := ⟨fun w ps cells h => run_build_array Tryz.underlying34 (z := zB32.cells.toArray) (n := 32) (by kernel_rfl) (s := 1) (by kernel_rfl) h⟩
instance (x y : B32) : TEq Tryz.prog 34 x.cells y.cells (decide (x = y)) := ⟨fun w d => eq_B32 (d + 4) Tryz.underlying34 Tryz.underlying5 (by kernel_rfl) x y, Tryz.eqGuardType34⟩
instance : TOne Tryz.prog 35 := ⟨⟨_, Tryz.underlying35, rfl⟩, by kernel_rfl⟩
instance : TS Tryz.prog 35 5 1 1 (.int .u8 0) := ⟨⟨Tryz.underlying35, by kernel_rfl, rfl, by decide, by decide⟩⟩
instance : TRow Tryz.prog 37 34 := ⟨⟨_, Tryz.underlying37, rfl⟩, by kernel_rfl⟩
instance : TFA Tryz.prog 37 0 0 := ⟨⟨_, _, 31, Tryz.underlying37, rfl, rfl, by kernel_rfl⟩⟩
instance : TFA Tryz.prog 37 1 32 := ⟨⟨_, _, 0, Tryz.underlying37, rfl, rfl, by kernel_rfl⟩⟩
instance : TFA Tryz.prog 37 2 33 := ⟨⟨_, _, 0, Tryz.underlying37, rfl, rfl, by kernel_rfl⟩⟩
instance : TZ Tryz.prog 37 zChange.cells := ⟨⟨.agg zChange.cells.toArray, by kernel_rfl, rfl⟩⟩
def pl37 : Nat → Option (Nat × Nat) := fun i => ([(0, 32), (32, 1), (33, 1)] : List (Nat × Nat)).toArray[i]?
instance : Place pl37 0 0 32 := ⟨rfl⟩
instance : Place pl37 1 32 1 := ⟨rfl⟩
instance : Place pl37 2 33 1 := ⟨rfl⟩
instance : TB Tryz.prog 37 zChange.cells pl37 := ⟨fun w ps cells h => run_build_struct (fl := _) Tryz.underlying37 (z := zChange.cells.toArray) (n := 34) (by kernel_rfl) (pl := [(0, 32), (32, 1), (33, 1)]) (by kernel_rfl) h⟩
instance : TRow Tryz.prog 39 3 := ⟨⟨_, Tryz.underlying39, rfl⟩, by kernel_rfl⟩
instance : TFA Tryz.prog 39 0 0 := ⟨⟨_, _, 0, Tryz.underlying39, rfl, rfl, by kernel_rfl⟩⟩
instance : TFA Tryz.prog 39 1 1 := ⟨⟨_, _, 0, Tryz.underlying39, rfl, rfl, by kernel_rfl⟩⟩
instance : TFA Tryz.prog 39 2 2 := ⟨⟨_, _, 0, Tryz.underlying39, rfl, rfl, by kernel_rfl⟩⟩
instance : TZ Tryz.prog 39 zUpdate.cells := ⟨⟨.agg zUpdate.cells.toArray, by kernel_rfl, rfl⟩⟩
def pl39 : Nat → Option (Nat × Nat) := fun i => ([(0, 1), (1, 1), (2, 1)] : List (Nat × Nat)).toArray[i]?
instance : Place pl39 0 0 1 := ⟨rfl⟩
instance : Place pl39 1 1 1 := ⟨rfl⟩
instance : Place pl39 2 2 1 := ⟨rfl⟩
instance : TB Tryz.prog 39 zUpdate.cells pl39 := ⟨fun w ps cells h => run_build_struct (fl := _) Tryz.underlying39 (z := zUpdate.cells.toArray) (n := 3) (by kernel_rfl) (pl := [(0, 1), (1, 1), (2, 1)]) (by kernel_rfl) h⟩
instance : TOne Tryz.prog 43 := ⟨⟨_, Tryz.underlying43, rfl⟩, by kernel_rfl⟩
instance : TRow Tryz.prog 45 32 := ⟨⟨_, Tryz.underlying45, rfl⟩, by kernel_rfl⟩
instance : TArr Tryz.prog 45 32 5 1 := ⟨Tryz.underlying45, by kernel_rfl⟩
instance : TZ Tryz.prog 45 zB32.cells := ⟨⟨.agg zB32.cells.toArray, by kernel_rfl, rfl⟩⟩
instance : TB Tryz.prog 45 zB32.cells (plArr 1) := ⟨fun w ps cells h => run_build_array Tryz.underlying45 (z := zB32.cells.toArray) (n := 32) (by kernel_rfl) (s := 1) (by kernel_rfl) h⟩
instance (x y : B32) : TEq Tryz.prog 45 x.cells y.cells (decide (x = y)) := ⟨fun w d => eq_B32 (d + 4) Tryz.underlying45 Tryz.underlying5 (by kernel_rfl) x y, Tryz.eqGuardType45⟩
instance : TOne Tryz.prog 54 := ⟨⟨_, Tryz.underlying54, rfl⟩, by kernel_rfl⟩
instance : TZ Tryz.prog 54 [.int .i64 0] := ⟨⟨.int .i64 0, by kernel_rfl, rfl⟩⟩
instance : TOne Tryz.prog 56 := ⟨⟨_, Tryz.underlying56, rfl⟩, by kernel_rfl⟩
instance : TRow Tryz.prog 60 64 := ⟨⟨_, Tryz.underlying60, rfl⟩, by kernel_rfl⟩
instance : TFA Tryz.prog 60 0 0 := ⟨⟨_, _, 31, Tryz.underlying60, rfl, rfl, by kernel_rfl⟩⟩
instance : TFA Tryz.prog 60 1 32 := ⟨⟨_, _, 31, Tryz.underlying60, rfl, rfl, by kernel_rfl⟩⟩
instance : TZ Tryz.prog 60 zLeaf.cells := ⟨⟨.agg zLeaf.cells.toArray, by kernel_rfl, rfl⟩⟩
def pl60 : Nat → Option (Nat × Nat) := fun i => ([(0, 32), (32, 32)] : List (Nat × Nat)).toArray[i]?
instance : Place pl60 0 0 32 := ⟨rfl⟩
instance : Place pl60 1 32 32 := ⟨rfl⟩
instance : TB Tryz.prog 60 zLeaf.cells pl60 := ⟨fun w ps cells h => run_build_struct (fl := _) Tryz.underlying60 (z := zLeaf.cells.toArray) (n := 64) (by kernel_rfl) (pl := [(0, 32), (32, 32)]) (by kernel_rfl) h⟩
instance : TRow Tryz.prog 85 4 := ⟨⟨_, Tryz.underlying85, rfl⟩, by kernel_rfl⟩
instance : TFA Tryz.prog 85 0 0 := ⟨⟨_, _, 0, Tryz.underlying85, rfl, rfl, by kernel_rfl⟩⟩
instance : TFA Tryz.prog 85 1 1 := ⟨⟨_, _, 0, Tryz.underlying85, rfl, rfl, by kernel_rfl⟩⟩
instance : TFA Tryz.prog 85 2 2 := ⟨⟨_, _, 0, Tryz.underlying85, rfl, rfl, by kernel_rfl⟩⟩
instance : TFA Tryz.prog 85 3 3 := ⟨⟨_, _, 0, Tryz.underlying85, rfl, rfl, by kernel_rfl⟩⟩
instance : TZ Tryz.prog 85 ([.int .i64 0, .slice none 0 0, .slice none 0 0, .slice none 0 0]) := ⟨⟨.agg #[.int .i64 0, .slice none 0 0, .slice none 0 0, .slice none 0 0], by kernel_rfl, rfl⟩⟩
def pl85 : Nat → Option (Nat × Nat) := fun i => ([(0, 1), (1, 1), (2, 1), (3, 1)] : List (Nat × Nat)).toArray[i]?
instance : Place pl85 0 0 1 := ⟨rfl⟩
instance : Place pl85 3 3 1 := ⟨rfl⟩
instance : TB Tryz.prog 85 ([.int .i64 0, .slice none 0 0, .slice none 0 0, .slice none 0 0]) pl85 := ⟨fun w ps cells h => run_build_struct (fl := _) Tryz.underlying85 (z := ([.int .i64 0, .slice none 0 0, .slice none 0 0, .slice none 0 0] : List Value).toArray) (n := 4) (by kernel_rfl) (pl := [(0, 1), (1, 1), (2, 1), (3, 1)]) (by kernel_rfl) h⟩
instance : TRow Tryz.prog 89 33 := ⟨⟨_, Tryz.underlying89, rfl⟩, by kernel_rfl⟩
instance : TFA Tryz.prog 89 0 0 := ⟨⟨_, _, 31, Tryz.underlying89, rfl, rfl, by kernel_rfl⟩⟩
instance : TFA Tryz.prog 89 1 32 := ⟨⟨_, _, 0, Tryz.underlying89, rfl, rfl, by kernel_rfl⟩⟩
instance : TZ Tryz.prog 89 zEntry.cells := ⟨⟨.agg zEntry.cells.toArray, by kernel_rfl, rfl⟩⟩
def pl89 : Nat → Option (Nat × Nat) := fun i => ([(0, 32), (32, 1)] : List (Nat × Nat)).toArray[i]?
instance : Place pl89 0 0 32 := ⟨rfl⟩
instance : Place pl89 1 32 1 := ⟨rfl⟩
instance : TB Tryz.prog 89 zEntry.cells pl89 := ⟨fun w ps cells h => run_build_struct (fl := _) Tryz.underlying89 (z := zEntry.cells.toArray) (n := 33) (by kernel_rfl) (pl := [(0, 32), (32, 1)]) (by kernel_rfl) h⟩
instance : TS Tryz.prog 97 35 1 24 (.slice none 0 0) := ⟨⟨Tryz.underlying97, by kernel_rfl, rfl, by decide, by decide⟩⟩
instance : TRow Tryz.prog 113 2 := ⟨⟨_, Tryz.underlying113, rfl⟩, by kernel_rfl⟩
instance : TFA Tryz.prog 113 0 0 := ⟨⟨_, _, 0, Tryz.underlying113, rfl, rfl, by kernel_rfl⟩⟩
instance : TFA Tryz.prog 113 1 1 := ⟨⟨_, _, 0, Tryz.underlying113, rfl, rfl, by kernel_rfl⟩⟩
instance : TZ Tryz.prog 113 ([.pointer none, .pointer none]) := ⟨⟨.agg #[.pointer none, .pointer none], by kernel_rfl, rfl⟩⟩
def pl113 : Nat → Option (Nat × Nat) := fun i => ([(0, 1), (1, 1)] : List (Nat × Nat)).toArray[i]?
instance : Place pl113 0 0 1 := ⟨rfl⟩
instance : TB Tryz.prog 113 ([.pointer none, .pointer none]) pl113 := ⟨fun w ps cells h => run_build_struct (fl := _) Tryz.underlying113 (z := ([.pointer none, .pointer none] : List Value).toArray) (n := 2) (by kernel_rfl) (pl := [(0, 1), (1, 1)]) (by kernel_rfl) h⟩
instance : TOne Tryz.prog 114 := ⟨⟨_, Tryz.underlying114, rfl⟩, by kernel_rfl⟩
instance : TS Tryz.prog 114 34 32 32 (.agg zB32.cells.toArray) := ⟨⟨Tryz.underlying114, by kernel_rfl, by simp [Value.cells, B32.cells_length], by decide, by decide⟩⟩
instance : TOne Tryz.prog 145 := ⟨⟨_, Tryz.underlying145, rfl⟩, by kernel_rfl⟩
instance : TZ Tryz.prog 145 [.pointer none] := ⟨⟨.pointer none, by kernel_rfl, rfl⟩⟩
instance : TOne Tryz.prog 168 := ⟨⟨_, Tryz.underlying168, rfl⟩, by kernel_rfl⟩
instance : TFA Tryz.prog 170 0 0 := ⟨⟨_, _, 0, Tryz.underlying170, rfl, rfl, by kernel_rfl⟩⟩
instance : TFA Tryz.prog 170 1 1 := ⟨⟨_, _, 0, Tryz.underlying170, rfl, rfl, by kernel_rfl⟩⟩
def pl170 : Nat → Option (Nat × Nat) := fun i => ([(0, 1), (1, 1)] : List (Nat × Nat)).toArray[i]?
instance : Place pl170 0 0 1 := ⟨rfl⟩
instance : Place pl170 1 1 1 := ⟨rfl⟩
instance : TB Tryz.prog 170 ([.pointer none, .int .i64 0]) pl170 := ⟨fun w ps cells h => run_build_struct (fl := _) Tryz.underlying170 (z := ([.pointer none, .int .i64 0] : List Value).toArray) (n := 2) (by kernel_rfl) (pl := [(0, 1), (1, 1)]) (by kernel_rfl) h⟩
instance : TOne Tryz.prog 175 := ⟨⟨_, Tryz.underlying175, rfl⟩, by kernel_rfl⟩
instance : TFA Tryz.prog 177 0 0 := ⟨⟨_, _, 0, Tryz.underlying177, rfl, rfl, by kernel_rfl⟩⟩
instance : TFA Tryz.prog 177 1 1 := ⟨⟨_, _, 31, Tryz.underlying177, rfl, rfl, by kernel_rfl⟩⟩
def pl177 : Nat → Option (Nat × Nat) := fun i => ([(0, 1), (1, 32)] : List (Nat × Nat)).toArray[i]?
instance : Place pl177 0 0 1 := ⟨rfl⟩
instance : Place pl177 1 1 32 := ⟨rfl⟩
instance : TB Tryz.prog 177 zNd.cells pl177 := ⟨fun w ps cells h => run_build_struct (fl := _) Tryz.underlying177 (z := zNd.cells.toArray) (n := 33) (by kernel_rfl) (pl := [(0, 1), (1, 32)]) (by kernel_rfl) h⟩
instance : TRow Tryz.prog 178 2 := ⟨⟨_, Tryz.underlying178, rfl⟩, by kernel_rfl⟩
instance : TArr Tryz.prog 178 2 31 1 := ⟨Tryz.underlying178, by kernel_rfl⟩
instance : TZ Tryz.prog 178 ([.pointer none, .pointer none]) := ⟨⟨.agg #[.pointer none, .pointer none], by kernel_rfl, rfl⟩⟩
instance : TB Tryz.prog 178 ([.pointer none, .pointer none]) (plArr 1) := ⟨fun w ps cells h => run_build_array Tryz.underlying178 (z := ([.pointer none, .pointer none] : List Value).toArray) (n := 2) (by kernel_rfl) (s := 1) (by kernel_rfl) h⟩
instance : TArr Tryz.prog 179 2 45 32 := ⟨Tryz.underlying179, by kernel_rfl⟩
instance : TRow Tryz.prog 181 67 := ⟨⟨_, Tryz.underlying181, rfl⟩, by kernel_rfl⟩
instance : TFA Tryz.prog 181 1 2 := ⟨⟨_, _, 63, Tryz.underlying181, rfl, rfl, by kernel_rfl⟩⟩
instance : TZ Tryz.prog 181 zNInner.cells := ⟨⟨.agg zNInner.cells.toArray, by kernel_rfl, rfl⟩⟩
def pl181 : Nat → Option (Nat × Nat) := fun i => ([(0, 2), (2, 64), (66, 1)] : List (Nat × Nat)).toArray[i]?
instance : Place pl181 0 0 2 := ⟨rfl⟩
instance : Place pl181 1 2 64 := ⟨rfl⟩
instance : Place pl181 2 66 1 := ⟨rfl⟩
instance : TB Tryz.prog 181 zNInner.cells pl181 := ⟨fun w ps cells h => run_build_struct (fl := _) Tryz.underlying181 (z := zNInner.cells.toArray) (n := 67) (by kernel_rfl) (pl := [(0, 2), (2, 64), (66, 1)]) (by kernel_rfl) h⟩
instance : TS Tryz.prog 187 9 1 16 (.string ByteArray.empty) := ⟨⟨Tryz.underlying187, by kernel_rfl, rfl, by decide, by decide⟩⟩
instance : TOne Tryz.prog 195 := ⟨⟨_, Tryz.underlying195, rfl⟩, by kernel_rfl⟩
instance : TZ Tryz.prog 195 [.slice none 0 0] := ⟨⟨.slice none 0 0, by kernel_rfl, rfl⟩⟩
instance : TS Tryz.prog 195 31 1 8 (.pointer none) := ⟨⟨Tryz.underlying195, by kernel_rfl, rfl, by decide, by decide⟩⟩
instance : TOne Tryz.prog 251 := ⟨⟨_, Tryz.underlying251, rfl⟩, by kernel_rfl⟩
instance : TRow Tryz.prog 252 8 := ⟨⟨_, Tryz.underlying252, rfl⟩, by kernel_rfl⟩
instance : TArr Tryz.prog 252 8 251 1 := ⟨Tryz.underlying252, by kernel_rfl⟩
instance : TZ Tryz.prog 252 ([.int .u32 0, .int .u32 0, .int .u32 0, .int .u32 0, .int .u32 0, .int .u32 0, .int .u32 0, .int .u32 0]) := ⟨⟨.agg #[.int .u32 0, .int .u32 0, .int .u32 0, .int .u32 0, .int .u32 0, .int .u32 0, .int .u32 0, .int .u32 0], by kernel_rfl, rfl⟩⟩
instance : TB Tryz.prog 252 ([.int .u32 0, .int .u32 0, .int .u32 0, .int .u32 0, .int .u32 0, .int .u32 0, .int .u32 0, .int .u32 0]) (plArr 1) := ⟨fun w ps cells h => run_build_array Tryz.underlying252 (z := ([.int .u32 0, .int .u32 0, .int .u32 0, .int .u32 0, .int .u32 0, .int .u32 0, .int .u32 0, .int .u32 0] : List Value).toArray) (n := 8) (by kernel_rfl) (s := 1) (by kernel_rfl) h⟩
instance : TS Tryz.prog 253 251 1 4 (.int .u32 0) := ⟨⟨Tryz.underlying253, by kernel_rfl, rfl, by decide, by decide⟩⟩
instance : TFA Tryz.prog 272 0 0 := ⟨⟨_, _, 0, Tryz.underlying272, rfl, rfl, by kernel_rfl⟩⟩
def pl272 : Nat → Option (Nat × Nat) := fun i => ([(0, 1)] : List (Nat × Nat)).toArray[i]?
instance : TB Tryz.prog 272 ([.int .i64 0]) pl272 := ⟨fun w ps cells h => run_build_struct (fl := _) Tryz.underlying272 (z := ([.int .i64 0] : List Value).toArray) (n := 1) (by kernel_rfl) (pl := [(0, 1)]) (by kernel_rfl) h⟩
instance : TRow Tryz.prog 281 65 := ⟨⟨_, Tryz.underlying281, rfl⟩, by kernel_rfl⟩
instance : TFA Tryz.prog 281 0 0 := ⟨⟨_, _, 63, Tryz.underlying281, rfl, rfl, by kernel_rfl⟩⟩
instance : TFA Tryz.prog 281 1 64 := ⟨⟨_, _, 0, Tryz.underlying281, rfl, rfl, by kernel_rfl⟩⟩
instance : TZ Tryz.prog 281 zNLeaf.cells := ⟨⟨.agg zNLeaf.cells.toArray, by kernel_rfl, rfl⟩⟩
def pl281 : Nat → Option (Nat × Nat) := fun i => ([(0, 64), (64, 1)] : List (Nat × Nat)).toArray[i]?
instance : Place pl281 0 0 64 := ⟨rfl⟩
instance : Place pl281 1 64 1 := ⟨rfl⟩
instance : TB Tryz.prog 281 zNLeaf.cells pl281 := ⟨fun w ps cells h => run_build_struct (fl := _) Tryz.underlying281 (z := zNLeaf.cells.toArray) (n := 65) (by kernel_rfl) (pl := [(0, 64), (64, 1)]) (by kernel_rfl) h⟩
instance : TFA Tryz.prog 284 0 0 := ⟨⟨_, _, 0, Tryz.underlying284, rfl, rfl, by kernel_rfl⟩⟩
instance : TFA Tryz.prog 284 1 1 := ⟨⟨_, _, 0, Tryz.underlying284, rfl, rfl, by kernel_rfl⟩⟩
instance : TFA Tryz.prog 284 2 2 := ⟨⟨_, _, 0, Tryz.underlying284, rfl, rfl, by kernel_rfl⟩⟩
instance : TS Tryz.prog 329 3 1 8 (.int .i64 0) := ⟨⟨Tryz.underlying329, by kernel_rfl, rfl, by decide, by decide⟩⟩
instance : TRow Tryz.prog 358 8 := ⟨⟨_, Tryz.underlying358, rfl⟩, by kernel_rfl⟩
instance : TArr Tryz.prog 358 8 251 1 := ⟨Tryz.underlying358, by kernel_rfl⟩
instance : TZ Tryz.prog 358 ([.int .u32 0, .int .u32 0, .int .u32 0, .int .u32 0, .int .u32 0, .int .u32 0, .int .u32 0, .int .u32 0]) := ⟨⟨.agg #[.int .u32 0, .int .u32 0, .int .u32 0, .int .u32 0, .int .u32 0, .int .u32 0, .int .u32 0, .int .u32 0], by kernel_rfl, rfl⟩⟩
instance : TB Tryz.prog 358 ([.int .u32 0, .int .u32 0, .int .u32 0, .int .u32 0, .int .u32 0, .int .u32 0, .int .u32 0, .int .u32 0]) (plArr 1) := ⟨fun w ps cells h => run_build_array Tryz.underlying358 (z := ([.int .u32 0, .int .u32 0, .int .u32 0, .int .u32 0, .int .u32 0, .int .u32 0, .int .u32 0, .int .u32 0] : List Value).toArray) (n := 8) (by kernel_rfl) (s := 1) (by kernel_rfl) h⟩
instance : TOne Tryz.prog 360 := ⟨⟨_, Tryz.underlying360, rfl⟩, by kernel_rfl⟩
instance : TZ Tryz.prog 360 [.nilFunc] := ⟨⟨.nilFunc, by kernel_rfl, rfl⟩⟩
instance : TArr Tryz.prog 390 16 251 1 := ⟨Tryz.underlying390, by kernel_rfl⟩
instance : TZ Tryz.prog 390 ([.int .u32 0, .int .u32 0, .int .u32 0, .int .u32 0, .int .u32 0, .int .u32 0, .int .u32 0, .int .u32 0, .int .u32 0, .int .u32 0, .int .u32 0, .int .u32 0, .int .u32 0, .int .u32 0, .int .u32 0, .int .u32 0]) := ⟨⟨.agg #[.int .u32 0, .int .u32 0, .int .u32 0, .int .u32 0, .int .u32 0, .int .u32 0, .int .u32 0, .int .u32 0, .int .u32 0, .int .u32 0, .int .u32 0, .int .u32 0, .int .u32 0, .int .u32 0, .int .u32 0, .int .u32 0], by kernel_rfl, rfl⟩⟩
instance : TRow Tryz.prog 391 64 := ⟨⟨_, Tryz.underlying391, rfl⟩, by kernel_rfl⟩
instance : TArr Tryz.prog 391 64 251 1 := ⟨Tryz.underlying391, by kernel_rfl⟩
theorem mixed : Tryz.prog.follows .mixedOrders = true := by kernel_rfl
instance : TInt Tryz.prog 3 .i64 := ⟨Tryz.underlying3⟩
instance : TInt Tryz.prog 5 .u8 := ⟨Tryz.underlying5⟩
instance : TPtr Tryz.prog 23 := ⟨_, Tryz.underlying23⟩
instance : TPtr Tryz.prog 31 := ⟨_, Tryz.underlying31⟩
instance : TConc Tryz.prog 54 := ⟨_, Tryz.underlying54, by intro l h; cases h⟩
instance : TPtr Tryz.prog 56 := ⟨_, Tryz.underlying56⟩
instance : TFT Tryz.prog 60 0 0 34 := ⟨_, _, Tryz.underlying60, rfl, rfl, rfl⟩
instance : TFT Tryz.prog 89 1 32 35 := ⟨_, _, Tryz.underlying89, rfl, rfl, rfl⟩
instance : TConc Tryz.prog 127 := ⟨_, Tryz.underlying127, by intro l h; cases h⟩
instance : TInt Tryz.prog 136 .u64 := ⟨Tryz.underlying136⟩
instance : TConc Tryz.prog 145 := ⟨_, Tryz.underlying145, by intro l h; cases h⟩
instance : TPtr Tryz.prog 145 := ⟨_, Tryz.underlying145⟩
instance : TConc Tryz.prog 147 := ⟨_, Tryz.underlying147, by intro l h; cases h⟩
instance : TConc Tryz.prog 181 := ⟨_, Tryz.underlying181, by intro l h; cases h⟩
instance : TFT Tryz.prog 181 0 0 178 := ⟨_, _, Tryz.underlying181, rfl, rfl, rfl⟩
instance : TFT Tryz.prog 181 2 66 3 := ⟨_, _, Tryz.underlying181, rfl, rfl, rfl⟩
instance : TInt Tryz.prog 251 .u32 := ⟨Tryz.underlying251⟩
instance : TConc Tryz.prog 281 := ⟨_, Tryz.underlying281, by intro l h; cases h⟩
instance : TFT Tryz.prog 281 0 0 60 := ⟨_, _, Tryz.underlying281, rfl, rfl, rfl⟩
instance : TInt Tryz.prog 337 .u64 := ⟨Tryz.underlying337⟩
instance : Ent Tryz.prog 15 := ⟨enters_of Tryz.func15 (by kernel_rfl) rfl⟩
instance : Ent Tryz.prog 17 := ⟨enters_of Tryz.func17 (by kernel_rfl) rfl⟩
instance : Ent Tryz.prog 18 := ⟨enters_of Tryz.func18 (by kernel_rfl) rfl⟩
instance : Ent Tryz.prog 19 := ⟨enters_of Tryz.func19 (by kernel_rfl) rfl⟩
instance : Ent Tryz.prog 22 := ⟨enters_of Tryz.func22 (by kernel_rfl) rfl⟩
instance : Ent Tryz.prog 26 := ⟨enters_of Tryz.func26 (by kernel_rfl) rfl⟩
instance : Ent Tryz.prog 27 := ⟨enters_of Tryz.func27 (by kernel_rfl) rfl⟩
instance : Ent Tryz.prog 31 := ⟨enters_of Tryz.func31 (by kernel_rfl) rfl⟩
instance : Ent Tryz.prog 32 := ⟨enters_of Tryz.func32 (by kernel_rfl) rfl⟩
instance : Ent Tryz.prog 33 := ⟨enters_of Tryz.func33 (by kernel_rfl) rfl⟩
instance : Ent Tryz.prog 34 := ⟨enters_of Tryz.func34 (by kernel_rfl) rfl⟩
instance : Ent Tryz.prog 35 := ⟨enters_of Tryz.func35 (by kernel_rfl) rfl⟩
instance : Ent Tryz.prog 36 := ⟨enters_of Tryz.func36 (by kernel_rfl) rfl⟩
instance : Ent Tryz.prog 37 := ⟨enters_of Tryz.func37 (by kernel_rfl) rfl⟩
instance : Ent Tryz.prog 38 := ⟨enters_of Tryz.func38 (by kernel_rfl) rfl⟩
instance : Ent Tryz.prog 39 := ⟨enters_of Tryz.func39 (by kernel_rfl) rfl⟩
instance : Ent Tryz.prog 40 := ⟨enters_of Tryz.func40 (by kernel_rfl) rfl⟩
instance : Ent Tryz.prog 42 := ⟨enters_of Tryz.func42 (by kernel_rfl) rfl⟩
instance : Ent Tryz.prog 43 := ⟨enters_of Tryz.func43 (by kernel_rfl) rfl⟩
instance : Ent Tryz.prog 44 := ⟨enters_of Tryz.func44 (by kernel_rfl) rfl⟩
instance : Ent Tryz.prog 45 := ⟨enters_of Tryz.func45 (by kernel_rfl) rfl⟩
instance : Ent Tryz.prog 46 := ⟨enters_of Tryz.func46 (by kernel_rfl) rfl⟩
instance : Ent Tryz.prog 47 := ⟨enters_of Tryz.func47 (by kernel_rfl) rfl⟩
instance : Ent Tryz.prog 48 := ⟨enters_of Tryz.func48 (by kernel_rfl) rfl⟩
instance : Ent Tryz.prog 52 := ⟨enters_of Tryz.func52 (by kernel_rfl) rfl⟩
instance : Ent Tryz.prog 54 := ⟨enters_of Tryz.func54 (by kernel_rfl) rfl⟩
instance : Ent Tryz.prog 55 := ⟨enters_of Tryz.func55 (by kernel_rfl) rfl⟩
instance : Ent Tryz.prog 56 := ⟨enters_of Tryz.func56 (by kernel_rfl) rfl⟩
instance : Ent Tryz.prog 57 := ⟨enters_of Tryz.func57 (by kernel_rfl) rfl⟩
instance : Ent Tryz.prog 58 := ⟨enters_of Tryz.func58 (by kernel_rfl) rfl⟩
instance : Ent Tryz.prog 60 := ⟨enters_of Tryz.func60 (by kernel_rfl) rfl⟩
instance : Ent Tryz.prog 69 := ⟨enters_of Tryz.func69 (by kernel_rfl) rfl⟩
instance : Ent Tryz.prog 70 := ⟨enters_of Tryz.func70 (by kernel_rfl) rfl⟩
instance : Ent Tryz.prog 72 := ⟨enters_of Tryz.func72 (by kernel_rfl) rfl⟩
instance : Ent Tryz.prog 79 := ⟨enters_of Tryz.func79 (by kernel_rfl) rfl⟩
instance : Ent Tryz.prog 80 := ⟨enters_of Tryz.func80 (by kernel_rfl) rfl⟩
instance : Ent Tryz.prog 81 := ⟨enters_of Tryz.func81 (by kernel_rfl) rfl⟩
instance : Ent Tryz.prog 82 := ⟨enters_of Tryz.func82 (by kernel_rfl) rfl⟩
instance : Ent Tryz.prog 83 := ⟨enters_of Tryz.func83 (by kernel_rfl) rfl⟩
instance : Ent Tryz.prog 84 := ⟨enters_of Tryz.func84 (by kernel_rfl) rfl⟩
instance : Ent Tryz.prog 85 := ⟨enters_of Tryz.func85 (by kernel_rfl) rfl⟩
instance : Ent Tryz.prog 86 := ⟨enters_of Tryz.func86 (by kernel_rfl) rfl⟩
instance : Ent Tryz.prog 87 := ⟨enters_of Tryz.func87 (by kernel_rfl) rfl⟩
instance : Ent Tryz.prog 88 := ⟨enters_of Tryz.func88 (by kernel_rfl) rfl⟩
instance : Ent Tryz.prog 89 := ⟨enters_of Tryz.func89 (by kernel_rfl) rfl⟩
instance : Ent Tryz.prog 90 := ⟨enters_of Tryz.func90 (by kernel_rfl) rfl⟩
instance : Ent Tryz.prog 91 := ⟨enters_of Tryz.func91 (by kernel_rfl) rfl⟩
instance : Ent Tryz.prog 92 := ⟨enters_of Tryz.func92 (by kernel_rfl) rfl⟩
instance : Ent Tryz.prog 93 := ⟨enters_of Tryz.func93 (by kernel_rfl) rfl⟩
instance : Ent Tryz.prog 94 := ⟨enters_of Tryz.func94 (by kernel_rfl) rfl⟩
instance : Ent Tryz.prog 95 := ⟨enters_of Tryz.func95 (by kernel_rfl) rfl⟩
instance : Ent Tryz.prog 97 := ⟨enters_of Tryz.func97 (by kernel_rfl) rfl⟩
instance : Ent Tryz.prog 98 := ⟨enters_of Tryz.func98 (by kernel_rfl) rfl⟩
instance : Ent Tryz.prog 99 := ⟨enters_of Tryz.func99 (by kernel_rfl) rfl⟩
instance : Ent Tryz.prog 102 := ⟨enters_of Tryz.func102 (by kernel_rfl) rfl⟩
instance : Ent Tryz.prog 104 := ⟨enters_of Tryz.func104 (by kernel_rfl) rfl⟩
instance : Ent Tryz.prog 105 := ⟨enters_of Tryz.func105 (by kernel_rfl) rfl⟩
instance : Ent Tryz.prog 106 := ⟨enters_of Tryz.func106 (by kernel_rfl) rfl⟩
instance : Ent Tryz.prog 107 := ⟨enters_of Tryz.func107 (by kernel_rfl) rfl⟩
instance : Ent Tryz.prog 108 := ⟨enters_of Tryz.func108 (by kernel_rfl) rfl⟩
instance : Ent Tryz.prog 109 := ⟨enters_of Tryz.func109 (by kernel_rfl) rfl⟩
instance : Ent Tryz.prog 111 := ⟨enters_of Tryz.func111 (by kernel_rfl) rfl⟩
instance : Ent Tryz.prog 112 := ⟨enters_of Tryz.func112 (by kernel_rfl) rfl⟩
instance : Ent Tryz.prog 114 := ⟨enters_of Tryz.func114 (by kernel_rfl) rfl⟩
instance : Ent Tryz.prog 119 := ⟨enters_of Tryz.func119 (by kernel_rfl) rfl⟩
instance : Ent Tryz.prog 129 := ⟨enters_of Tryz.func129 (by kernel_rfl) rfl⟩
instance : Ent Tryz.prog 130 := ⟨enters_of Tryz.func130 (by kernel_rfl) rfl⟩
instance : Ent Tryz.prog 131 := ⟨enters_of Tryz.func131 (by kernel_rfl) rfl⟩
instance : Ent Tryz.prog 132 := ⟨enters_of Tryz.func132 (by kernel_rfl) rfl⟩
instance : Ent Tryz.prog 133 := ⟨enters_of Tryz.func133 (by kernel_rfl) rfl⟩
instance : Ent Tryz.prog 134 := ⟨enters_of Tryz.func134 (by kernel_rfl) rfl⟩
instance : Ent Tryz.prog 140 := ⟨enters_of Tryz.func140 (by kernel_rfl) rfl⟩
instance : Ent Tryz.prog 142 := ⟨enters_of Tryz.func142 (by kernel_rfl) rfl⟩
instance : Ent Tryz.prog 143 := ⟨enters_of Tryz.func143 (by kernel_rfl) rfl⟩
instance : Ent Tryz.prog 144 := ⟨enters_of Tryz.func144 (by kernel_rfl) rfl⟩
instance : Ent Tryz.prog 145 := ⟨enters_of Tryz.func145 (by kernel_rfl) rfl⟩
instance : Ent Tryz.prog 146 := ⟨enters_of Tryz.func146 (by kernel_rfl) rfl⟩
instance : Ent Tryz.prog 147 := ⟨enters_of Tryz.func147 (by kernel_rfl) rfl⟩
instance : Ent Tryz.prog 148 := ⟨enters_of Tryz.func148 (by kernel_rfl) rfl⟩
instance : Ent Tryz.prog 149 := ⟨enters_of Tryz.func149 (by kernel_rfl) rfl⟩
instance : Ent Tryz.prog 150 := ⟨enters_of Tryz.func150 (by kernel_rfl) rfl⟩
instance : Ent Tryz.prog 151 := ⟨enters_of Tryz.func151 (by kernel_rfl) rfl⟩
instance : Ent Tryz.prog 152 := ⟨enters_of Tryz.func152 (by kernel_rfl) rfl⟩
instance : Ent Tryz.prog 153 := ⟨enters_of Tryz.func153 (by kernel_rfl) rfl⟩
instance : Ent Tryz.prog 154 := ⟨enters_of Tryz.func154 (by kernel_rfl) rfl⟩
instance : Ent Tryz.prog 155 := ⟨enters_of Tryz.func155 (by kernel_rfl) rfl⟩
instance : Ent Tryz.prog 158 := ⟨enters_of Tryz.func158 (by kernel_rfl) rfl⟩
instance : Ent Tryz.prog 159 := ⟨enters_of Tryz.func159 (by kernel_rfl) rfl⟩
instance : Ent Tryz.prog 160 := ⟨enters_of Tryz.func160 (by kernel_rfl) rfl⟩
instance : Ent Tryz.prog 161 := ⟨enters_of Tryz.func161 (by kernel_rfl) rfl⟩
instance : Ent Tryz.prog 162 := ⟨enters_of Tryz.func162 (by kernel_rfl) rfl⟩
instance : Ent Tryz.prog 165 := ⟨enters_of Tryz.func165 (by kernel_rfl) rfl⟩
instance : Ent Tryz.prog 166 := ⟨enters_of Tryz.func166 (by kernel_rfl) rfl⟩
instance : Ent Tryz.prog 167 := ⟨enters_of Tryz.func167 (by kernel_rfl) rfl⟩
instance : Ent Tryz.prog 168 := ⟨enters_of Tryz.func168 (by kernel_rfl) rfl⟩
instance : Ent Tryz.prog 169 := ⟨enters_of Tryz.func169 (by kernel_rfl) rfl⟩
instance : Ent Tryz.prog 170 := ⟨enters_of Tryz.func170 (by kernel_rfl) rfl⟩
instance : Ent Tryz.prog 171 := ⟨enters_of Tryz.func171 (by kernel_rfl) rfl⟩
instance : Ent Tryz.prog 172 := ⟨enters_of Tryz.func172 (by kernel_rfl) rfl⟩
instance : Ent Tryz.prog 173 := ⟨enters_of Tryz.func173 (by kernel_rfl) rfl⟩
instance : Ent Tryz.prog 174 := ⟨enters_of Tryz.func174 (by kernel_rfl) rfl⟩
instance : Ent Tryz.prog 175 := ⟨enters_of Tryz.func175 (by kernel_rfl) rfl⟩
instance : Ent Tryz.prog 199 := ⟨enters_of Tryz.func199 (by kernel_rfl) rfl⟩
instance : Ent Tryz.prog 203 := ⟨enters_of Tryz.func203 (by kernel_rfl) rfl⟩
instance : Ent Tryz.prog 204 := ⟨enters_of Tryz.func204 (by kernel_rfl) rfl⟩
instance : Ent Tryz.prog 214 := ⟨enters_of Tryz.func214 (by kernel_rfl) rfl⟩
instance : Ent Tryz.prog 215 := ⟨enters_of Tryz.func215 (by kernel_rfl) rfl⟩
instance : Ent Tryz.prog 216 := ⟨enters_of Tryz.func216 (by kernel_rfl) rfl⟩
instance : Ent Tryz.prog 217 := ⟨enters_of Tryz.func217 (by kernel_rfl) rfl⟩
instance : Ent Tryz.prog 218 := ⟨enters_of Tryz.func218 (by kernel_rfl) rfl⟩
instance : Ent Tryz.prog 219 := ⟨enters_of Tryz.func219 (by kernel_rfl) rfl⟩
instance : Ent Tryz.prog 220 := ⟨enters_of Tryz.func220 (by kernel_rfl) rfl⟩
instance : Ent Tryz.prog 221 := ⟨enters_of Tryz.func221 (by kernel_rfl) rfl⟩
instance : Ent Tryz.prog 222 := ⟨enters_of Tryz.func222 (by kernel_rfl) rfl⟩
instance : Ent Tryz.prog 223 := ⟨enters_of Tryz.func223 (by kernel_rfl) rfl⟩
instance : Ent Tryz.prog 224 := ⟨enters_of Tryz.func224 (by kernel_rfl) rfl⟩
instance : Ent Tryz.prog 225 := ⟨enters_of Tryz.func225 (by kernel_rfl) rfl⟩
instance : Ent Tryz.prog 226 := ⟨enters_of Tryz.func226 (by kernel_rfl) rfl⟩
instance : Ent Tryz.prog 227 := ⟨enters_of Tryz.func227 (by kernel_rfl) rfl⟩
instance : Ent Tryz.prog 228 := ⟨enters_of Tryz.func228 (by kernel_rfl) rfl⟩
instance : Ent Tryz.prog 240 := ⟨enters_of Tryz.func240 (by kernel_rfl) rfl⟩
instance : Ent Tryz.prog 241 := ⟨enters_of Tryz.func241 (by kernel_rfl) rfl⟩
instance : Ent Tryz.prog 242 := ⟨enters_of Tryz.func242 (by kernel_rfl) rfl⟩
instance : Ent Tryz.prog 243 := ⟨enters_of Tryz.func243 (by kernel_rfl) rfl⟩
instance : Ent Tryz.prog 244 := ⟨enters_of Tryz.func244 (by kernel_rfl) rfl⟩
instance : Ent Tryz.prog 245 := ⟨enters_of Tryz.func245 (by kernel_rfl) rfl⟩
instance : Ent Tryz.prog 246 := ⟨enters_of Tryz.func246 (by kernel_rfl) rfl⟩
instance : Ent Tryz.prog 247 := ⟨enters_of Tryz.func247 (by kernel_rfl) rfl⟩
instance : Ent Tryz.prog 249 := ⟨enters_of Tryz.func249 (by kernel_rfl) rfl⟩
instance : Ent Tryz.prog 254 := ⟨enters_of Tryz.func254 (by kernel_rfl) rfl⟩
instance : Ent Tryz.prog 257 := ⟨enters_of Tryz.func257 (by kernel_rfl) rfl⟩
instance : Ent Tryz.prog 258 := ⟨enters_of Tryz.func258 (by kernel_rfl) rfl⟩
instance : Ent Tryz.prog 259 := ⟨enters_of Tryz.func259 (by kernel_rfl) rfl⟩
instance : Ent Tryz.prog 260 := ⟨enters_of Tryz.func260 (by kernel_rfl) rfl⟩
instance : Ent Tryz.prog 268 := ⟨enters_of Tryz.func268 (by kernel_rfl) rfl⟩
instance : Ent Tryz.prog 271 := ⟨enters_of Tryz.func271 (by kernel_rfl) rfl⟩
instance : Ent Tryz.prog 274 := ⟨enters_of Tryz.func274 (by kernel_rfl) rfl⟩
instance : Ent Tryz.prog 294 := ⟨enters_of Tryz.func294 (by kernel_rfl) rfl⟩
instance : Ent Tryz.prog 310 := ⟨enters_of Tryz.func310 (by kernel_rfl) rfl⟩
instance : Ent Tryz.prog 316 := ⟨enters_of Tryz.func316 (by kernel_rfl) rfl⟩
end Go.Proofs.YtjhlbbgikccclaaGreatDoor
/- E7 -/
namespace Go.Proofs.YtjhlbbgikccclaaGreatDoor
abbrev W32 := BitVec 32
def rotr (x : W32) (n : Nat) : W32 := (x >>> n) ||| (x <<< (32 - n))
def sg0 (x : W32) : W32 := (rotr x 7 ^^^ rotr x 18) ^^^ (x >>> 3)
def sg1 (x : W32) : W32 := (rotr x 17 ^^^ rotr x 19) ^^^ (x >>> 10)
def bg1 (x : W32) : W32 := (rotr x 6 ^^^ rotr x 11) ^^^ rotr x 25
def bg0 (x : W32) : W32 := (rotr x 2 ^^^ rotr x 13) ^^^ rotr x 22
def ch (e f g : W32) : W32 := (e &&& f) ^^^ (~~~e &&& g)
def maj (a b c : W32) : W32 := ((a &&& b) ^^^ (a &&& c)) ^^^ (b &&& c)
theorem ch_eq (e f g : W32) : g ^^^ (e &&& (f ^^^ g)) = ch e f g := by
 unfold ch
 ext i hi
 simp only [BitVec.getElem_xor, BitVec.getElem_and, BitVec.getElem_not]
 cases e[i] <;> cases f[i] <;> cases g[i] <;> rfl
theorem maj_eq (a b c : W32) : (a &&& b) ||| (c &&& (a ||| b)) = maj a b c := by
 unfold maj
 ext i hi
 simp only [BitVec.getElem_xor, BitVec.getElem_and, BitVec.getElem_or]
 cases a[i] <;> cases b[i] <;> cases c[i] <;> rfl
def xorl (x : W32) (l : List Nat) : W32 := l.foldl (fun s n => s ^^^ rotr x n) 0
theorem xorl2 (x : W32) (a b : Nat) : xorl x [a, b] = rotr x a ^^^ rotr x b := by simp [xorl]
theorem xorl3 (x : W32) (a b c : Nat) : xorl x [a, b, c] = (rotr x a ^^^ rotr x b) ^^^ rotr x c := by simp [xorl]
theorem take_snoc {α : Type} {d : α} {l : List α} {k : Nat} (h : k < l.length) : l.take (k + 1) = l.take k ++ [l.getD k d] := by
 rw [List.take_succ_eq_append_getElem h]
 simp [List.getD, h]
theorem xorl_step (x : W32) {l : List Nat} {k : Nat} (h : k < l.length) : xorl x (l.take (k + 1)) = xorl x (l.take k) ^^^ rotr x (l.getD k 0) := by
 rw [take_snoc h (d := 0)]
 simp [xorl, List.foldl_append]
structure S8 where
 a : W32
 b : W32
 c : W32
 d : W32
 e : W32
 f : W32
 g : W32
 h : W32
def S8.l (s : S8) : List W32 := [s.a, s.b, s.c, s.d, s.e, s.f, s.g, s.h]
def t1 (k w : W32) (s : S8) : W32 := s.h + bg1 s.e + ch s.e s.f s.g + k + w
def t2 (s : S8) : W32 := bg0 s.a + maj s.a s.b s.c
def rnd (k w : W32) (s : S8) : S8 := ⟨t1 k w s + t2 s, s.a, s.b, s.c, s.d + t1 k w s, s.e, s.f, s.g⟩
def S8.add (s t : S8) : S8 := ⟨s.a + t.a, s.b + t.b, s.c + t.c, s.d + t.d, s.e + t.e, s.f + t.f, s.g + t.g, s.h + t.h⟩
def K64 : List W32 := [0x428a2f98, 0x71374491, 0xb5c0fbcf, 0xe9b5dba5, 0x3956c25b, 0x59f111f1, 0x923f82a4, 0xab1c5ed5, 0xd807aa98, 0x12835b01, 0x243185be, 0x550c7dc3, 0x72be5d74, 0x80deb1fe, 0x9bdc06a7, 0xc19bf174, 0xe49b69c1, 0xefbe4786, 0x0fc19dc6, 0x240ca1cc, 0x2de92c6f, 0x4a7484aa, 0x5cb0a9dc, 0x76f988da, 0x983e5152, 0xa831c66d, 0xb00327c8, 0xbf597fc7, 0xc6e00bf3, 0xd5a79147, 0x06ca6351, 0x14292967, 0x27b70a85, 0x2e1b2138, 0x4d2c6dfc, 0x53380d13, 0x650a7354, 0x766a0abb, 0x81c2c92e, 0x92722c85, 0xa2bfe8a1, 0xa81a664b, 0xc24b8b70, 0xc76c51a3, 0xd192e819, 0xd6990624, 0xf40e3585, 0x106aa070, 0x19a4c116, 0x1e376c08, 0x2748774c, 0x34b0bcb5, 0x391c0cb3, 0x4ed8aa4a, 0x5b9cca4f, 0x682e6ff3, 0x748f82ee, 0x78a5636f, 0x84c87814, 0x8cc70208, 0x90befffa, 0xa4506ceb, 0xbef9a3f7, 0xc67178f2]
theorem K64_len : K64.length = 64 := rfl
def H0 : S8 := ⟨0x6a09e667, 0xbb67ae85, 0x3c6ef372, 0xa54ff53a, 0x510e527f, 0x9b05688c, 0x1f83d9ab, 0x5be0cd19⟩
def wrd (b : List UInt8) (i : Nat) : W32 := ((((b.getD (4 * i) 0).toBitVec.setWidth 32 <<< 24) ||| ((b.getD (4 * i + 1) 0).toBitVec.setWidth 32 <<< 16)) ||| ((b.getD (4 * i + 2) 0).toBitVec.setWidth 32 <<< 8)) ||| (b.getD (4 * i + 3) 0).toBitVec.setWidth 32
def nextW (l : List W32) : W32 := ((l.getD (l.length - 16) 0 + sg0 (l.getD (l.length - 15) 0)) + l.getD (l.length - 7) 0) + sg1 (l.getD (l.length - 2) 0)
def sch (b : List UInt8) : Nat → List W32
 | 0 => []
 | n + 1 => sch b n ++ [if n < 16 then wrd b n else nextW (sch b n)]
theorem sch_len (b : List UInt8) : ∀ n, (sch b n).length = n
 | 0 => rfl
 | n + 1 => by rw [sch, List.length_append, sch_len b n]; rfl
theorem sch_get (b : List UInt8) : ∀ (n m i : Nat), i < n → n ≤ m → (sch b m).getD i 0 = (sch b n).getD i 0 := by
 intro n m i hi hm
 induction m with
 | zero => omega
 | succ m ih =>
  by_cases e : n = m + 1
  ·rw [e]
  ·have hlt : i < (sch b m).length := by rw [sch_len]; omega
   rw [← ih (by omega), sch]
   simp [List.getD, List.getElem?_append_left hlt]
theorem sch_last (b : List UInt8) (n : Nat) : (sch b (n + 1)).getD n 0 = if n < 16 then wrd b n else nextW (sch b n) := by
 have h := sch_len b n
 rw [sch]
 simp [List.getD, List.getElem?_append_right (show (sch b n).length ≤ n by omega), h]
def wat (b : List UInt8) (n : Nat) : W32 := (sch b 64).getD n 0
theorem wat_lo {b : List UInt8} {n : Nat} (h : n < 16) : wat b n = wrd b n := by
 unfold wat
 rw [sch_get b (n + 1) 64 n (by omega) (by omega), sch_last, if_pos h]
theorem wat_hi {b : List UInt8} {n : Nat} (h : 16 ≤ n) (h' : n < 64) : wat b n = ((wat b (n - 16) + sg0 (wat b (n - 15))) + wat b (n - 7)) + sg1 (wat b (n - 2)) := by
 unfold wat
 rw [sch_get b (n + 1) 64 n (by omega) (by omega), sch_last, if_neg (by omega), nextW, sch_len,
  sch_get b n 64 (n - 16) (by omega) (by omega), sch_get b n 64 (n - 15) (by omega) (by omega), sch_get b n 64 (n - 7) (by omega) (by omega), sch_get b n 64 (n - 2) (by omega) (by omega)]
def rnds (b : List UInt8) (s : S8) : Nat → S8
 | 0 => s
 | n + 1 => rnd (K64.getD n 0) (wat b n) (rnds b s n)
def comp (b : List UInt8) (s : S8) : S8 := s.add (rnds b s 64)
def comps (l : List (List UInt8)) (s : S8) : S8 := l.foldl (fun s b => comp b s) s
theorem comps_snoc (l : List (List UInt8)) (b : List UInt8) (s : S8) : comps (l ++ [b]) s = comp b (comps l s) := by
 unfold comps
 rw [List.foldl_append]
 simp only [List.foldl_cons, List.foldl_nil]
def lenB (n i : Nat) : UInt8 := UInt8.ofBitVec ((BitVec.ofNat 64 (8 * n) >>> (8 * (7 - i))).setWidth 8)
def padN (n : Nat) : Nat := 64 * ((n + 72) / 64)
def pad (b : List UInt8) : List UInt8 := b ++ (128 :: List.replicate (padN b.length - b.length - 9) 0) ++ (List.range 8).map (lenB b.length)
theorem padN_ge (n : Nat) : n + 9 ≤ padN n := by unfold padN; omega
theorem pad_len (b : List UInt8) : (pad b).length = padN b.length := by
 have h := padN_ge b.length
 unfold pad
 generalize padN b.length = p at *
 rw [List.length_append, List.length_append, List.length_cons, List.length_replicate, List.length_map, List.length_range]
 omega
def padZ (b : List UInt8) : List UInt8 := b ++ (128 :: List.replicate (padN b.length - b.length - 1) 0)
def blk64 (l : List UInt8) (i : Nat) : List UInt8 := (l.drop (64 * i)).take 64
def blks (l : List UInt8) : List (List UInt8) := (List.range (l.length / 64)).map (blk64 l)
def outB (s : S8) (i : Nat) : UInt8 := UInt8.ofBitVec ((s.l.getD (i / 4) 0 >>> (24 - 8 * (i % 4))).setWidth 8)
def outL (s : S8) : List UInt8 := (List.range 32).map (outB s)
def sha (b : List UInt8) : B32 := ⟨outL (comps (blks (pad b)) H0), by simp [outL]⟩
def padI (b : List UInt8) : Nat → List UInt8
 | 0 => padZ b
 | i + 1 => (padI b i).set (padN b.length - 1 - i) (lenB b.length (7 - i))
theorem padI_len (b : List UInt8) : ∀ i, (padI b i).length = padN b.length
 | 0 => by
  have h := padN_ge b.length
  unfold padI padZ
  generalize padN b.length = p at *
  simp
  omega
 | i + 1 => by rw [padI, List.length_set, padI_len b i]
theorem padI_get (b : List UInt8) : ∀ i, i ≤ 8 → ∀ j, (padI b i)[j]? = if padN b.length - i ≤ j ∧ j < padN b.length then some (lenB b.length (j + 8 - padN b.length)) else (padZ b)[j]?
 | 0, _, j => by
  unfold padI
  rw [if_neg (by omega)]
 | i + 1, hi, j => by
  have hp := padN_ge b.length
  have hl := padI_len b i
  have ih := padI_get b i (by omega) j
  rw [padI, List.getElem?_set, hl]
  generalize padN b.length = p at *
  by_cases e : p - 1 - i = j
  ·rw [if_pos e, if_pos (by omega), if_pos (by omega), show 7 - i = j + 8 - p by omega]
  ·rw [if_neg e, ih]
   by_cases h : p - i ≤ j ∧ j < p
   ·rw [if_pos h, if_pos (by omega)]
   ·rw [if_neg h, if_neg (by omega)]
theorem padI_8 (b : List UInt8) : padI b 8 = pad b := by
 apply List.ext_getElem?
 intro j
 rw [padI_get b 8 (Nat.le_refl _) j]
 have hp := padN_ge b.length
 unfold pad padZ
 generalize padN b.length = p at *
 have hl : (b ++ (128 :: List.replicate (p - b.length - 9) 0)).length = p - 8 := by
  rw [List.length_append, List.length_cons, List.length_replicate]; omega
 by_cases h : p - 8 ≤ j ∧ j < p
 ·rw [if_pos h, List.getElem?_append_right (by omega), hl, List.getElem?_map, List.getElem?_range (by omega), Option.map_some]
  congr 2
  omega
 ·rw [if_neg h]
  by_cases h2 : j < p - 8
  ·rw [List.getElem?_append_left (l₁ := b ++ (128 :: List.replicate (p - b.length - 9) 0)) (by omega)]
   by_cases h3 : j < b.length
   ·rw [List.getElem?_append_left h3, List.getElem?_append_left h3]
   ·rw [List.getElem?_append_right (by omega), List.getElem?_append_right (by omega)]
    cases hj : j - b.length with
    | zero => rfl
    | succ q =>
     rw [List.getElem?_cons_succ, List.getElem?_cons_succ, List.getElem?_replicate, List.getElem?_replicate, if_pos (by omega), if_pos (by omega)]
  ·rw [List.getElem?_eq_none (by rw [List.length_append, List.length_cons, List.length_replicate]; omega), List.getElem?_eq_none (by rw [List.length_append, hl, List.length_map, List.length_range]; omega)]
end Go.Proofs.YtjhlbbgikccclaaGreatDoor
/- U1 -/
namespace Go.Proofs.YtjhlbbgikccclaaGreatDoor
open Go.RowKit
section
variable {P : Program} {n : Nat} {D : List Deferred} {E : Env} {L : List Fa} {T T' : TypeId} {x y : Operand} {k : IntKind} {i j : Int} {m : Nat}
theorem r_subU {p q : Nat} [hk : UK k m] (hx : ev E x = some (.int k i)) (hy : ev E y = some (.int k j)) [ha : NatOf i p] [hb : NatOf j q] (h : q ≤ p ∧ p < 2 ^ m) : Runs0 P n D E L (.binOp .sub T x y T') (.int k ((p - q : Nat) : Int)) := fun c w ka s o ho => by
  obtain rfl := ha.eq
  obtain rfl := hb.eq
  refine run_bin ho (ka.ev hx) (ka.ev hy) (by cases k <;> rfl) ?_
  have e : binOp .sub T (.int k (p : Int)) (.int k (q : Int)) = Op.intArith .sub k p q := by simp [binOp]
  rw [e]
  simp only [Op.intArith, hk.wrap]
  rw [Int.emod_eq_of_lt (by omega) (by have h2 := h.2; have : ((p : Nat) : Int) < ((2 ^ m : Nat) : Int) := by exact_mod_cast h2
                                       push_cast at this; omega)]
  rw [Int.ofNat_sub h.1]
  rfl
end
theorem rot_and (n : Nat) (h : 1 ≤ n ∧ n ≤ 31) : (((BitVec.ofInt 64 (-(n : Int))) &&& BitVec.ofNat 64 31).toNat : Int) = ((32 - n : Nat) : Int) := by
 have key : ∀ k : Fin 32, 1 ≤ k.val → ((BitVec.ofInt 64 (-(k.val : Int))) &&& BitVec.ofNat 64 31).toNat = 32 - k.val := by decide +kernel
 have := key ⟨n, by omega⟩ h.1
 simp only at this
 rw [this]
theorem rot_eq (x : W32) (n : Nat) (h : 1 ≤ n ∧ n ≤ 31) : (x <<< (32 - n)) ||| (x >>> (32 - (32 - n))) = rotr x n := by
 rw [show 32 - (32 - n) = n by omega, BitVec.or_comm]; rfl
theorem Rot_s (x : W32) (n : Nat) (h : 1 ≤ n ∧ n ≤ 31) : Spec Tryz.prog 271 [.int .u32 (x.toNat : Int), .int .i64 (-(n : Int))].toArray [] [] (fun _ : Unit => .int .u32 ((rotr x n).toNat : Int)) (fun _ => []) := by
 refine spec_of Tryz.func271 rfl (n := 17) rfl rfl ?_
 intro W
 refine yR ?_
 refine yS rfl ?_
 refine yN ?_
 refine yR ?_
 refine yM rfl ?_
 refine h_op (r_cI rfl) ?_
 refine h_op (r_int (r_and rfl rfl) (rot_and n h)) ?_
 refine yS rfl ?_
 refine yN ?_
 refine yR ?_
 refine yM rfl ?_
 refine yM rfl ?_
 refine h_op (r_shl rfl rfl) ?_
 refine yM rfl ?_
 refine yM rfl ?_
 refine h_op (r_subU rfl rfl ⟨by omega, by omega⟩) ?_
 refine h_op (r_shr rfl rfl) ?_
 refine h_op (r_or rfl rfl) ?_
 refine yS rfl ?_
 refine yN ?_
 refine h_ret ?_
 exact h_ret1 rfl rfl fun w s => ⟨(), by rw [← rot_eq x n h], s.res (List.Sublist.refl _) (by simp)⟩
theorem turn_s (x : W32) (n : Nat) (h : 1 ≤ n ∧ n ≤ 31) : Spec Tryz.prog 134 [.int .u32 (x.toNat : Int), .int .u64 (n : Int)].toArray [] [] (fun _ : Unit => .int .u32 ((rotr x n).toNat : Int)) (fun _ => []) := by
 refine spec_of Tryz.func134 rfl (n := 13) rfl rfl ?_
 intro W
 refine yR ?_
 refine yS rfl ?_
 refine yN ?_
 refine yR ?_
 refine yM rfl ?_
 refine yM rfl ?_
 refine h_op (r_shr rfl rfl) ?_
 refine yM rfl ?_
 refine yM rfl ?_
 refine h_op (r_subU rfl rfl ⟨by omega, by omega⟩) ?_
 refine h_op (r_shl rfl rfl) ?_
 refine h_op (r_or rfl rfl) ?_
 refine yS rfl ?_
 refine yN ?_
 refine h_ret ?_
 exact h_ret1 rfl rfl fun w s => ⟨(), rfl, s.res (List.Sublist.refl _) (by simp)⟩
theorem right_s (x : W32) (l : List Nat) (hl : ∀ n ∈ l, 1 ≤ n ∧ n ≤ 31) (b o c : Nat) (hn : l.length ≤ 100) : Spec Tryz.prog 258 [.int .u32 (x.toNat : Int), .slice (some ⟨b, o, none⟩) l.length c].toArray [.rd (some ⟨b, o, none⟩) (ic l)] [] (fun _ : Unit => .int .u32 ((xorl x l).toNat : Int)) (fun _ => []) := by
 refine spec_of Tryz.func258 rfl (n := 22) rfl rfl ?_
 intro W
 refine yR ?_
 refine yS rfl ?_
 refine yN ?_
 refine yR ?_
 refine yS rfl ?_
 refine yN ?_
 refine h_seq ?_
 refine yR ?_
 refine yM rfl ?_
 refine h_op (r_len rfl) ?_
 refine yM rfl ?_
 refine yN ?_
 refine h_block ?_
 refine h_loop (fun (k : Nat) => k ≤ l.length) (fun (k : Nat) => [(10, .int .i64 (k : Int)), (9, .int .i64 (l.length : Int)), (8, .slice (some ⟨b, o, none⟩) l.length c), (5, .int .u32 ((xorl x (l.take k)).toNat : Int)), (0, .int .u32 (x.toNat : Int))]) (fun (k : Nat) => [.rd (some ⟨b, o, none⟩) (ic l)]) (fun (k : Nat) => l.length - k) 0 (Nat.zero_le _) ⟨rfl, rfl, rfl, rfl, rfl, trivial⟩ (fun _ s => s) ?_
 intro k hk
 refine yR ?_
 refine h_op (r_lss rfl rfl) ?_
 refine yN ?_
 refine h_seq ?_
 refine h_cond rfl (fun h => ?_) (fun h => ?_)
 ·have hb := hl (l.getD k 0) (by rw [List.getD, List.getElem?_eq_getElem (by omega)]; exact List.getElem_mem _)
  refine h_skip ?_
  refine q_then ?_
  refine h_seq ?_
  refine h_block ?_
  refine yR ?_
  refine h_op (r_idx rfl rfl) ?_
  refine h_op (r_nth rfl (ic_at (by omega))) ?_
  refine yS rfl ?_
  refine yN ?_
  refine h_reg ?_
  refine yM rfl ?_
  refine yM rfl ?_
  refine yM rfl ?_
  refine h_op (r_neg rfl) ?_
  refine h_call ((Rot_s x (l.getD k 0) hb).comes) rfl rfl rfl fun _ => ?_
  refine h_op (r_xor rfl rfl) ?_
  refine yS rfl ?_
  refine h_nil ?_
  refine q_block ?_
  refine q_then ?_
  refine h_reg ?_
  refine h_op (r_add rfl rfl) ?_
  refine yM rfl ?_
  refine h_nil ?_
  exact h_back (k + 1) (by omega) (by omega) ⟨rfl, rfl, rfl, by rw [xorl_step x (by omega)]; rfl, rfl, trivial⟩ (same)
 ·refine h_exit ?_
  refine q_thenE ?_
  refine q_thenE ?_
  refine q_blockE ?_
  refine q_then ?_
  refine yR ?_
  refine yM rfl ?_
  refine yS rfl ?_
  refine yN ?_
  refine h_ret ?_
  obtain rfl : k = l.length := by omega
  exact h_ret1 rfl rfl fun w s => ⟨(), by rw [List.take_length], s.res (List.nil_sublist _) (by simp)⟩
theorem Blocks_s (m : Nat) (h : m ≤ 1000000000000) : Spec Tryz.prog 260 [.int .i64 (m : Int)].toArray [] [] (fun _ : Unit => .int .i64 (((m + 72) / 64 : Nat) : Int)) (fun _ => []) := by
 refine spec_of Tryz.func260 rfl (n := 13) rfl rfl ?_
 intro W
 refine yR ?_
 refine yS rfl ?_
 refine yN ?_
 refine h_seq ?_
 refine yR ?_
 refine yM rfl ?_
 refine h_op (r_bool (r_lss rfl rfl) (decide_eq_false (by omega))) ?_
 refine yM rfl ?_
 refine yM rfl ?_
 refine h_op (r_bool (r_gtr rfl rfl) (decide_eq_false (by omega))) ?_
 refine h_op (r_pick rfl rfl) ?_
 refine yN ?_
 refine h_condF rfl ?_
 refine h_skip ?_
 refine q_then ?_
 refine yR ?_
 refine yM rfl ?_
 refine h_op (r_add rfl rfl) ?_
 refine h_op (r_add rfl rfl) ?_
 refine h_op (r_int (r_quo rfl rfl) (show _ = (((m + 72) / 64 : Nat) : Int) by omega)) ?_
 refine yS rfl ?_
 refine yN ?_
 refine h_ret ?_
 exact h_ret1 rfl rfl fun w s => ⟨(), rfl, s.res (List.Sublist.refl _) (by simp)⟩
theorem padZ_eq (l : List UInt8) : (l ++ (List.replicate (padN l.length) (0 : UInt8)).drop l.length).set l.length (UInt8.ofBitVec 128) = padZ l := by
 have h := padN_ge l.length
 unfold padZ
 generalize padN l.length = p at *
 rw [List.set_append_right _ _ (Nat.le_refl _), Nat.sub_self, List.drop_replicate]
 obtain ⟨q, hq⟩ : ∃ q, p - l.length = q + 1 := ⟨p - l.length - 1, by omega⟩
 rw [hq, List.replicate_succ, List.set_cons_zero]
 rfl
theorem lenB_eq (n i : Nat) (h : i ≤ 7) (hn : n ≤ 1000000000000) : UInt8.ofBitVec (((BitVec.ofNat 64 n * 8) >>> (8 * i)).setWidth 8) = lenB n (7 - i) := by
 unfold lenB
 rw [show 7 - (7 - i) = i by omega, show BitVec.ofNat 64 n * 8 = BitVec.ofNat 64 (8 * n) by rw [Nat.mul_comm, BitVec.ofNat_mul]; rfl]
theorem Pad_s (l : List UInt8) (A : Option Addr) (c : Nat) (hA : A = none → l.length = 0 ∧ c = 0) (hn : l.length ≤ 100000000000) : Spec Tryz.prog 224 [.slice A l.length c].toArray [.rd A (bc l)] [] (fun u : Nat × Nat => .slice (some ⟨u.1, 0, none⟩) (pad l).length u.2) (fun u => [.own (.slice (some ⟨u.1, 0, none⟩) (pad l).length u.2) (pad l).length 5 1 (bc (pad l))]) := by
 rw [← padI_8, padI_len]
 have hp : 64 * ((l.length + 72) / 64) = padN l.length := rfl
 have hp2 := padN_ge l.length
 have hp3 : padN l.length ≤ l.length + 72 := by unfold padN; omega
 have hz := padZ_eq l
 have h8 := padI_len l
 have hst : ∀ i, i < 8 → padI l (i + 1) = (padI l i).set (padN l.length - 1 - i) (lenB l.length (7 - i)) := fun i _ => by rw [padI]
 have h0 : padI l 0 = padZ l := rfl
 generalize padN l.length = p at *
 obtain ⟨q, hq⟩ : ∃ q, q = l ++ List.drop l.length (List.replicate p 0) := ⟨_, rfl⟩
 have hql : q.length = p := by rw [hq, List.length_append, List.length_drop, List.length_replicate]; omega
 rw [← hq] at hz
 refine spec_of Tryz.func224 rfl (n := 39) rfl rfl ?_
 intro W
 refine yR ?_
 refine yS rfl ?_
 refine yN ?_
 refine yR ?_
 refine yM rfl ?_
 refine h_op (r_len rfl) ?_
 refine h_call ((Blocks_s l.length (by omega)).comes) rfl rfl rfl fun _ => ?_
 refine h_op (r_int (r_mul rfl rfl) (show _ = (p : Int) by omega)) ?_
 refine h_opX (x_makeB rfl rfl) fun g10 => ?_
 refine yS rfl ?_
 refine yN ?_
 refine yR ?_
 refine yM rfl ?_
 refine yM rfl ?_
 refine h_opX (x_copyB rfl rfl (fun e => (hA e).1) rfl) fun _ => ?_
 refine yN ?_
 refine yR ?_
 refine yM rfl ?_
 refine yM rfl ?_
 refine h_op (r_len rfl) ?_
 rw [← hq]
 refine h_op (r_idx rfl rfl) ?_
 refine h_opS (s_setBO rfl rfl) ?_
 refine yN ?_
 refine yR ?_
 refine yM rfl ?_
 refine h_op (r_len rfl) ?_
 refine h_op (r_cNW rfl) ?_
 refine h_op (r_mulW rfl rfl) ?_
 refine yS rfl ?_
 refine yN ?_
 refine h_seq ?_
 refine yR ?_
 refine yM rfl ?_
 refine yN ?_
 refine h_block ?_
 rw [hz]
 refine h_loop (fun (i : Nat) => i ≤ 8) (fun (i : Nat) => [(22, .int .i64 (i : Int)), (3, .slice (some ⟨g10, 0, none⟩) p p), (4, .int .u64 ((BitVec.ofNat 64 l.length * 8).toNat : Int))]) (fun (i : Nat) => [.own (.slice (some ⟨g10, 0, none⟩) p p) p 5 1 (bc (padI l i))]) (fun (i : Nat) => 8 - i) 0 (by omega) ⟨rfl, rfl, rfl, trivial⟩ (by rw [h0]; exact same) ?_
 intro i hi
 have hl := h8 i
 refine yR ?_
 refine h_op (r_lss rfl rfl) ?_
 refine yN ?_
 refine h_seq ?_
 refine h_cond rfl (fun h => ?_) (fun h => ?_)
 ·refine h_skip ?_
  refine q_then ?_
  refine h_seq ?_
  refine h_block ?_
  refine yR ?_
  refine yM rfl ?_
  refine yS rfl ?_
  refine yN ?_
  refine h_reg ?_
  refine yM rfl ?_
  refine yM rfl ?_
  refine h_op (r_len rfl) ?_
  refine h_op (r_subN rfl rfl) ?_
  refine yM rfl ?_
  refine h_op (r_subN rfl rfl) ?_
  refine yM rfl ?_
  refine yM rfl ?_
  refine h_op (r_mul rfl rfl) ?_
  refine h_op (r_shr rfl rfl) ?_
  refine h_op (r_cW rfl) ?_
  refine h_op (r_idx rfl rfl) ?_
  refine h_opS (s_setBO rfl rfl) ?_
  refine h_nil ?_
  refine q_block ?_
  refine q_then ?_
  rw [lenB_eq l.length i (by omega) (by omega), ← hst i (by omega)]
  refine h_reg ?_
  refine h_op (r_add rfl rfl) ?_
  refine yM rfl ?_
  refine h_nil ?_
  exact h_back (i + 1) (by omega) (by omega) ⟨rfl, rfl, rfl, trivial⟩ (same)
 ·refine h_exit ?_
  refine q_thenE ?_
  refine q_thenE ?_
  refine q_blockE ?_
  refine q_then ?_
  refine yR ?_
  refine yM rfl ?_
  refine yS rfl ?_
  refine yN ?_
  refine h_ret ?_
  obtain rfl : i = 8 := by omega
  exact h_ret1 rfl rfl fun w s => ⟨(g10, p), rfl, s.res (List.Sublist.refl _) (by simp [Fa.wr])⟩
end Go.Proofs.YtjhlbbgikccclaaGreatDoor
/- U2 -/
namespace Go.Proofs.YtjhlbbgikccclaaGreatDoor
open Go.RowKit
def idxd : Nat → List Value → List (Nat × Value)
 | _, [] => []
 | k, v :: l => (k, v) :: idxd (k + 1) l
theorem parts_idxd : ∀ (l : List Value) (k : Nat), (∀ v ∈ l, v.oneCell' = true) → Parts 1 k (idxd k l) l
 | [], k, _ => inferInstanceAs (Parts 1 k [] [])
 | v :: l, k, h => by
  have h1 : v.oneCell' = true := h v (by simp)
  have hv : VCells v [v] := ⟨by cases v <;> first | rfl | simp [Value.oneCell'] at h1⟩
  exact Parts.cons hv (row_one h1) (parts_idxd l (k + 1) fun u hu => h u (by simp [hu]))
theorem wc_one {m : Nat} (k : IntKind) (l : List (BitVec m)) : ∀ v ∈ wc k l, v.oneCell' = true := by
 intro v hv
 obtain ⟨x, _, rfl⟩ := List.mem_map.1 hv
 rfl
instance rowK64 : Row (wc .u32 K64) 64 := ⟨rfl, wc_one _ _⟩
theorem primes_parts : Parts 1 0 (idxd 0 (wc .u32 K64)) (wc .u32 K64) := parts_idxd _ 0 (wc_one _ _)
theorem primes_s : Spec Tryz.prog 131 ([] : List Value).toArray [] [] (fun g : Nat => .slice (some ⟨g, 0, none⟩) 64 64) (fun g => [.own (.slice (some ⟨g, 0, none⟩) 64 64) 64 251 1 (wc .u32 K64)]) := by
 refine spec_of Tryz.func131 rfl (n := 2) rfl rfl ?_
 intro W
 refine yR ?_
 refine yS rfl ?_
 refine yN ?_
 refine yR ?_
 refine h_opX (x_bsl (ps := idxd 0 (wc .u32 K64)) rfl rfl (hf := primes_parts) (ho := rowK64)) fun g1 => ?_
 refine yS rfl ?_
 refine yN ?_
 refine h_ret ?_
 exact h_ret1 rfl rfl fun w s => ⟨g1, rfl, s.res (List.Sublist.refl _) (by simp [Fa.wr])⟩
def padR (l : List UInt8) (k : Nat) : List UInt8 := (l ++ [128]) ++ List.replicate k 0
theorem padR_step (l : List UInt8) (k : Nat) : padR l k ++ [UInt8.ofBitVec 0] = padR l (k + 1) := by
 unfold padR
 rw [List.replicate_succ', List.append_assoc]
 rfl
def padJ (l : List UInt8) (j : Nat) : List UInt8 := padR l (padN l.length - l.length - 9) ++ (List.range j).map (lenB l.length)
theorem padJ_step (l : List UInt8) (j : Nat) : padJ l j ++ [lenB l.length j] = padJ l (j + 1) := by
 unfold padJ
 rw [List.range_succ, List.map_append, List.append_assoc]
 rfl
theorem padJ_8 (l : List UInt8) : padJ l 8 = pad l := by
 unfold padJ padR pad
 simp only [List.append_assoc, List.cons_append, List.nil_append]
theorem lenB_eq2 (n j : Nat) (h : j ≤ 7) (hn : n ≤ 1000000000000) : UInt8.ofBitVec (((BitVec.ofNat 64 n * 8) >>> (56 - 8 * j)).setWidth 8) = lenB n j := by
 have := lenB_eq n (7 - j) (by omega) hn
 rwa [show 8 * (7 - j) = 56 - 8 * j by omega, show 7 - (7 - j) = j by omega] at this
theorem refPad_s (l : List UInt8) (A : Option Addr) (c : Nat) (hA : A = none → l.length = 0 ∧ c = 0) (hn : l.length ≤ 100000000000) : Spec Tryz.prog 132 [.slice A l.length c].toArray [.rd A (bc l)] [] (fun u : Nat × Nat => .slice (some ⟨u.1, 0, none⟩) (pad l).length u.2) (fun u => [.own (.slice (some ⟨u.1, 0, none⟩) (pad l).length u.2) (pad l).length 5 1 (bc (pad l))]) := by
 rw [pad_len]
 have hp : 64 * ((l.length + 72) / 64) = padN l.length := rfl
 have hp2 := padN_ge l.length
 have hj0 : ∀ k, k = padN l.length - l.length - 9 → padR l k = padJ l 0 := fun k hk => by unfold padJ; rw [hk]; simp
 generalize padN l.length = p at *
 refine spec_of Tryz.func132 rfl (n := 36) rfl rfl ?_
 intro W
 refine yR ?_
 refine yS rfl ?_
 refine yN ?_
 refine yR ?_
 refine h_opX (x_bsl0 (xs := bc [])) fun g6 => ?_
 refine yM rfl ?_
 refine h_opX (x_appAB rfl rfl hA rfl) fun ⟨A8, c8⟩ => ?_
 refine yS rfl ?_
 refine yN ?_
 refine yR ?_
 refine yM rfl ?_
 refine h_opX (x_bsl rfl rfl) fun g10 => ?_
 refine h_opX (x_app1B rfl rfl) fun ⟨g11, c11⟩ => ?_
 refine yS rfl ?_
 refine yN ?_
 refine h_seq ?_
 refine h_block ?_
 rw [show ([] ++ l) ++ [UInt8.ofBitVec 128] = padR l 0 by simp [padR]]
 refine h_loop (fun (s : Nat × Nat × Nat) => l.length + 1 + s.1 ≤ p - 8) (fun (s : Nat × Nat × Nat) => [(3, .slice (some ⟨s.2.1, 0, none⟩) (l.length + 1 + s.1) s.2.2), (0, .slice A l.length c)]) (fun (s : Nat × Nat × Nat) => [.own (.slice (some ⟨s.2.1, 0, none⟩) (l.length + 1 + s.1) s.2.2) (l.length + 1 + s.1) 5 1 (bc (padR l s.1))]) (fun (s : Nat × Nat × Nat) => p - s.1) (0, g11, c11) ((show l.length + 1 + 0 ≤ p - 8 by omega)) ⟨rfl, rfl, trivial⟩ (same) ?_
 rintro ⟨k, g, cp⟩ hk
 simp only at hk
 refine h_seq ?_
 refine yR ?_
 refine yM rfl ?_
 refine h_op (r_len rfl) ?_
 refine h_op (r_rem rfl rfl) ?_
 refine h_op (r_neq rfl rfl) ?_
 refine yN ?_
 refine h_cond rfl (fun h => ?_) (fun h => ?_)
 ·have hlt : l.length + 1 + k < p - 8 := by omega
  refine h_skip ?_
  refine q_then ?_
  refine h_block ?_
  refine h_reg ?_
  refine yM rfl ?_
  refine h_opX (x_bsl rfl rfl) fun g17 => ?_
  refine h_opX (x_app1B rfl rfl) fun ⟨g18, c18⟩ => ?_
  refine yS rfl ?_
  refine h_nil ?_
  refine q_block ?_
  rw [padR_step]
  exact h_back (k + 1, g18, c18) ((show l.length + 1 + (k + 1) ≤ p - 8 by omega)) ((show p - (k + 1) < p - k by omega)) ⟨rfl, rfl, trivial⟩ (same)
 ·have hk2 : k = p - l.length - 9 := by omega
  rw [hj0 k hk2]
  have hN : l.length + 1 + k = p - 8 := by omega
  rw [hN]
  refine h_exit ?_
  refine q_thenE ?_
  refine q_thenE ?_
  refine q_blockE ?_
  refine q_then ?_
  refine yR ?_
  refine yM rfl ?_
  refine h_op (r_len rfl) ?_
  refine h_op (r_cNW rfl) ?_
  refine h_op (r_mulW rfl rfl) ?_
  refine yS rfl ?_
  refine yN ?_
  refine h_seq ?_
  refine yR ?_
  refine yS rfl ?_
  refine yN ?_
  refine h_block ?_
  refine h_loop (fun (s : Nat × Nat × Nat) => s.1 ≤ 8) (fun (s : Nat × Nat × Nat) => [(3, .slice (some ⟨s.2.1, 0, none⟩) (p - 8 + s.1) s.2.2), (4, .int .u64 ((BitVec.ofNat 64 l.length * 8).toNat : Int)), (5, .int .i64 (56 - 8 * (s.1 : Int)))]) (fun (s : Nat × Nat × Nat) => [.own (.slice (some ⟨s.2.1, 0, none⟩) (p - 8 + s.1) s.2.2) (p - 8 + s.1) 5 1 (bc (padJ l s.1))]) (fun (s : Nat × Nat × Nat) => 8 - s.1) (0, g, cp) ((show 0 ≤ 8 by omega)) ⟨rfl, rfl, rfl, trivial⟩ (same) ?_
  rintro ⟨j, g, cp⟩ hj
  simp only at hj
  refine h_seq ?_
  refine yR ?_
  refine yM rfl ?_
  refine h_op (r_geq rfl rfl) ?_
  refine yN ?_
  refine h_cond rfl (fun h => ?_) (fun h => ?_)
  ·refine h_skip ?_
   refine q_then ?_
   refine h_seq ?_
   refine h_block ?_
   refine h_reg ?_
   refine yM rfl ?_
   refine yM rfl ?_
   refine yM rfl ?_
   refine h_op (r_cP (q := 56 - 8 * j) rfl (by omega) (by omega)) ?_
   refine h_op (r_shr rfl rfl) ?_
   refine h_op (r_cW rfl) ?_
   refine h_opX (x_bsl rfl rfl) fun g33 => ?_
   refine h_opX (x_app1B rfl rfl) fun ⟨g34, c34⟩ => ?_
   refine yS rfl ?_
   refine h_nil ?_
   refine q_block ?_
   refine q_then ?_
   refine h_reg ?_
   refine yM rfl ?_
   refine h_op (r_sub rfl rfl) ?_
   refine yS rfl ?_
   refine h_nil ?_
   rw [lenB_eq2 l.length j (by omega) (by omega), padJ_step]
   exact h_back (j + 1, g34, c34) ((show j + 1 ≤ 8 by omega)) ((show 8 - (j + 1) < 8 - j by omega)) ⟨rfl, rfl, aI rfl (by omega), trivial⟩ (same)
  ·obtain rfl : j = 8 := by omega
   rw [padJ_8, show p - 8 + 8 = p by omega]
   refine h_exit ?_
   refine q_thenE ?_
   refine q_thenE ?_
   refine q_blockE ?_
   refine q_then ?_
   refine yR ?_
   refine yM rfl ?_
   refine yS rfl ?_
   refine yN ?_
   refine h_ret ?_
   exact h_ret1 rfl rfl fun w s => ⟨(g, cp), rfl, s.res (List.Sublist.refl _) (by simp [Fa.wr])⟩
end Go.Proofs.YtjhlbbgikccclaaGreatDoor
