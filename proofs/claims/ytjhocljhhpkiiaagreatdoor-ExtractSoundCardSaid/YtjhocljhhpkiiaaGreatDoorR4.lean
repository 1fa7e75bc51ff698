/- A range over a function that makes what it yields: new facts come with each round; Memory that is written once and then read alone: a zone, and what is known of it for good; Interface values: assertions of types, methods. Pointers compared; The seat's types and functions, for the new logic; SHA-256 in plain Lean, as the reference reckons it; Rotations; the padding (joined texts: N9 N10 N11 TN E7 U1) -/
import Derived.Test.YtjhocljhhpkiiaaGreatDoorR3
import Derived.Test.YtjhocljhhpkiiaaGreatDoorRows
import Derived.Shelf.Abstract
set_option linter.all false
/- N9 -/
namespace Go.Proofs.YtjhocljhhpkiiaaGreatDoor
open Go.RowKit
def IterG (P : Program) (gf : FuncId) (lb : List Value) (R A : List Fa) {τ : Type} (N : Nat) (enc : Nat → τ → List Value) (G : Nat → τ → List Fa) (A' : List Fa) : Prop :=
 ∀ (l : Nat) (J : Nat → List Fa → Prop) (Rm m0 : List Fa) (w : World), (∀ k m, J k m → ∀ f ∈ m, f.wr = true) →
  (∀ k u m, k < N → J k m → ∀ w, Fx w (G k u ++ m) → Reads w (G k u ++ m) Rm → YieldAt Fence.wide 0 P l (enc k u).toArray w fun e w' => e = .returned (.bool true) ∧ ∃ m', J (k + 1) m' ∧ Rx (G k u ++ m) w w' m') →
  J 0 m0 → Fx w (A ++ m0) → Reads w (A ++ m0) (R ++ Rm) →
  Calls P gf (.func (.yield l) #[] #[] :: lb).toArray w fun e w' => ∃ v m', e = .returned v ∧ J N m' ∧ Rx (A ++ m0) w w' (A' ++ m')
theorem wf_perm {A A' : List Fa} (h : A.Perm A') (k : Nat) : wf A k ↔ wf A' k := ⟨fun ⟨f, hf, h1⟩ => ⟨f, h.mem_iff.1 hf, h1⟩, fun ⟨f, hf, h1⟩ => ⟨f, h.mem_iff.2 hf, h1⟩⟩
theorem Rx.permA {A A' : List Fa} {W w : World} {N : List Fa} (hr : Rx A W w N) (h : A.Perm A') : Rx A' W w N :=
 ⟨⟨hr.toFx, hr.os, hr.tape, hr.output, hr.size, fun k hk hn => hr.block k hk fun hw => hn ((wf_perm h k).1 hw), fun f hf hw k hk => (hr.fresh f hf hw k hk).imp_right (wf_perm h k).1⟩, fun f hf k hk => (hr.all f hf k hk).imp_right (wf_perm h k).1⟩
theorem Reads.perm {w : World} {A A' R : List Fa} (hr : Reads w A R) (h : A.Perm A') : Reads w A' R := fun r hrm => ⟨(hr r hrm).1, (hr r hrm).2.1, fun a ha => (hr r hrm).2.2 a (h.mem_iff.2 ha)⟩
instance (priority := 2000) (G m Rm L M' M : List Fa) [h : Take G L M'] [k : TakeT m Rm M' M] : TakeT (G ++ m) Rm L M := ⟨by
 refine h.perm.trans ?_
 rw [List.append_assoc]
 exact List.Perm.append_left _ k.perm⟩
section
variable {A : List Fa} {W : World} {n : Nat} {D : List Deferred} {E : Env} {L M : List Fa} {P : Program} {Q : Exit → Act → World → Prop}
theorem h_rangeG {τ : Type} {N : Nat} {G : Nat → τ → List Fa} {g : Operand} {ps : List Nat} {assign body : Code} {gf : FuncId} {lb : List Value} {R Ai Ai' : List Fa} {enc : Nat → τ → List Value} (it : IterG P gf lb R Ai N enc G Ai') (hg : ev E g = some (.func (.func gf) #[] lb.toArray)) [eg : Ent P gf]
  (J : Nat → List Fa → Prop) (m0 Rm : List Fa) [ht : Take (Ai ++ m0) L M] [hr : Rds M (R ++ Rm)] (hJw : ∀ k m, J k m → ∀ f ∈ m, f.wr = true) (h0 : J 0 m0) (hps : (ps.all fun p => Nat.blt p n) = true) (hen : ∀ k u, (enc k u).length = ps.length)
  (hround : ∀ (l : Nat) (r : Loop) (k : Nat) (u : τ) (m : List Fa) (W1 : World), r.state = .ready → r.pending = none → k < N → J k m →
   H (.obj l (.loop r) :: (G k u ++ m)) W1 n [] (parEnv ps (enc k u) E) (.obj l (.loop r) :: ((G k u ++ m) ++ Rm)) (assign.wpIn (FR (some l)) 0 P (Exit.then (fun a₁ w₁ => ∃ w₂, (Instr.beginRound l).run P w₁ = .ok () w₂ ∧ body.wpIn (FR (some l)) 0 P (roundPost P l (RoundOk l r (J (k + 1)) (G k u ++ m) W1)) a₁ w₂) (fun _ _ _ => False))))
  (hdone : ∀ (b : Nat) (m : List Fa), J N m → H A W n ({ target := .collected b, args := #[] } :: D) E ((Ai' ++ m) ++ (.obj b (.deferred (some [])) :: M)) (Q .normal)) :
  H A W n D E L ((Code.rangeFunc g ps.toArray assign body).wpIn (FR none) 0 P Q) := fun a w ka s => by
 refine wpIn_rangeFunc ?_
 intro fn hfn
 obtain ⟨rec, hrec⟩ : ∃ rec : Loop, rec = { state := .ready, pending := none, fn, tmps := a.tmps, params := ps.toArray, assign, body, defers := w.heap.size } := ⟨_, rfl⟩
 have s1 := (s.allocObj (.deferred (some []))).allocObj (.loop rec)
 rw [World.size_alloc] at s1
 generalize hW1 : (w.alloc (.deferred (some []))).alloc (.loop rec) = W1 at s1
 have s2 := s1.zag ht.perm
 have hev : a.eval g = .func (.func gf) #[] lb.toArray := ka.ev hg
 refine ⟨w.heap.size + 1, [{ target := .collected w.heap.size, args := #[] }], W1, { target := .fn (.func gf) lb.toArray, args := #[.func (.yield (w.heap.size + 1)) #[] #[]] }, W1, gf, #[.func (.yield (w.heap.size + 1)) #[] #[]] ++ lb.toArray, W1, ?_, ?_, ?_, ?_, (fun h => by cases h), ?_⟩
 ·rw [← hW1, hrec]
  exact run_enterLoop_outer _ _ _ _ _
 ·simp only [resolve, hev]
  simp [go_sem]
 ·intro f' _
  trivial
 ·simp only [invoke]
  exact eg.ok _ _
 ·have hcall := it (w.heap.size + 1) (fun k m => ∃ m1, m = .obj (w.heap.size + 1) (.loop rec) :: m1 ∧ J k m1) Rm (.obj (w.heap.size + 1) (.loop rec) :: m0) W1 (by rintro k m ⟨m1, rfl, hm⟩ f hf; exact (List.mem_cons.1 hf).elim (fun h => by rw [h]; rfl) (hJw k m1 hm f)) ?_ ⟨m0, rfl, h0⟩ (s2.toFx.sub (List.sublist_append_left _ _)) ?_
  ·rw [show (#[.func (.yield (w.heap.size + 1)) #[] #[]] ++ lb.toArray : Array Value) = (.func (.yield (w.heap.size + 1)) #[] #[] :: lb).toArray by simp]
   refine (calls_FR hcall).mono ?_
   rintro e w3 ⟨v, m', rfl, ⟨m1, rfl, hJ⟩, hx⟩
   have s3 := s2.ret hx
   have s4 := s3.perm (M := .obj (w.heap.size + 1) (.loop rec) :: ((Ai' ++ m1) ++ (.obj w.heap.size (.deferred (some [])) :: M))) (by
    simp only [List.append_assoc, List.cons_append]
    exact List.perm_middle)
   have ho : w3.heap[w.heap.size + 1]? = some (.loop rec) := s4.ok (.obj _ _) (List.mem_cons_self ..)
   refine ⟨none, w3.putObj (w.heap.size + 1) (.loop { rec with state := .exhausted }), ?_, ?_⟩
   ·have := run_endLoop (P := P) ho (by rw [hrec]; simp)
    have hpn : rec.pending = none := by rw [hrec]
    rw [this, hpn]
   ·exact hdone _ m1 hJ _ _ ⟨ka.size, by show [_] ++ a.defers = _; rw [ka.defers]; rfl, ka.val⟩ (s4.putObj _).tail
  ·rintro k u m hkN ⟨m1, rfl, hJ⟩ w4 hf0 hR0
   have hpm : (G k u ++ .obj (w.heap.size + 1) (.loop rec) :: m1).Perm (.obj (w.heap.size + 1) (.loop rec) :: (G k u ++ m1)) := List.perm_middle
   have hf := hf0.perm hpm
   have hR := hR0.perm hpm
   have ho : w4.heap[w.heap.size + 1]? = some (.loop rec) := hf.ok (.obj _ _) (List.mem_cons_self ..)
   have hy := run_yield (P := P) (args := (enc k u).toArray) ho (by rw [hrec]; simpa using hen k u)
   refine ⟨_, _, _, _, hy, ?_⟩
   have hk : Kn n [] E { tmps := a.tmps, defers := [] } := ⟨ka.size, rfl, ka.val⟩
   have hk2 := Kn.par ps (enc k u) E a.tmps hps hk
   have hh := hround (w.heap.size + 1) rec k u m1 w4 (by rw [hrec]) (by rw [hrec]) hkN hJ _ w4 hk2 (Sx.start hf hR)
   rw [hrec] at hh ⊢
   refine (roundIn_of_wpIn (F := Fence.wide) trivial (R := RoundOk (w.heap.size + 1) rec (J (k + 1)) (G k u ++ m1) w4) ?_).mono ?_
   ·rw [hrec]
    simp only [List.zip_toArray, List.foldl_toArray]
    exact hh
   ·rintro e w5 ⟨rfl, m', hJ', hx⟩
    rw [← hrec]
    exact ⟨rfl, _, ⟨m', rfl, hJ'⟩, hx.permA hpm.symm⟩
  ·refine s2.reads (M := .obj w.heap.size (.deferred (some [])) :: M) (List.Perm.refl _) ⟨fun hw r hrm => ?_⟩
   obtain ⟨h1, h2, h3⟩ := hr.ok hw.tail r hrm
   exact ⟨h1, h2, fun k hk => let ⟨f, hf, hfk⟩ := h3 k hk; ⟨f, List.mem_cons_of_mem _ hf, hfk⟩⟩
theorem iter_ofG {L1 LL : List Fa → List Fa → List Fa} {gf n : Nat} {fn : Func} {c : Code} {lb : List Value} {R Ai Ai' : List Fa} {τ : Type} {N : Nat} {enc : Nat → τ → List Value} {G : Nat → τ → List Fa} (hf : P.funcs[gf]? = some fn) (hb : fn.body = some c) (hn : fn.ntmps = n) (hl : Nat.ble (lb.length + 1) n = true) [hL1 : ∀ m0 Rm, App R (m0 ++ Rm) (L1 m0 Rm)] [hL2 : ∀ m0 Rm, App Ai (L1 m0 Rm) (LL m0 Rm)]
  (h : ∀ (l : Nat) (J : Nat → List Fa → Prop) (Rm m0 : List Fa) (W : World), (∀ k m, J k m → ∀ f ∈ m, f.wr = true) → (∀ r ∈ Rm, r.wr = false) → (∀ k u m, k < N → J k m → YA P l (enc k u) Rm (G k u ++ m) (J (k + 1))) → J 0 m0 →
   H (Ai ++ m0) W n [] (argsEnv 0 (.func (.yield l) #[] #[] :: lb)) (LL m0 Rm) (c.wpIn (FR none) 0 P (bodyPostM (FR none) 0 P fn fun e w' => ∃ v m', e = .returned v ∧ J N m' ∧ Rx (Ai ++ m0) W w' (Ai' ++ m')))) : IterG P gf lb R Ai N enc G Ai' := fun l J Rm m0 w hJw hy h0 hA hR => by
 have hl' : (Value.func (.yield l) #[] #[] :: lb).length ≤ n := by simpa using hl
 have hp : (Ai ++ m0 ++ (R ++ Rm)).Perm (Ai ++ (R ++ (m0 ++ Rm))) := by
  rw [List.append_assoc]
  refine List.Perm.append_left _ ?_
  rw [← List.append_assoc, ← List.append_assoc]
  exact List.Perm.append_right _ List.perm_append_comm
 have s := (Sx.start hA hR).perm hp
 rw [(hL1 m0 Rm).eq, (hL2 m0 Rm).eq] at s
 refine (callsIn_wide (n := 0)).1 (callsIn_of_wp_marks hf hb trivial (h l J Rm m0 w hJw (fun r hr => (hR r (List.mem_append_right _ hr)).1) hy h0 _ w ⟨?_, rfl, fun t u ht => ?_⟩ s))
 ·simp only [hn, Array.size_append, List.size_toArray, Array.size_replicate]
  omega
 ·obtain ⟨_, h2⟩ := argsEnv_look (.func (.yield l) #[] #[] :: lb) 0 t u ht
  have hlt : t < (Value.func (.yield l) #[] #[] :: lb).length := by
   obtain ⟨h3, _⟩ := List.getElem?_eq_some_iff.1 h2
   simpa using h3
  rw [Array.getElem?_append_left (by simpa using hlt)]
  simpa using h2
end
end Go.Proofs.YtjhocljhhpkiiaaGreatDoor
/- N10 -/
namespace Go.Proofs.YtjhocljhhpkiiaaGreatDoor
open Go.RowKit
abbrev Zh := Nat → Option Obj
def Zh.cell (h : Zh) (b o : Nat) : Option Value := match h b with
 | some (.cells c _ _) => c[o]?
 | _ => none
class LeZ (h : outParam Zh) (h' : Zh) : Prop where
 le : ∀ k o, h k = some o → h' k = some o
theorem LeZ.refl (h : Zh) : LeZ h h := ⟨fun _ _ h => h⟩
theorem LeZ.trans {a b c : Zh} (h : LeZ a b) (h' : LeZ b c) : LeZ a c := ⟨fun k o e => h'.le k o (h.le k o e)⟩
theorem LeZ.cell {h h' : Zh} (hl : LeZ h h') {b o : Nat} {v : Value} (hc : h.cell b o = some v) : h'.cell b o = some v := by
 unfold Zh.cell at *
 cases hb : h b with
 | none => rw [hb] at hc; cases hc
 | some x => rw [hl.le b x hb]; rw [hb] at hc; exact hc
class RdZ (h : Zh) (A : Option Addr) (cs : outParam (List Value)) : Prop where
 at_ : ∀ j v, cs[j]? = some v → ∃ b o, A = some ⟨b, o, none⟩ ∧ h.cell b (o + j) = some v
theorem RdZ.nil (h : Zh) (A : Option Addr) : RdZ h A [] := ⟨fun j v e => by simp at e⟩
theorem RdZ.mono {h h' : Zh} (hl : LeZ h h') {A : Option Addr} {cs : List Value} (hr : RdZ h A cs) : RdZ h' A cs := ⟨fun j v hv => by
 obtain ⟨b, o, e, hc⟩ := hr.at_ j v hv
 exact ⟨b, o, e, hl.cell hc⟩⟩
theorem RdZ.part {h : Zh} {b o off n : Nat} {cs out : List Value} (hr : RdZ h (some ⟨b, o, none⟩) cs) (hp : RowAt cs off n out) : RdZ h (some ⟨b, o + off, none⟩) out := ⟨fun j v hv => by
 obtain ⟨b', o', e, hc⟩ := hr.at_ (off + j) v (hp.at_ j v hv)
 injection e with e
 injection e with e1 e2
 subst e1 e2
 exact ⟨b, o + off, rfl, by rw [Nat.add_assoc]; exact hc⟩⟩
theorem Zh.cell_of {h : Zh} {w : World} (hw : ∀ k o, h k = some o → w.heap[k]? = some o) {b o : Nat} {v : Value} (hc : h.cell b o = some v) : w.cell? ⟨b, o, none⟩ = some v := by
 unfold Zh.cell at hc
 cases hb : h b with
 | none => rw [hb] at hc; cases hc
 | some x =>
  rw [hb] at hc
  simp only [World.cell?, hw b x hb]
  cases x with
  | cells c T z => simpa using hc
  | _ => cases hc
theorem RdZ.rd {h : Zh} {w : World} (hw : ∀ k o, h k = some o → w.heap[k]? = some o) {A : Option Addr} {cs : List Value} (hr : RdZ h A cs) : Rd w A cs := fun j v hv => by
 obtain ⟨b, o, e, hc⟩ := hr.at_ j v hv
 exact ⟨b, o, e, Zh.cell_of hw hc⟩
def World.zh (w : World) : Zh := fun k => w.heap[k]?
theorem RdZ.of {w : World} {A : Option Addr} {cs : List Value} (hr : Rd w A cs) : RdZ (World.zh w) A cs := ⟨fun j v hv => by
 obtain ⟨b, o, e, hc⟩ := hr j v hv
 refine ⟨b, o, e, ?_⟩
 unfold Zh.cell World.zh
 simp only [World.cell?] at hc
 split at hc
 ·rename_i h1
  rw [h1]
  simpa using hc
 ·cases hc⟩
section
variable {b : Bool} {h : Zh} {L M : List Fa}
theorem Fx.zone {w : World} (hS : Fx w (.zone b h :: L)) : ∀ k o, h k = some o → w.heap[k]? = some o := hS.ok (.zone b h) (List.mem_cons_self ..)
theorem cells_zone {g O off : Nat} {cs : List Value} (hr : ∀ j v, cs[off + j]? = some v → h.cell g (O + j) = some v) : Cells g O (.zone b h :: L) off cs := ⟨fun hS j v hv => Zh.cell_of hS.zone (hr j v hv)⟩
theorem RdZ.cell {g o : Nat} {cs : List Value} (hr : RdZ h (some ⟨g, o, none⟩) cs) {j : Nat} {v : Value} (hv : cs[j]? = some v) : h.cell g (o + j) = some v := by
 obtain ⟨b', o', e, hc⟩ := hr.at_ j v hv
 injection e with e
 injection e with e1 e2
 subst e1 e2
 exact hc
instance (g o off : Nat) (cs : List Value) [hr : RdZ h (some ⟨g, o, none⟩) cs] : Cells g (o + off) (.zone b h :: L) off cs := cells_zone fun j v hv => by rw [Nat.add_assoc]; exact hr.cell hv
instance (g o : Nat) (cs : List Value) [hr : RdZ h (some ⟨g, o, none⟩) cs] : Cells g o (.zone b h :: L) 0 cs := cells_zone fun j v hv => hr.cell (by rwa [Nat.zero_add] at hv)
instance (priority := 900) (g O : Nat) (cs : List Value) [hr : RdZ h (some ⟨g, 0, none⟩) cs] : Cells g O (.zone b h :: L) O cs := cells_zone fun j v hv => by have := hr.cell hv; rwa [Nat.zero_add] at this
theorem zone_foot {A : Option Addr} {cs : List Value} (hr : RdZ h A cs) {k : Nat} (hk : (Fa.rd A cs).foot k) : (Fa.zone b h).foot k := by
 obtain ⟨hne, o, rfl⟩ := hk
 cases cs with
 | nil => exact (hne rfl).elim
 | cons v cs =>
  have := hr.cell (j := 0) (v := v) rfl
  unfold Zh.cell at this
  cases hb : h k with
  | none => rw [hb] at this; cases this
  | some x => exact ⟨x, hb⟩
instance (priority := 1400) (A : Option Addr) (cs : List Value) [hr : RdZ h A cs] : Rd1 (.zone b h :: L) (.rd A cs) := ⟨fun hw => ⟨rfl, hr.rd hw.zone, fun k hk => ⟨_, List.mem_cons_self .., zone_foot hr hk⟩⟩⟩
instance (priority := 1500) : Rd1 (.zone b h :: L) (.zone false h) := ⟨fun hw => ⟨rfl, hw.zone, fun k hk => ⟨_, List.mem_cons_self .., hk⟩⟩⟩
class TakeZ (L : List Fa) (h : outParam Zh) (M : outParam (List Fa)) : Prop where
 perm : L.Perm (.zone true h :: M)
instance (h : Zh) (L : List Fa) : TakeZ (.zone true h :: L) h L := ⟨List.Perm.refl _⟩
instance (priority := 100) (f : Fa) (h : Zh) (L M : List Fa) [k : TakeZ L h M] : TakeZ (f :: L) h (f :: M) := ⟨(k.perm.cons f).trans (.swap ..)⟩
end
section
variable {A : List Fa} {W w : World} {n : Nat} {D : List Deferred} {E : Env} {L M M' : List Fa} {K : Act → World → Prop}
theorem Sx.merge {f f1 f2 : Fa} (s : Sx A W w (f1 :: f2 :: L)) (h1 : f1.wr = true) (h2 : f2.wr = true) (hf : f.holds w) (hft : ∀ k, f.foot k → f1.foot k ∨ f2.foot k) : Sx A W w (f :: L) := by
 obtain ⟨p1, p2⟩ := List.pairwise_cons.1 s.sep
 obtain ⟨p3, p4⟩ := List.pairwise_cons.1 p2
 refine ⟨⟨fun g hg => ?_, List.pairwise_cons.2 ⟨fun g hg _ k a b => ?_, p4⟩⟩, s.os, s.tape, s.output, s.size, s.block, fun g hg hw k hk => ?_⟩
 ·rcases List.mem_cons.1 hg with rfl | hg
  ·exact hf
  ·exact s.ok g (List.mem_cons_of_mem _ (List.mem_cons_of_mem _ hg))
 ·rcases hft k a with a | a
  ·exact p1 g (List.mem_cons_of_mem _ hg) (by rw [h1]; rfl) k a b
  ·exact p3 g hg (by rw [h2]; rfl) k a b
 ·rcases List.mem_cons.1 hg with rfl | hg
  ·rcases hft k hk with a | a
   ·exact s.fresh f1 (List.mem_cons_self ..) h1 k a
   ·exact s.fresh f2 (List.mem_cons_of_mem _ (List.mem_cons_self ..)) h2 k a
  ·exact s.fresh g (List.mem_cons_of_mem _ (List.mem_cons_of_mem _ hg)) hw k hk
theorem Sx.apart {f1 f2 : Fa} (s : Sx A W w (f1 :: f2 :: L)) (h1 : f1.wr = true) {k : Nat} (a : f1.foot k) (b : f2.foot k) : False :=
 (List.pairwise_cons.1 s.sep).1 f2 (List.mem_cons_self ..) (by rw [h1]; rfl) k a b
def Zh.add (h : Zh) (g : Nat) (o : Obj) : Zh := fun k => if k = g then some o else h k
theorem Zh.add_le {h : Zh} {g : Nat} {o : Obj} (hn : h g = none) : LeZ h (h.add g o) := ⟨fun k o' hk => by
 unfold Zh.add
 by_cases e : k = g
 ·rw [e, hn] at hk; cases hk
 ·rw [if_neg e]; exact hk⟩
theorem Sx.freeze {f : Fa} {h : Zh} {g : Nat} {o : Obj} (s : Sx A W w (f :: .zone true h :: L)) (hf : f.wr = true) (hg : f.foot g) (ho : w.heap[g]? = some o) : LeZ h (h.add g o) ∧ Sx A W w (.zone true (h.add g o) :: L) := by
 have hn : h g = none := by
  cases hb : h g with
  | none => rfl
  | some x => exact (s.apart hf hg ⟨x, hb⟩).elim
 refine ⟨Zh.add_le hn, s.merge hf rfl (fun k o' hk => ?_) fun k ⟨o', hk⟩ => ?_⟩
 all_goals
  unfold Zh.add at hk
  by_cases e : k = g
 ·rw [if_pos e] at hk; injection hk with hk; rw [e, ← hk]; exact ho
 ·rw [if_neg e] at hk; exact s.ok (.zone true h) (List.mem_cons_of_mem _ (List.mem_cons_self ..)) k o' hk
 ·exact .inl (e ▸ hg)
 ·rw [if_neg e] at hk; exact .inr ⟨o', hk⟩
theorem Zh.add_cell {h : Zh} {g : Nat} {c : Array Value} {T : TypeId} {z : Nat × Nat} (j : Nat) : (h.add g (.cells c T z)).cell g j = c[j]? := by
 unfold Zh.cell Zh.add
 simp
theorem h_freeze (g : Nat) {cs : List Value} {T : TypeId} {h : Zh} [ht : TakeB g L cs T M] [hz : TakeZ M h M'] (k : ∀ h', LeZ h h' → RdZ h' (some ⟨g, 0, none⟩) cs → H A W n D E (.zone true h' :: M') K) : H A W n D E L K := fun a w ka s => by
 have s2 := (s.perm ht.perm).perm (hz.perm.cons _)
 obtain ⟨h1, h2⟩ := s2.freeze rfl rfl (s2.ok (.blk g cs T) (List.mem_cons_self ..))
 exact k _ h1 ⟨fun j v hv => ⟨g, 0, rfl, by rw [Zh.add_cell, Nat.zero_add]; simpa using hv⟩⟩ a w ka h2
theorem h_freezeO (v : Value) {N e size : Nat} {xs : List Value} {h : Zh} [ht : TakeO v L N e size xs M] [hz : TakeZ M h M'] (k : ∀ h' B c, v = .slice B N c → N ≤ c → xs.length = N * size → (B = none → N = 0 ∧ c = 0) → LeZ h h' → RdZ h' B xs → H A W n D E (.zone true h' :: M') K) : H A W n D E L K := fun a w ka s => by
 have s2 := (s.perm ht.perm).perm (hz.perm.cons _)
 have ho : w.ownsRow 0 e size v N xs := s2.ok (.own v N e size xs) (List.mem_cons_self ..)
 rcases ho.2 with ⟨h1, h2⟩ | ⟨g, cap, cur, h1, _, h3, h4, h5, h6, h7⟩
 ·have h0 : N = 0 := h2
  have hxs : xs = [] := List.eq_nil_of_length_eq_zero (by rw [ho.1, h0, Nat.zero_mul])
  refine k h none 0 (by rw [h1, h0]) (by omega) ho.1 (fun _ => ⟨h0, rfl⟩) (LeZ.refl h) (by rw [hxs]; exact RdZ.nil _ _) a w ka s2.tail
 ·subst h1
  obtain ⟨e1, e2⟩ := s2.freeze rfl (rfl : (Fa.own (.slice (some ⟨g, 0, none⟩) N cap) N e size xs).foot g) h3
  refine k _ (some ⟨g, 0, none⟩) cap rfl h4 ho.1 (fun e => by cases e) e1 ⟨fun j u hu => ⟨g, 0, rfl, ?_⟩⟩ a w ka e2
  rw [Zh.add_cell, Nat.zero_add, ← Array.getElem?_toList]
  rw [← h7, List.getElem?_take] at hu
  split at hu
  ·exact hu
  ·cases hu
end
end Go.Proofs.YtjhocljhhpkiiaaGreatDoor
/- N11 -/
namespace Go.Proofs.YtjhocljhhpkiiaaGreatDoor
open Go.RowKit
class TConc (P : Program) (T : TypeId) : Prop where
 und : ∃ d, P.underlying T = some d ∧ ∀ l, d ≠ .interface l
class MethT (P : Program) (T : TypeId) (name : String) (f : outParam FuncId) : Prop where
 ok : ∀ v args w, (callMethod (.iface T v) name args).run P w = .ok (.enter f (#[v] ++ args)) w
section
variable {P : Program} {n : Nat} {D : List Deferred} {E : Env} {L : List Fa} {T T' xT : TypeId} {x y : Operand}
theorem run_assert_yes {w : World} {u : Value} {ok : Bool} [hT : TConc P T] : (Instr.typeAssert (.iface T u) xT T ok).run P w = .ok (if ok then .tuple #[u, .bool true] else u) w := by
 obtain ⟨d, hu, hd⟩ := hT.und
 unfold Instr.typeAssert
 rw [Sem.run_bind, run_underlying hu]
 simp only [Result.andThen_ok]
 cases d <;> first | (exact absurd rfl (hd _)) | (cases ok <;> simp)
theorem run_assert_no {w : World} {u z : Value} (ho : ¬ T' = T) (hz : (zeroValue T).run P w = .ok z w) [hT : TConc P T] : (Instr.typeAssert (.iface T' u) xT T true).run P w = .ok (.tuple #[z, .bool false]) w := by
 obtain ⟨d, hu, hd⟩ := hT.und
 unfold Instr.typeAssert
 rw [Sem.run_bind, run_underlying hu]
 simp only [Result.andThen_ok]
 cases d <;> first | (exact absurd rfl (hd _)) | (simp [ho, hz])
class TZero (P : Program) (T : TypeId) (z : outParam Value) : Prop where
 run : ∀ w, (zeroValue T).run P w = .ok z w
theorem r_as2 {u : Value} [hT : TConc P T] (hx : ev E x = some (.iface T u)) : Runs0 P n D E L (.typeAssert x xT T true) (.tuple #[u, .bool true]) := fun a w ka s o ho => by
 unfold execOp
 simp only [ho, ka.ev hx]
 rw [Sem.run_bind, run_assert_yes]
 rfl
theorem r_as2n {u z : Value} [hT : TConc P T] [hz : TZero P T z] (hx : ev E x = some (.iface T' u)) (hne : ¬ T' = T := by decide) : Runs0 P n D E L (.typeAssert x xT T true) (.tuple #[z, .bool false]) := fun a w ka s o ho => by
 unfold execOp
 simp only [ho, ka.ev hx]
 rw [Sem.run_bind, run_assert_no hne (hz.run w)]
 rfl
theorem r_as1 {u : Value} [hT : TConc P T] (hx : ev E x = some (.iface T u)) : Runs0 P n D E L (.typeAssert x xT T false) u := fun a w ka s o ho => by
 unfold execOp
 simp only [ho, ka.ev hx]
 rw [Sem.run_bind, run_assert_yes]
 rfl
theorem r_mkI {v : Value} [hT : TConc P T] (hx : ev E x = some v) : Runs0 P n D E L (.makeInterface T x) (.iface T v) := by
 obtain ⟨d, hu, hd⟩ := hT.und
 refine r_iface hu ?_ hx
 cases d <;> first | rfl | exact absurd rfl (hd _)
theorem run_equalIn_slN (w : World) (d : Nat) {e : TypeId} (B : Option Addr) (N c : Nat) (h : P.underlying T = some (.slice e)) : (Op.equalIn (d + 1) T (.slice B N c) (.slice none 0 0)).run P w = .ok B.isNone w := by
 cases B <;> simp [Op.equalIn, run_underlying h]
theorem run_eq_slN (w : World) {e : TypeId} (B : Option Addr) (N c : Nat) (h : P.underlying T = some (.slice e)) : (binOp .eql T (.slice B N c) (.slice none 0 0)).run P w = .ok (.bool B.isNone) w := by
 simp only [binOp]
 simp [Op.equal, Op.maxDepth, run_equalIn_slN w 9999 B N c h]
theorem r_slnil {e size bytes : Nat} {z : Value} [E' : TS P T e size bytes z] {B : Option Addr} {N c : Nat} (hx : ev E x = some (.slice B N c)) (hy : ev E y = some (.slice none 0 0)) : Runs0 P n D E L (.binOp .eql T x y T') (.bool B.isNone) := fun a w ka s o ho =>
 run_bin ho (ka.ev hx) (ka.ev hy) rfl (run_eq_slN w B N c E'.el.ht)
class TFT (P : Program) (T : TypeId) (i : Nat) (off ft : outParam Nat) : Prop where
 fld : ∃ (fs : Array Field) (f : Field), P.underlying T = some (.struct fs) ∧ fs[i]? = some f ∧ f.offset = off ∧ f.type = ft
theorem extract_row {cs out : List Value} {off m : Nat} (h : RowAt cs off m out) : cs.toArray.extract off (off + m) = out.toArray := by
 apply Array.ext'
 simp only [List.extract_toArray, List.extract_eq_drop_take']
 apply List.ext_getElem?
 intro j
 rw [List.getElem?_drop, List.getElem?_take]
 by_cases hj : j < m
 ·rw [if_pos (by omega)]
  have hl := h.len
  rw [List.getElem?_eq_getElem (l := out) (by omega)]
  exact h.at_ j _ (List.getElem?_eq_getElem (by omega))
 ·rw [if_neg (by omega), List.getElem?_eq_none (by rw [h.len]; omega)]
theorem r_fldr {i off ft m : Nat} {cs out : List Value} [h : TFT P T i off ft] [hr : TRow P ft m] (hx : ev E x = some (.agg cs.toArray)) [hp : RowAt cs off m out] : Runs0 P n D E L (.field T x i) (.agg out.toArray) := fun a w ka s o ho => by
 obtain ⟨fs, f, hu, hf, rfl, rfl⟩ := h.fld
 obtain ⟨d, hu', hd⟩ := hr.und
 have hpr := part_row (w := w) hu' hd hr.size cs.toArray f.offset
 rw [extract_row hp] at hpr
 unfold execOp
 simp only [ho, ka.ev hx, Instr.field, Sem.run_bind, run_underlying hu, Result.andThen_ok, hf, asAgg, Sem.run_pure, hpr]
theorem r_fldc {i off ft : Nat} {cs : List Value} {v : Value} [h : TFT P T i off ft] [hr : TOne P ft] (hx : ev E x = some (.agg cs.toArray)) [hp : CellAt cs off v] : Runs0 P n D E L (.field T x i) v := fun a w ka s o ho => by
 obtain ⟨fs, f, hu, hf, rfl, rfl⟩ := h.fld
 obtain ⟨d, hu', hd⟩ := hr.und
 have hpr : (part f.type cs.toArray f.offset).run P w = .ok v w := by
  have hagg : (isAgg f.type).run P w = .ok false w := by
   unfold isAgg
   rw [Sem.run_bind, run_underlying hu' w]
   cases d <;> simp_all
  unfold part
  rw [Sem.run_bind, hagg]
  have := hp.at_
  simp [this]
 unfold execOp
 simp only [ho, ka.ev hx, Instr.field, Sem.run_bind, run_underlying hu, Result.andThen_ok, hf, asAgg, Sem.run_pure, hpr]
end
section
variable {A : List Fa} {W : World} {n : Nat} {D : List Deferred} {E : Env} {L : List Fa} {P : Program} {ro : Option Nat} {Q : Exit → Act → World → Prop} {ops : Array Oper} {rest : List Oper} {d : Nat} {ty : TypeId} {pos : String} {af : Array Edge} {g : Option (Nat × Bool)}
theorem x_callM {a : Act} {w : World} {o : Oper} {x : Operand} {l : List Operand} {ts : Array TypeId} {f : FuncId} {T : TypeId} {u : Value} {name : String} {argv : List Value} [hm : MethT P T name f] (ka : Kn n D E a) (ho : o.op = .call ⟨.invoke x name, l.toArray, ts⟩) (hx : ev E x = some (.iface T u)) (ha : evs E l = some argv) :
  (execOp a.eval o).run P w = .ok (.enter f (u :: argv).toArray) w := by
 unfold execOp
 simp only [ho, resolve, ka.ev hx, Sem.run_bind, Sem.run_pure, Result.andThen_ok, invoke]
 rw [List.map_toArray, ka.evs ha]
 have e0 : ((#[Value.iface T u] : Array Value) ++ argv.toArray)[0]? = some (.iface T u) := by simp
 rw [e0]
 simp only []
 have e : ((#[Value.iface T u] : Array Value) ++ argv.toArray).extract 1 ((#[Value.iface T u] : Array Value) ++ argv.toArray).size = argv.toArray := by simp
 rw [e]
 have := hm.ok u argv.toArray w
 rw [show ((u :: argv).toArray : Array Value) = #[u] ++ argv.toArray by simp]
 exact this
theorem h_callM {x : Operand} {l : List Operand} {ts : Array TypeId} {f : FuncId} {T : TypeId} {u : Value} {name : String} {argv args : List Value} [MethT P T name f] {τ : Type} {v : τ → Value} {L' : τ → List Fa} (hc : Comes P A W L f args.toArray v L') (hx : ev E x = some (.iface T u)) (ha : evs E l = some argv) (he : u :: argv = args)
  (k : ∀ x, H A W n D ((d, v x) :: E) (L' x) (wpListIn (FR ro) 0 P ops Q rest)) (hd : Nat.blt d n = true := by exact rfl) (hg : wn ops E g = some true := by exact rfl) : H A W n D E L (wpListIn (FR ro) 0 P ops Q (⟨some d, .call ⟨.invoke x name, l.toArray, ts⟩, ty, pos, af, g⟩ :: rest)) := fun a w ka s => by
 unfold wpListIn
 rw [wn_run ka hg, if_pos rfl]
 refine wpIn_ent (x_callM ka rfl hx ha) (he ▸ hc w s) ?_
 rintro e w' ⟨y, rfl, hy⟩
 exact ⟨_, rfl, k y _ _ (ka.put hd _) hy⟩
theorem results3 {fn : Func} {a : Act} {w : World} {r s q : ResultVar} {v u x : Value} (ka : Kn n D E a) (hw : Fx w L) (hf : fn.results = #[r, s, q]) (h : ResV P E L r v) (h1 : ResV P E L s u) (h2 : ResV P E L q x) : (results fn a.tmps).run P w = .ok (.tuple #[v, u, x]) w := by
 cases r with
 | tmp t0 =>
  have e0 := resV_tmp ka h; rw [Array.getD_eq_getD_getElem?] at e0
  cases s with
  | tmp t1 =>
   have e1 := resV_tmp ka h1; rw [Array.getD_eq_getD_getElem?] at e1
   cases q with
   | tmp t2 =>
    have e2 := resV_tmp ka h2; rw [Array.getD_eq_getD_getElem?] at e2
    simp [results, hf, e0, e1, e2, asAddr]
   | cell p2 T2 =>
    obtain ⟨b2, e2, f2⟩ := resV_cell ka hw h2; rw [Array.getD_eq_getD_getElem?] at e2
    simp [results, hf, e0, e1, e2, f2, asAddr]
  | cell p1 T1 =>
   obtain ⟨b1, e1, f1⟩ := resV_cell ka hw h1; rw [Array.getD_eq_getD_getElem?] at e1
   cases q with
   | tmp t2 =>
    have e2 := resV_tmp ka h2; rw [Array.getD_eq_getD_getElem?] at e2
    simp [results, hf, e0, e1, f1, e2, asAddr]
   | cell p2 T2 =>
    obtain ⟨b2, e2, f2⟩ := resV_cell ka hw h2; rw [Array.getD_eq_getD_getElem?] at e2
    simp [results, hf, e0, e1, f1, e2, f2, asAddr]
 | cell p0 T0 =>
  obtain ⟨b0, e0, f0⟩ := resV_cell ka hw h; rw [Array.getD_eq_getD_getElem?] at e0
  cases s with
  | tmp t1 =>
   have e1 := resV_tmp ka h1; rw [Array.getD_eq_getD_getElem?] at e1
   cases q with
   | tmp t2 =>
    have e2 := resV_tmp ka h2; rw [Array.getD_eq_getD_getElem?] at e2
    simp [results, hf, e0, f0, e1, e2, asAddr]
   | cell p2 T2 =>
    obtain ⟨b2, e2, f2⟩ := resV_cell ka hw h2; rw [Array.getD_eq_getD_getElem?] at e2
    simp [results, hf, e0, f0, e1, e2, f2, asAddr]
  | cell p1 T1 =>
   obtain ⟨b1, e1, f1⟩ := resV_cell ka hw h1; rw [Array.getD_eq_getD_getElem?] at e1
   cases q with
   | tmp t2 =>
    have e2 := resV_tmp ka h2; rw [Array.getD_eq_getD_getElem?] at e2
    simp [results, hf, e0, f0, e1, f1, e2, asAddr]
   | cell p2 T2 =>
    obtain ⟨b2, e2, f2⟩ := resV_cell ka hw h2; rw [Array.getD_eq_getD_getElem?] at e2
    simp [results, hf, e0, f0, e1, f1, e2, f2, asAddr]
theorem h_ret3 {fn : Func} {R : Ending → World → Prop} {F : Fence} {m : Nat} {r s q : ResultVar} {v u x : Value} (hf : fn.results = #[r, s, q]) (h : ResV P E L r v) (h1 : ResV P E L s u) (h2 : ResV P E L q x) (hR : ∀ w, Sx A W w L → R (.returned (.tuple #[v, u, x])) w) : H A W n [] E L (bodyPostM F m P fn R .ret) := fun a w ka s' => by
 show LeavesInM F m P fn a.tmps R a.defers .returning w
 rw [ka.defers]
 exact ⟨_, results3 ka s'.toFx hf h h1 h2, hR w s'⟩
end
end Go.Proofs.YtjhocljhhpkiiaaGreatDoor
/- TN -/
namespace Go.Proofs.YtjhocljhhpkiiaaGreatDoor
open Go.RowKit Go.Shelf
instance : TOne Tryz.prog 3 := ⟨⟨_, Tryz.underlying3, rfl⟩, by kernel_rfl⟩
instance : TZ Tryz.prog 3 [.int .i64 0] := ⟨⟨.int .i64 0, by kernel_rfl, rfl⟩⟩
instance : TOne Tryz.prog 4 := ⟨⟨_, Tryz.underlying4, rfl⟩, by kernel_rfl⟩
instance : TZ Tryz.prog 4 [.bool false] := ⟨⟨.bool false, by kernel_rfl, rfl⟩⟩
instance : TOne Tryz.prog 5 := ⟨⟨_, Tryz.underlying5, rfl⟩, by kernel_rfl⟩
instance : TS Tryz.prog 22 124 33 56 (.agg zEntry.cells.toArray) := ⟨⟨Tryz.underlying22, by kernel_rfl, by simp [Value.cells, Entry.cells_length], by decide, by decide⟩⟩
instance : TOne Tryz.prog 23 := ⟨⟨_, Tryz.underlying23, rfl⟩, by kernel_rfl⟩
instance : TZ Tryz.prog 23 [.slice none 0 0] := ⟨⟨.slice none 0 0, by kernel_rfl, rfl⟩⟩
instance : TS Tryz.prog 23 5 1 1 (.int .u8 0) := ⟨⟨Tryz.underlying23, by kernel_rfl, rfl, by decide, by decide⟩⟩
instance : TRow Tryz.prog 25 3 := ⟨⟨_, Tryz.underlying25, rfl⟩, by kernel_rfl⟩
instance : TFA Tryz.prog 25 0 0 := ⟨⟨_, _, 0, Tryz.underlying25, rfl, rfl, by kernel_rfl⟩⟩
instance : TFA Tryz.prog 25 1 1 := ⟨⟨_, _, 0, Tryz.underlying25, rfl, rfl, by kernel_rfl⟩⟩
instance : TFA Tryz.prog 25 2 2 := ⟨⟨_, _, 0, Tryz.underlying25, rfl, rfl, by kernel_rfl⟩⟩
instance : TZ Tryz.prog 25 zClaim.cells := ⟨⟨.agg zClaim.cells.toArray, by kernel_rfl, rfl⟩⟩
def pl25 : Nat → Option (Nat × Nat) := fun i => ([(0, 1), (1, 1), (2, 1)] : List (Nat × Nat)).toArray[i]?
instance : Place pl25 0 0 1 := ⟨rfl⟩
instance : TB Tryz.prog 25 zClaim.cells pl25 := ⟨fun w ps cells h => run_build_struct (fl := _) Tryz.underlying25 (z := zClaim.cells.toArray) (n := 3) (by kernel_rfl) (pl := [(0, 1), (1, 1), (2, 1)]) (by kernel_rfl) h⟩
instance : TOne Tryz.prog 26 := ⟨⟨_, Tryz.underlying26, rfl⟩, by kernel_rfl⟩
instance : TZ Tryz.prog 26 [.pointer none] := ⟨⟨.pointer none, by kernel_rfl, rfl⟩⟩
instance : TRow Tryz.prog 34 32 := ⟨⟨_, Tryz.underlying34, rfl⟩, by kernel_rfl⟩
instance : TArr Tryz.prog 34 32 5 1 := ⟨Tryz.underlying34, by kernel_rfl⟩
instance : TRow Tryz.prog 35 32 := ⟨⟨_, Tryz.underlying35, rfl⟩, by kernel_rfl⟩
instance : TArr Tryz.prog 35 32 5 1 := ⟨Tryz.underlying35, by kernel_rfl⟩
instance : TZ Tryz.prog 35 zB32.cells := ⟨⟨.agg zB32.cells.toArray, by kernel_rfl, rfl⟩⟩
instance : TB Tryz.prog 35 zB32.cells (plArr 1) := ⟨fun w ps cells h => run_build_array Tryz.underlying35 (z := zB32.cells.toArray) (n := 32) (by kernel_rfl) (s := 1) (by kernel_rfl) h⟩
instance (x y : B32) : TEq Tryz.prog 35 x.cells y.cells (decide (x = y)) := ⟨fun w d => eq_B32 (d + 4) Tryz.underlying35 Tryz.underlying5 (by kernel_rfl) x y, Tryz.eqGuardType35⟩
instance : TOne Tryz.prog 36 := ⟨⟨_, Tryz.underlying36, rfl⟩, by kernel_rfl⟩
instance : TOne Tryz.prog 38 := ⟨⟨_, Tryz.underlying38, rfl⟩, by kernel_rfl⟩
instance : TZ Tryz.prog 38 [.slice none 0 0] := ⟨⟨.slice none 0 0, by kernel_rfl, rfl⟩⟩
instance : TS Tryz.prog 38 23 1 24 (.slice none 0 0) := ⟨⟨Tryz.underlying38, by kernel_rfl, rfl, by decide, by decide⟩⟩
instance : TRow Tryz.prog 42 32 := ⟨⟨_, Tryz.underlying42, rfl⟩, by kernel_rfl⟩
instance : TArr Tryz.prog 42 32 5 1 := ⟨Tryz.underlying42, by kernel_rfl⟩
instance : TZ Tryz.prog 42 zB32.cells := ⟨⟨.agg zB32.cells.toArray, by kernel_rfl, rfl⟩⟩
instance : TB Tryz.prog 42 zB32.cells (plArr 1) := ⟨fun w ps cells h => run_build_array Tryz.underlying42 (z := zB32.cells.toArray) (n := 32) (by kernel_rfl) (s := 1) (by kernel_rfl) h⟩
instance (x y : B32) : TEq Tryz.prog 42 x.cells y.cells (decide (x = y)) := ⟨fun w d => eq_B32 (d + 4) Tryz.underlying42 Tryz.underlying5 (by kernel_rfl) x y, Tryz.eqGuardType42⟩
instance : TRow Tryz.prog 51 64 := ⟨⟨_, Tryz.underlying51, rfl⟩, by kernel_rfl⟩
instance : TFA Tryz.prog 51 0 0 := ⟨⟨_, _, 31, Tryz.underlying51, rfl, rfl, by kernel_rfl⟩⟩
instance : TFA Tryz.prog 51 1 32 := ⟨⟨_, _, 31, Tryz.underlying51, rfl, rfl, by kernel_rfl⟩⟩
instance : TZ Tryz.prog 51 zLeaf.cells := ⟨⟨.agg zLeaf.cells.toArray, by kernel_rfl, rfl⟩⟩
def pl51 : Nat → Option (Nat × Nat) := fun i => ([(0, 32), (32, 32)] : List (Nat × Nat)).toArray[i]?
instance : Place pl51 0 0 32 := ⟨rfl⟩
instance : Place pl51 1 32 32 := ⟨rfl⟩
instance : TB Tryz.prog 51 zLeaf.cells pl51 := ⟨fun w ps cells h => run_build_struct (fl := _) Tryz.underlying51 (z := zLeaf.cells.toArray) (n := 64) (by kernel_rfl) (pl := [(0, 32), (32, 32)]) (by kernel_rfl) h⟩
instance : TOne Tryz.prog 52 := ⟨⟨_, Tryz.underlying52, rfl⟩, by kernel_rfl⟩
instance : TZ Tryz.prog 52 [.slice none 0 0] := ⟨⟨.slice none 0 0, by kernel_rfl, rfl⟩⟩
instance : TS Tryz.prog 52 42 32 32 (.agg zB32.cells.toArray) := ⟨⟨Tryz.underlying52, by kernel_rfl, by simp [Value.cells, B32.cells_length], by decide, by decide⟩⟩
instance : TRow Tryz.prog 54 99 := ⟨⟨_, Tryz.underlying54, rfl⟩, by kernel_rfl⟩
instance : TFA Tryz.prog 54 0 0 := ⟨⟨_, _, 0, Tryz.underlying54, rfl, rfl, by kernel_rfl⟩⟩
instance : TFA Tryz.prog 54 1 1 := ⟨⟨_, _, 0, Tryz.underlying54, rfl, rfl, by kernel_rfl⟩⟩
instance : TFA Tryz.prog 54 2 2 := ⟨⟨_, _, 63, Tryz.underlying54, rfl, rfl, by kernel_rfl⟩⟩
instance : TFA Tryz.prog 54 3 66 := ⟨⟨_, _, 31, Tryz.underlying54, rfl, rfl, by kernel_rfl⟩⟩
instance : TFA Tryz.prog 54 4 98 := ⟨⟨_, _, 0, Tryz.underlying54, rfl, rfl, by kernel_rfl⟩⟩
instance : TZ Tryz.prog 54 zProof.cells := ⟨⟨.agg zProof.cells.toArray, by kernel_rfl, rfl⟩⟩
def pl54 : Nat → Option (Nat × Nat) := fun i => ([(0, 1), (1, 1), (2, 64), (66, 32), (98, 1)] : List (Nat × Nat)).toArray[i]?
instance : Place pl54 0 0 1 := ⟨rfl⟩
instance : Place pl54 1 1 1 := ⟨rfl⟩
instance : Place pl54 2 2 64 := ⟨rfl⟩
instance : TB Tryz.prog 54 zProof.cells pl54 := ⟨fun w ps cells h => run_build_struct (fl := _) Tryz.underlying54 (z := zProof.cells.toArray) (n := 99) (by kernel_rfl) (pl := [(0, 1), (1, 1), (2, 64), (66, 32), (98, 1)]) (by kernel_rfl) h⟩
instance : TFA Tryz.prog 56 0 0 := ⟨⟨_, _, 2, Tryz.underlying56, rfl, rfl, by kernel_rfl⟩⟩
instance : TFA Tryz.prog 56 1 3 := ⟨⟨_, _, 98, Tryz.underlying56, rfl, rfl, by kernel_rfl⟩⟩
instance : TOne Tryz.prog 67 := ⟨⟨_, Tryz.underlying67, rfl⟩, by kernel_rfl⟩
instance : TS Tryz.prog 67 25 3 56 (.agg zClaim.cells.toArray) := ⟨⟨Tryz.underlying67, by kernel_rfl, by simp [Value.cells, Claim.cells_length], by decide, by decide⟩⟩
instance : TOne Tryz.prog 68 := ⟨⟨_, Tryz.underlying68, rfl⟩, by kernel_rfl⟩
instance : TS Tryz.prog 68 126 97 104 (.agg zItem.cells.toArray) := ⟨⟨Tryz.underlying68, by kernel_rfl, by simp [Value.cells, Item.cells_length], by decide, by decide⟩⟩
instance : TS Tryz.prog 76 3 1 8 (.int .i64 0) := ⟨⟨Tryz.underlying76, by kernel_rfl, rfl, by decide, by decide⟩⟩
instance : TFA Tryz.prog 81 0 0 := ⟨⟨_, _, 2, Tryz.underlying81, rfl, rfl, by kernel_rfl⟩⟩
instance : TFA Tryz.prog 81 1 3 := ⟨⟨_, _, 98, Tryz.underlying81, rfl, rfl, by kernel_rfl⟩⟩
instance : TFA Tryz.prog 81 2 102 := ⟨⟨_, _, 0, Tryz.underlying81, rfl, rfl, by kernel_rfl⟩⟩
instance : TOne Tryz.prog 94 := ⟨⟨_, Tryz.underlying94, rfl⟩, by kernel_rfl⟩
instance : TOne Tryz.prog 104 := ⟨⟨_, Tryz.underlying104, rfl⟩, by kernel_rfl⟩
instance : TZ Tryz.prog 104 [.slice none 0 0] := ⟨⟨.slice none 0 0, by kernel_rfl, rfl⟩⟩
instance : TS Tryz.prog 104 35 32 32 (.agg zB32.cells.toArray) := ⟨⟨Tryz.underlying104, by kernel_rfl, by simp [Value.cells, B32.cells_length], by decide, by decide⟩⟩
instance : TRow Tryz.prog 124 33 := ⟨⟨_, Tryz.underlying124, rfl⟩, by kernel_rfl⟩
instance : TFA Tryz.prog 124 0 0 := ⟨⟨_, _, 31, Tryz.underlying124, rfl, rfl, by kernel_rfl⟩⟩
instance : TFA Tryz.prog 124 1 32 := ⟨⟨_, _, 0, Tryz.underlying124, rfl, rfl, by kernel_rfl⟩⟩
instance : TZ Tryz.prog 124 zEntry.cells := ⟨⟨.agg zEntry.cells.toArray, by kernel_rfl, rfl⟩⟩
def pl124 : Nat → Option (Nat × Nat) := fun i => ([(0, 32), (32, 1)] : List (Nat × Nat)).toArray[i]?
instance : Place pl124 0 0 32 := ⟨rfl⟩
instance : Place pl124 1 32 1 := ⟨rfl⟩
instance : TB Tryz.prog 124 zEntry.cells pl124 := ⟨fun w ps cells h => run_build_struct (fl := _) Tryz.underlying124 (z := zEntry.cells.toArray) (n := 33) (by kernel_rfl) (pl := [(0, 32), (32, 1)]) (by kernel_rfl) h⟩
instance : TRow Tryz.prog 126 97 := ⟨⟨_, Tryz.underlying126, rfl⟩, by kernel_rfl⟩
instance : TFA Tryz.prog 126 0 0 := ⟨⟨_, _, 0, Tryz.underlying126, rfl, rfl, by kernel_rfl⟩⟩
instance : TFA Tryz.prog 126 1 1 := ⟨⟨_, _, 31, Tryz.underlying126, rfl, rfl, by kernel_rfl⟩⟩
instance : TFA Tryz.prog 126 2 33 := ⟨⟨_, _, 63, Tryz.underlying126, rfl, rfl, by kernel_rfl⟩⟩
instance : TZ Tryz.prog 126 zItem.cells := ⟨⟨.agg zItem.cells.toArray, by kernel_rfl, rfl⟩⟩
def pl126 : Nat → Option (Nat × Nat) := fun i => ([(0, 1), (1, 32), (33, 64)] : List (Nat × Nat)).toArray[i]?
instance : TB Tryz.prog 126 zItem.cells pl126 := ⟨fun w ps cells h => run_build_struct (fl := _) Tryz.underlying126 (z := zItem.cells.toArray) (n := 97) (by kernel_rfl) (pl := [(0, 1), (1, 32), (33, 64)]) (by kernel_rfl) h⟩
instance : TOne Tryz.prog 133 := ⟨⟨_, Tryz.underlying133, rfl⟩, by kernel_rfl⟩
instance : TZ Tryz.prog 133 [.slice none 0 0] := ⟨⟨.slice none 0 0, by kernel_rfl, rfl⟩⟩
instance : TS Tryz.prog 133 26 1 8 (.pointer none) := ⟨⟨Tryz.underlying133, by kernel_rfl, rfl, by decide, by decide⟩⟩
instance : TOne Tryz.prog 140 := ⟨⟨_, Tryz.underlying140, rfl⟩, by kernel_rfl⟩
instance : TFA Tryz.prog 142 0 0 := ⟨⟨_, _, 0, Tryz.underlying142, rfl, rfl, by kernel_rfl⟩⟩
instance : TFA Tryz.prog 142 1 1 := ⟨⟨_, _, 0, Tryz.underlying142, rfl, rfl, by kernel_rfl⟩⟩
def pl142 : Nat → Option (Nat × Nat) := fun i => ([(0, 1), (1, 1)] : List (Nat × Nat)).toArray[i]?
instance : Place pl142 0 0 1 := ⟨rfl⟩
instance : Place pl142 1 1 1 := ⟨rfl⟩
instance : TB Tryz.prog 142 ([.pointer none, .int .i64 0]) pl142 := ⟨fun w ps cells h => run_build_struct (fl := _) Tryz.underlying142 (z := ([.pointer none, .int .i64 0] : List Value).toArray) (n := 2) (by kernel_rfl) (pl := [(0, 1), (1, 1)]) (by kernel_rfl) h⟩
instance : TFA Tryz.prog 144 0 0 := ⟨⟨_, _, 0, Tryz.underlying144, rfl, rfl, by kernel_rfl⟩⟩
def pl144 : Nat → Option (Nat × Nat) := fun i => ([(0, 1)] : List (Nat × Nat)).toArray[i]?
instance : TB Tryz.prog 144 ([.int .i64 0]) pl144 := ⟨fun w ps cells h => run_build_struct (fl := _) Tryz.underlying144 (z := ([.int .i64 0] : List Value).toArray) (n := 1) (by kernel_rfl) (pl := [(0, 1)]) (by kernel_rfl) h⟩
instance : TOne Tryz.prog 163 := ⟨⟨_, Tryz.underlying163, rfl⟩, by kernel_rfl⟩
instance : TFA Tryz.prog 165 0 0 := ⟨⟨_, _, 0, Tryz.underlying165, rfl, rfl, by kernel_rfl⟩⟩
instance : TFA Tryz.prog 165 1 1 := ⟨⟨_, _, 31, Tryz.underlying165, rfl, rfl, by kernel_rfl⟩⟩
def pl165 : Nat → Option (Nat × Nat) := fun i => ([(0, 1), (1, 32)] : List (Nat × Nat)).toArray[i]?
instance : Place pl165 0 0 1 := ⟨rfl⟩
instance : Place pl165 1 1 32 := ⟨rfl⟩
instance : TB Tryz.prog 165 zNd.cells pl165 := ⟨fun w ps cells h => run_build_struct (fl := _) Tryz.underlying165 (z := zNd.cells.toArray) (n := 33) (by kernel_rfl) (pl := [(0, 1), (1, 32)]) (by kernel_rfl) h⟩
instance : TFA Tryz.prog 169 0 0 := ⟨⟨_, _, 0, Tryz.underlying169, rfl, rfl, by kernel_rfl⟩⟩
instance : TFA Tryz.prog 169 1 1 := ⟨⟨_, _, 0, Tryz.underlying169, rfl, rfl, by kernel_rfl⟩⟩
instance : TFA Tryz.prog 169 2 2 := ⟨⟨_, _, 2, Tryz.underlying169, rfl, rfl, by kernel_rfl⟩⟩
instance : TFA Tryz.prog 169 4 6 := ⟨⟨_, _, 98, Tryz.underlying169, rfl, rfl, by kernel_rfl⟩⟩
def pl169 : Nat → Option (Nat × Nat) := fun i => ([(0, 1), (1, 1), (2, 3), (5, 1), (6, 99)] : List (Nat × Nat)).toArray[i]?
instance : Place pl169 0 0 1 := ⟨rfl⟩
instance : Place pl169 1 1 1 := ⟨rfl⟩
instance : Place pl169 2 2 3 := ⟨rfl⟩
instance : Place pl169 4 6 99 := ⟨rfl⟩
instance : TB Tryz.prog 169 zChk.cells pl169 := ⟨fun w ps cells h => run_build_struct (fl := _) Tryz.underlying169 (z := zChk.cells.toArray) (n := 105) (by kernel_rfl) (pl := [(0, 1), (1, 1), (2, 3), (5, 1), (6, 99)]) (by kernel_rfl) h⟩
instance : TS Tryz.prog 191 195 1 8 (.agg #[.nilFunc]) := ⟨⟨Tryz.underlying191, by kernel_rfl, rfl, by decide, by decide⟩⟩
instance : TOne Tryz.prog 193 := ⟨⟨_, Tryz.underlying193, rfl⟩, by kernel_rfl⟩
instance : TRow Tryz.prog 195 1 := ⟨⟨_, Tryz.underlying195, rfl⟩, by kernel_rfl⟩
instance : TFA Tryz.prog 195 0 0 := ⟨⟨_, _, 0, Tryz.underlying195, rfl, rfl, by kernel_rfl⟩⟩
instance : TZ Tryz.prog 195 ([.nilFunc]) := ⟨⟨.agg #[.nilFunc], by kernel_rfl, rfl⟩⟩
def pl195 : Nat → Option (Nat × Nat) := fun i => ([(0, 1)] : List (Nat × Nat)).toArray[i]?
instance : Place pl195 0 0 1 := ⟨rfl⟩
instance : TB Tryz.prog 195 ([.nilFunc]) pl195 := ⟨fun w ps cells h => run_build_struct (fl := _) Tryz.underlying195 (z := ([.nilFunc] : List Value).toArray) (n := 1) (by kernel_rfl) (pl := [(0, 1)]) (by kernel_rfl) h⟩
instance : TOne Tryz.prog 204 := ⟨⟨_, Tryz.underlying204, rfl⟩, by kernel_rfl⟩
instance : TRow Tryz.prog 205 8 := ⟨⟨_, Tryz.underlying205, rfl⟩, by kernel_rfl⟩
instance : TArr Tryz.prog 205 8 204 1 := ⟨Tryz.underlying205, by kernel_rfl⟩
instance : TZ Tryz.prog 205 ([.int .u32 0, .int .u32 0, .int .u32 0, .int .u32 0, .int .u32 0, .int .u32 0, .int .u32 0, .int .u32 0]) := ⟨⟨.agg #[.int .u32 0, .int .u32 0, .int .u32 0, .int .u32 0, .int .u32 0, .int .u32 0, .int .u32 0, .int .u32 0], by kernel_rfl, rfl⟩⟩
instance : TB Tryz.prog 205 ([.int .u32 0, .int .u32 0, .int .u32 0, .int .u32 0, .int .u32 0, .int .u32 0, .int .u32 0, .int .u32 0]) (plArr 1) := ⟨fun w ps cells h => run_build_array Tryz.underlying205 (z := ([.int .u32 0, .int .u32 0, .int .u32 0, .int .u32 0, .int .u32 0, .int .u32 0, .int .u32 0, .int .u32 0] : List Value).toArray) (n := 8) (by kernel_rfl) (s := 1) (by kernel_rfl) h⟩
instance : TRow Tryz.prog 206 8 := ⟨⟨_, Tryz.underlying206, rfl⟩, by kernel_rfl⟩
instance : TArr Tryz.prog 206 8 204 1 := ⟨Tryz.underlying206, by kernel_rfl⟩
instance : TZ Tryz.prog 206 ([.int .u32 0, .int .u32 0, .int .u32 0, .int .u32 0, .int .u32 0, .int .u32 0, .int .u32 0, .int .u32 0]) := ⟨⟨.agg #[.int .u32 0, .int .u32 0, .int .u32 0, .int .u32 0, .int .u32 0, .int .u32 0, .int .u32 0, .int .u32 0], by kernel_rfl, rfl⟩⟩
instance : TB Tryz.prog 206 ([.int .u32 0, .int .u32 0, .int .u32 0, .int .u32 0, .int .u32 0, .int .u32 0, .int .u32 0, .int .u32 0]) (plArr 1) := ⟨fun w ps cells h => run_build_array Tryz.underlying206 (z := ([.int .u32 0, .int .u32 0, .int .u32 0, .int .u32 0, .int .u32 0, .int .u32 0, .int .u32 0, .int .u32 0] : List Value).toArray) (n := 8) (by kernel_rfl) (s := 1) (by kernel_rfl) h⟩
instance : TOne Tryz.prog 208 := ⟨⟨_, Tryz.underlying208, rfl⟩, by kernel_rfl⟩
instance : TZ Tryz.prog 208 [.nilFunc] := ⟨⟨.nilFunc, by kernel_rfl, rfl⟩⟩
instance : TS Tryz.prog 213 204 1 4 (.int .u32 0) := ⟨⟨Tryz.underlying213, by kernel_rfl, rfl, by decide, by decide⟩⟩
instance : TOne Tryz.prog 228 := ⟨⟨_, Tryz.underlying228, rfl⟩, by kernel_rfl⟩
instance : TRow Tryz.prog 232 2 := ⟨⟨_, Tryz.underlying232, rfl⟩, by kernel_rfl⟩
instance : TArr Tryz.prog 232 2 228 1 := ⟨Tryz.underlying232, by kernel_rfl⟩
instance : TZ Tryz.prog 232 ([.nilIface, .nilIface]) := ⟨⟨.agg #[.nilIface, .nilIface], by kernel_rfl, rfl⟩⟩
instance : TRow Tryz.prog 235 97 := ⟨⟨_, Tryz.underlying235, rfl⟩, by kernel_rfl⟩
instance : TFA Tryz.prog 235 0 0 := ⟨⟨_, _, 96, Tryz.underlying235, rfl, rfl, by kernel_rfl⟩⟩
instance : TZ Tryz.prog 235 zItem.cells := ⟨⟨.agg zItem.cells.toArray, by kernel_rfl, rfl⟩⟩
def pl235 : Nat → Option (Nat × Nat) := fun i => ([(0, 97)] : List (Nat × Nat)).toArray[i]?
instance : Place pl235 0 0 97 := ⟨rfl⟩
instance : TB Tryz.prog 235 zItem.cells pl235 := ⟨fun w ps cells h => run_build_struct (fl := _) Tryz.underlying235 (z := zItem.cells.toArray) (n := 97) (by kernel_rfl) (pl := [(0, 97)]) (by kernel_rfl) h⟩
instance : TOne Tryz.prog 238 := ⟨⟨_, Tryz.underlying238, rfl⟩, by kernel_rfl⟩
instance : TRow Tryz.prog 240 2 := ⟨⟨_, Tryz.underlying240, rfl⟩, by kernel_rfl⟩
instance : TFA Tryz.prog 240 0 0 := ⟨⟨_, _, 0, Tryz.underlying240, rfl, rfl, by kernel_rfl⟩⟩
instance : TFA Tryz.prog 240 1 1 := ⟨⟨_, _, 0, Tryz.underlying240, rfl, rfl, by kernel_rfl⟩⟩
instance : TZ Tryz.prog 240 ([.nilFunc, .int .i64 0]) := ⟨⟨.agg #[.nilFunc, .int .i64 0], by kernel_rfl, rfl⟩⟩
def pl240 : Nat → Option (Nat × Nat) := fun i => ([(0, 1), (1, 1)] : List (Nat × Nat)).toArray[i]?
instance : Place pl240 0 0 1 := ⟨rfl⟩
instance : Place pl240 1 1 1 := ⟨rfl⟩
instance : TB Tryz.prog 240 ([.nilFunc, .int .i64 0]) pl240 := ⟨fun w ps cells h => run_build_struct (fl := _) Tryz.underlying240 (z := ([.nilFunc, .int .i64 0] : List Value).toArray) (n := 2) (by kernel_rfl) (pl := [(0, 1), (1, 1)]) (by kernel_rfl) h⟩
instance : TRow Tryz.prog 241 10 := ⟨⟨_, Tryz.underlying241, rfl⟩, by kernel_rfl⟩
instance : TArr Tryz.prog 241 5 240 2 := ⟨Tryz.underlying241, by kernel_rfl⟩
instance : TZ Tryz.prog 241 ([.nilFunc, .int .i64 0, .nilFunc, .int .i64 0, .nilFunc, .int .i64 0, .nilFunc, .int .i64 0, .nilFunc, .int .i64 0]) := ⟨⟨.agg #[.nilFunc, .int .i64 0, .nilFunc, .int .i64 0, .nilFunc, .int .i64 0, .nilFunc, .int .i64 0, .nilFunc, .int .i64 0], by kernel_rfl, rfl⟩⟩
instance : TB Tryz.prog 241 ([.nilFunc, .int .i64 0, .nilFunc, .int .i64 0, .nilFunc, .int .i64 0, .nilFunc, .int .i64 0, .nilFunc, .int .i64 0]) (plArr 2) := ⟨fun w ps cells h => run_build_array Tryz.underlying241 (z := ([.nilFunc, .int .i64 0, .nilFunc, .int .i64 0, .nilFunc, .int .i64 0, .nilFunc, .int .i64 0, .nilFunc, .int .i64 0] : List Value).toArray) (n := 10) (by kernel_rfl) (s := 2) (by kernel_rfl) h⟩
instance : TS Tryz.prog 245 250 98 112 (.agg zEnd.cells.toArray) := ⟨⟨Tryz.underlying245, by kernel_rfl, by simp [Value.cells, End.cells_length], by decide, by decide⟩⟩
instance : TRow Tryz.prog 250 98 := ⟨⟨_, Tryz.underlying250, rfl⟩, by kernel_rfl⟩
instance : TFA Tryz.prog 250 0 0 := ⟨⟨_, _, 96, Tryz.underlying250, rfl, rfl, by kernel_rfl⟩⟩
instance : TFA Tryz.prog 250 1 97 := ⟨⟨_, _, 0, Tryz.underlying250, rfl, rfl, by kernel_rfl⟩⟩
instance : TZ Tryz.prog 250 zEnd.cells := ⟨⟨.agg zEnd.cells.toArray, by kernel_rfl, rfl⟩⟩
def pl250 : Nat → Option (Nat × Nat) := fun i => ([(0, 97), (97, 1)] : List (Nat × Nat)).toArray[i]?
instance : Place pl250 0 0 97 := ⟨rfl⟩
instance : Place pl250 1 97 1 := ⟨rfl⟩
instance : TB Tryz.prog 250 zEnd.cells pl250 := ⟨fun w ps cells h => run_build_struct (fl := _) Tryz.underlying250 (z := zEnd.cells.toArray) (n := 98) (by kernel_rfl) (pl := [(0, 97), (97, 1)]) (by kernel_rfl) h⟩
instance : TRow Tryz.prog 275 65 := ⟨⟨_, Tryz.underlying275, rfl⟩, by kernel_rfl⟩
instance : TFA Tryz.prog 275 0 0 := ⟨⟨_, _, 63, Tryz.underlying275, rfl, rfl, by kernel_rfl⟩⟩
instance : TFA Tryz.prog 275 1 64 := ⟨⟨_, _, 0, Tryz.underlying275, rfl, rfl, by kernel_rfl⟩⟩
instance : TZ Tryz.prog 275 zNLeaf.cells := ⟨⟨.agg zNLeaf.cells.toArray, by kernel_rfl, rfl⟩⟩
def pl275 : Nat → Option (Nat × Nat) := fun i => ([(0, 64), (64, 1)] : List (Nat × Nat)).toArray[i]?
instance : Place pl275 0 0 64 := ⟨rfl⟩
instance : Place pl275 1 64 1 := ⟨rfl⟩
instance : TB Tryz.prog 275 zNLeaf.cells pl275 := ⟨fun w ps cells h => run_build_struct (fl := _) Tryz.underlying275 (z := zNLeaf.cells.toArray) (n := 65) (by kernel_rfl) (pl := [(0, 64), (64, 1)]) (by kernel_rfl) h⟩
instance : TRow Tryz.prog 276 2 := ⟨⟨_, Tryz.underlying276, rfl⟩, by kernel_rfl⟩
instance : TArr Tryz.prog 276 2 26 1 := ⟨Tryz.underlying276, by kernel_rfl⟩
instance : TZ Tryz.prog 276 ([.pointer none, .pointer none]) := ⟨⟨.agg #[.pointer none, .pointer none], by kernel_rfl, rfl⟩⟩
instance : TB Tryz.prog 276 ([.pointer none, .pointer none]) (plArr 1) := ⟨fun w ps cells h => run_build_array Tryz.underlying276 (z := ([.pointer none, .pointer none] : List Value).toArray) (n := 2) (by kernel_rfl) (s := 1) (by kernel_rfl) h⟩
instance : TRow Tryz.prog 277 64 := ⟨⟨_, Tryz.underlying277, rfl⟩, by kernel_rfl⟩
instance : TArr Tryz.prog 277 2 42 32 := ⟨Tryz.underlying277, by kernel_rfl⟩
instance : TRow Tryz.prog 279 67 := ⟨⟨_, Tryz.underlying279, rfl⟩, by kernel_rfl⟩
instance : TFA Tryz.prog 279 1 2 := ⟨⟨_, _, 63, Tryz.underlying279, rfl, rfl, by kernel_rfl⟩⟩
instance : TZ Tryz.prog 279 zNInner.cells := ⟨⟨.agg zNInner.cells.toArray, by kernel_rfl, rfl⟩⟩
def pl279 : Nat → Option (Nat × Nat) := fun i => ([(0, 2), (2, 64), (66, 1)] : List (Nat × Nat)).toArray[i]?
instance : Place pl279 0 0 2 := ⟨rfl⟩
instance : Place pl279 1 2 64 := ⟨rfl⟩
instance : Place pl279 2 66 1 := ⟨rfl⟩
instance : TB Tryz.prog 279 zNInner.cells pl279 := ⟨fun w ps cells h => run_build_struct (fl := _) Tryz.underlying279 (z := zNInner.cells.toArray) (n := 67) (by kernel_rfl) (pl := [(0, 2), (2, 64), (66, 1)]) (by kernel_rfl) h⟩
instance : TArr Tryz.prog 287 16 204 1 := ⟨Tryz.underlying287, by kernel_rfl⟩
instance : TZ Tryz.prog 287 ([.int .u32 0, .int .u32 0, .int .u32 0, .int .u32 0, .int .u32 0, .int .u32 0, .int .u32 0, .int .u32 0, .int .u32 0, .int .u32 0, .int .u32 0, .int .u32 0, .int .u32 0, .int .u32 0, .int .u32 0, .int .u32 0]) := ⟨⟨.agg #[.int .u32 0, .int .u32 0, .int .u32 0, .int .u32 0, .int .u32 0, .int .u32 0, .int .u32 0, .int .u32 0, .int .u32 0, .int .u32 0, .int .u32 0, .int .u32 0, .int .u32 0, .int .u32 0, .int .u32 0, .int .u32 0], by kernel_rfl, rfl⟩⟩
instance : TRow Tryz.prog 288 64 := ⟨⟨_, Tryz.underlying288, rfl⟩, by kernel_rfl⟩
instance : TArr Tryz.prog 288 64 204 1 := ⟨Tryz.underlying288, by kernel_rfl⟩
instance : TRow Tryz.prog 293 32 := ⟨⟨_, Tryz.underlying293, rfl⟩, by kernel_rfl⟩
instance : TArr Tryz.prog 293 32 5 1 := ⟨Tryz.underlying293, by kernel_rfl⟩
instance : TZ Tryz.prog 293 zB32.cells := ⟨⟨.agg zB32.cells.toArray, by kernel_rfl, rfl⟩⟩
instance : TB Tryz.prog 293 zB32.cells (plArr 1) := ⟨fun w ps cells h => run_build_array Tryz.underlying293 (z := zB32.cells.toArray) (n := 32) (by kernel_rfl) (s := 1) (by kernel_rfl) h⟩
instance (x y : B32) : TEq Tryz.prog 293 x.cells y.cells (decide (x = y)) := ⟨fun w d => eq_B32 (d + 4) Tryz.underlying293 Tryz.underlying5 (by kernel_rfl) x y, Tryz.eqGuardType293⟩
instance : TOne Tryz.prog 295 := ⟨⟨_, Tryz.underlying295, rfl⟩, by kernel_rfl⟩
theorem leafFields' : ∃ f1 f2 : Field, Tryz.prog.underlying 51 = some (.struct #[f1, f2]) ∧ (f1.name == "_") = false ∧ (f2.name == "_") = false ∧ f1.type = 35 ∧ f2.type = 42 ∧ f1.offset = 0 ∧ f2.offset = 32 :=
 ⟨_, _, Tryz.underlying51, by decide, by decide, rfl, rfl, rfl, rfl⟩
theorem eqLeaf' {w : World} (d : Nat) (x y : Leaf) : (Op.equalIn (d + 3) 51 (.agg x.cells.toArray) (.agg y.cells.toArray)).run Tryz.prog w = .ok (decide (x = y)) w := by
 obtain ⟨f1, f2, h0, h1, h2, h3, h4, h5, h6⟩ := leafFields'
 exact eq_Leaf d h0 Tryz.stoodInHeld51 h1 h2 h3 h4 h5 h6 Tryz.underlying35 Tryz.underlying42 Tryz.underlying5 (by kernel_rfl) (by kernel_rfl) (by kernel_rfl) x y
instance (x y : Leaf) : TEq Tryz.prog 51 x.cells y.cells (decide (x = y)) := ⟨fun w d => eqLeaf' (d + 3) x y, Tryz.eqGuardType51⟩
theorem mixed : Tryz.prog.follows .mixedOrders = true := by kernel_rfl
instance : TInt Tryz.prog 3 .i64 := ⟨Tryz.underlying3⟩
instance : TInt Tryz.prog 5 .u8 := ⟨Tryz.underlying5⟩
instance : TPtr Tryz.prog 26 := ⟨_, Tryz.underlying26⟩
instance : TPtr Tryz.prog 36 := ⟨_, Tryz.underlying36⟩
instance : TFT Tryz.prog 51 0 0 35 := ⟨_, _, Tryz.underlying51, rfl, rfl, rfl⟩
instance : TFT Tryz.prog 51 1 32 42 := ⟨_, _, Tryz.underlying51, rfl, rfl, rfl⟩
instance : TConc Tryz.prog 94 := ⟨_, Tryz.underlying94, by intro l h; cases h⟩
instance : TFT Tryz.prog 124 1 32 23 := ⟨_, _, Tryz.underlying124, rfl, rfl, rfl⟩
instance : TConc Tryz.prog 174 := ⟨_, Tryz.underlying174, by intro l h; cases h⟩
instance : TInt Tryz.prog 204 .u32 := ⟨Tryz.underlying204⟩
instance : TInt Tryz.prog 217 .u64 := ⟨Tryz.underlying217⟩
instance : TConc Tryz.prog 232 := ⟨_, Tryz.underlying232, by intro l h; cases h⟩
instance : TConc Tryz.prog 235 := ⟨_, Tryz.underlying235, by intro l h; cases h⟩
instance : TConc Tryz.prog 275 := ⟨_, Tryz.underlying275, by intro l h; cases h⟩
instance : TFT Tryz.prog 275 0 0 51 := ⟨_, _, Tryz.underlying275, rfl, rfl, rfl⟩
instance : TConc Tryz.prog 279 := ⟨_, Tryz.underlying279, by intro l h; cases h⟩
instance : TFT Tryz.prog 279 0 0 276 := ⟨_, _, Tryz.underlying279, rfl, rfl, rfl⟩
instance : TFT Tryz.prog 279 2 66 3 := ⟨_, _, Tryz.underlying279, rfl, rfl, rfl⟩
instance : TInt Tryz.prog 291 .u64 := ⟨Tryz.underlying291⟩
instance : Ent Tryz.prog 15 := ⟨enters_of Tryz.func15 (by kernel_rfl) rfl⟩
instance : Ent Tryz.prog 16 := ⟨enters_of Tryz.func16 (by kernel_rfl) rfl⟩
instance : Ent Tryz.prog 17 := ⟨enters_of Tryz.func17 (by kernel_rfl) rfl⟩
instance : Ent Tryz.prog 18 := ⟨enters_of Tryz.func18 (by kernel_rfl) rfl⟩
instance : Ent Tryz.prog 19 := ⟨enters_of Tryz.func19 (by kernel_rfl) rfl⟩
instance : Ent Tryz.prog 20 := ⟨enters_of Tryz.func20 (by kernel_rfl) rfl⟩
instance : Ent Tryz.prog 21 := ⟨enters_of Tryz.func21 (by kernel_rfl) rfl⟩
instance : Ent Tryz.prog 22 := ⟨enters_of Tryz.func22 (by kernel_rfl) rfl⟩
instance : Ent Tryz.prog 23 := ⟨enters_of Tryz.func23 (by kernel_rfl) rfl⟩
instance : Ent Tryz.prog 24 := ⟨enters_of Tryz.func24 (by kernel_rfl) rfl⟩
instance : Ent Tryz.prog 25 := ⟨enters_of Tryz.func25 (by kernel_rfl) rfl⟩
instance : Ent Tryz.prog 26 := ⟨enters_of Tryz.func26 (by kernel_rfl) rfl⟩
instance : Ent Tryz.prog 27 := ⟨enters_of Tryz.func27 (by kernel_rfl) rfl⟩
instance : Ent Tryz.prog 28 := ⟨enters_of Tryz.func28 (by kernel_rfl) rfl⟩
instance : Ent Tryz.prog 29 := ⟨enters_of Tryz.func29 (by kernel_rfl) rfl⟩
instance : Ent Tryz.prog 30 := ⟨enters_of Tryz.func30 (by kernel_rfl) rfl⟩
instance : Ent Tryz.prog 31 := ⟨enters_of Tryz.func31 (by kernel_rfl) rfl⟩
instance : Ent Tryz.prog 32 := ⟨enters_of Tryz.func32 (by kernel_rfl) rfl⟩
instance : Ent Tryz.prog 33 := ⟨enters_of Tryz.func33 (by kernel_rfl) rfl⟩
instance : Ent Tryz.prog 34 := ⟨enters_of Tryz.func34 (by kernel_rfl) rfl⟩
instance : Ent Tryz.prog 35 := ⟨enters_of Tryz.func35 (by kernel_rfl) rfl⟩
instance : Ent Tryz.prog 37 := ⟨enters_of Tryz.func37 (by kernel_rfl) rfl⟩
instance : Ent Tryz.prog 38 := ⟨enters_of Tryz.func38 (by kernel_rfl) rfl⟩
instance : Ent Tryz.prog 44 := ⟨enters_of Tryz.func44 (by kernel_rfl) rfl⟩
instance : Ent Tryz.prog 45 := ⟨enters_of Tryz.func45 (by kernel_rfl) rfl⟩
instance : Ent Tryz.prog 46 := ⟨enters_of Tryz.func46 (by kernel_rfl) rfl⟩
instance : Ent Tryz.prog 56 := ⟨enters_of Tryz.func56 (by kernel_rfl) rfl⟩
instance : Ent Tryz.prog 60 := ⟨enters_of Tryz.func60 (by kernel_rfl) rfl⟩
instance : Ent Tryz.prog 63 := ⟨enters_of Tryz.func63 (by kernel_rfl) rfl⟩
instance : Ent Tryz.prog 64 := ⟨enters_of Tryz.func64 (by kernel_rfl) rfl⟩
instance : Ent Tryz.prog 65 := ⟨enters_of Tryz.func65 (by kernel_rfl) rfl⟩
instance : Ent Tryz.prog 66 := ⟨enters_of Tryz.func66 (by kernel_rfl) rfl⟩
instance : Ent Tryz.prog 67 := ⟨enters_of Tryz.func67 (by kernel_rfl) rfl⟩
instance : Ent Tryz.prog 68 := ⟨enters_of Tryz.func68 (by kernel_rfl) rfl⟩
instance : Ent Tryz.prog 69 := ⟨enters_of Tryz.func69 (by kernel_rfl) rfl⟩
instance : Ent Tryz.prog 70 := ⟨enters_of Tryz.func70 (by kernel_rfl) rfl⟩
instance : Ent Tryz.prog 71 := ⟨enters_of Tryz.func71 (by kernel_rfl) rfl⟩
instance : Ent Tryz.prog 72 := ⟨enters_of Tryz.func72 (by kernel_rfl) rfl⟩
instance : Ent Tryz.prog 73 := ⟨enters_of Tryz.func73 (by kernel_rfl) rfl⟩
instance : Ent Tryz.prog 74 := ⟨enters_of Tryz.func74 (by kernel_rfl) rfl⟩
instance : Ent Tryz.prog 75 := ⟨enters_of Tryz.func75 (by kernel_rfl) rfl⟩
instance : Ent Tryz.prog 76 := ⟨enters_of Tryz.func76 (by kernel_rfl) rfl⟩
instance : Ent Tryz.prog 77 := ⟨enters_of Tryz.func77 (by kernel_rfl) rfl⟩
instance : Ent Tryz.prog 78 := ⟨enters_of Tryz.func78 (by kernel_rfl) rfl⟩
instance : Ent Tryz.prog 79 := ⟨enters_of Tryz.func79 (by kernel_rfl) rfl⟩
instance : Ent Tryz.prog 80 := ⟨enters_of Tryz.func80 (by kernel_rfl) rfl⟩
instance : Ent Tryz.prog 81 := ⟨enters_of Tryz.func81 (by kernel_rfl) rfl⟩
instance : Ent Tryz.prog 82 := ⟨enters_of Tryz.func82 (by kernel_rfl) rfl⟩
instance : Ent Tryz.prog 83 := ⟨enters_of Tryz.func83 (by kernel_rfl) rfl⟩
instance : Ent Tryz.prog 84 := ⟨enters_of Tryz.func84 (by kernel_rfl) rfl⟩
instance : Ent Tryz.prog 85 := ⟨enters_of Tryz.func85 (by kernel_rfl) rfl⟩
instance : Ent Tryz.prog 86 := ⟨enters_of Tryz.func86 (by kernel_rfl) rfl⟩
instance : Ent Tryz.prog 87 := ⟨enters_of Tryz.func87 (by kernel_rfl) rfl⟩
instance : Ent Tryz.prog 88 := ⟨enters_of Tryz.func88 (by kernel_rfl) rfl⟩
instance : Ent Tryz.prog 89 := ⟨enters_of Tryz.func89 (by kernel_rfl) rfl⟩
instance : Ent Tryz.prog 90 := ⟨enters_of Tryz.func90 (by kernel_rfl) rfl⟩
instance : Ent Tryz.prog 91 := ⟨enters_of Tryz.func91 (by kernel_rfl) rfl⟩
instance : Ent Tryz.prog 92 := ⟨enters_of Tryz.func92 (by kernel_rfl) rfl⟩
instance : Ent Tryz.prog 96 := ⟨enters_of Tryz.func96 (by kernel_rfl) rfl⟩
instance : Ent Tryz.prog 97 := ⟨enters_of Tryz.func97 (by kernel_rfl) rfl⟩
instance : Ent Tryz.prog 98 := ⟨enters_of Tryz.func98 (by kernel_rfl) rfl⟩
instance : Ent Tryz.prog 99 := ⟨enters_of Tryz.func99 (by kernel_rfl) rfl⟩
instance : Ent Tryz.prog 100 := ⟨enters_of Tryz.func100 (by kernel_rfl) rfl⟩
instance : Ent Tryz.prog 101 := ⟨enters_of Tryz.func101 (by kernel_rfl) rfl⟩
instance : Ent Tryz.prog 102 := ⟨enters_of Tryz.func102 (by kernel_rfl) rfl⟩
instance : Ent Tryz.prog 107 := ⟨enters_of Tryz.func107 (by kernel_rfl) rfl⟩
instance : Ent Tryz.prog 108 := ⟨enters_of Tryz.func108 (by kernel_rfl) rfl⟩
instance : Ent Tryz.prog 109 := ⟨enters_of Tryz.func109 (by kernel_rfl) rfl⟩
instance : Ent Tryz.prog 110 := ⟨enters_of Tryz.func110 (by kernel_rfl) rfl⟩
instance : Ent Tryz.prog 111 := ⟨enters_of Tryz.func111 (by kernel_rfl) rfl⟩
instance : Ent Tryz.prog 113 := ⟨enters_of Tryz.func113 (by kernel_rfl) rfl⟩
instance : Ent Tryz.prog 116 := ⟨enters_of Tryz.func116 (by kernel_rfl) rfl⟩
instance : Ent Tryz.prog 117 := ⟨enters_of Tryz.func117 (by kernel_rfl) rfl⟩
instance : Ent Tryz.prog 118 := ⟨enters_of Tryz.func118 (by kernel_rfl) rfl⟩
instance : Ent Tryz.prog 119 := ⟨enters_of Tryz.func119 (by kernel_rfl) rfl⟩
instance : Ent Tryz.prog 120 := ⟨enters_of Tryz.func120 (by kernel_rfl) rfl⟩
instance : Ent Tryz.prog 121 := ⟨enters_of Tryz.func121 (by kernel_rfl) rfl⟩
instance : Ent Tryz.prog 122 := ⟨enters_of Tryz.func122 (by kernel_rfl) rfl⟩
instance : Ent Tryz.prog 123 := ⟨enters_of Tryz.func123 (by kernel_rfl) rfl⟩
instance : Ent Tryz.prog 124 := ⟨enters_of Tryz.func124 (by kernel_rfl) rfl⟩
instance : Ent Tryz.prog 125 := ⟨enters_of Tryz.func125 (by kernel_rfl) rfl⟩
instance : Ent Tryz.prog 126 := ⟨enters_of Tryz.func126 (by kernel_rfl) rfl⟩
instance : Ent Tryz.prog 127 := ⟨enters_of Tryz.func127 (by kernel_rfl) rfl⟩
instance : Ent Tryz.prog 128 := ⟨enters_of Tryz.func128 (by kernel_rfl) rfl⟩
instance : Ent Tryz.prog 129 := ⟨enters_of Tryz.func129 (by kernel_rfl) rfl⟩
instance : Ent Tryz.prog 130 := ⟨enters_of Tryz.func130 (by kernel_rfl) rfl⟩
instance : Ent Tryz.prog 131 := ⟨enters_of Tryz.func131 (by kernel_rfl) rfl⟩
instance : Ent Tryz.prog 132 := ⟨enters_of Tryz.func132 (by kernel_rfl) rfl⟩
instance : Ent Tryz.prog 133 := ⟨enters_of Tryz.func133 (by kernel_rfl) rfl⟩
instance : Ent Tryz.prog 134 := ⟨enters_of Tryz.func134 (by kernel_rfl) rfl⟩
instance : Ent Tryz.prog 135 := ⟨enters_of Tryz.func135 (by kernel_rfl) rfl⟩
instance : Ent Tryz.prog 136 := ⟨enters_of Tryz.func136 (by kernel_rfl) rfl⟩
instance : Ent Tryz.prog 137 := ⟨enters_of Tryz.func137 (by kernel_rfl) rfl⟩
instance : Ent Tryz.prog 138 := ⟨enters_of Tryz.func138 (by kernel_rfl) rfl⟩
instance : Ent Tryz.prog 139 := ⟨enters_of Tryz.func139 (by kernel_rfl) rfl⟩
instance : Ent Tryz.prog 140 := ⟨enters_of Tryz.func140 (by kernel_rfl) rfl⟩
instance : Ent Tryz.prog 141 := ⟨enters_of Tryz.func141 (by kernel_rfl) rfl⟩
instance : Ent Tryz.prog 142 := ⟨enters_of Tryz.func142 (by kernel_rfl) rfl⟩
instance : Ent Tryz.prog 143 := ⟨enters_of Tryz.func143 (by kernel_rfl) rfl⟩
instance : Ent Tryz.prog 144 := ⟨enters_of Tryz.func144 (by kernel_rfl) rfl⟩
instance : Ent Tryz.prog 145 := ⟨enters_of Tryz.func145 (by kernel_rfl) rfl⟩
instance : Ent Tryz.prog 146 := ⟨enters_of Tryz.func146 (by kernel_rfl) rfl⟩
instance : Ent Tryz.prog 147 := ⟨enters_of Tryz.func147 (by kernel_rfl) rfl⟩
instance : Ent Tryz.prog 148 := ⟨enters_of Tryz.func148 (by kernel_rfl) rfl⟩
instance : Ent Tryz.prog 149 := ⟨enters_of Tryz.func149 (by kernel_rfl) rfl⟩
instance : Ent Tryz.prog 150 := ⟨enters_of Tryz.func150 (by kernel_rfl) rfl⟩
instance : Ent Tryz.prog 151 := ⟨enters_of Tryz.func151 (by kernel_rfl) rfl⟩
instance : Ent Tryz.prog 152 := ⟨enters_of Tryz.func152 (by kernel_rfl) rfl⟩
instance : Ent Tryz.prog 153 := ⟨enters_of Tryz.func153 (by kernel_rfl) rfl⟩
instance : Ent Tryz.prog 154 := ⟨enters_of Tryz.func154 (by kernel_rfl) rfl⟩
instance : Ent Tryz.prog 155 := ⟨enters_of Tryz.func155 (by kernel_rfl) rfl⟩
instance : Ent Tryz.prog 156 := ⟨enters_of Tryz.func156 (by kernel_rfl) rfl⟩
instance : Ent Tryz.prog 157 := ⟨enters_of Tryz.func157 (by kernel_rfl) rfl⟩
instance : Ent Tryz.prog 164 := ⟨enters_of Tryz.func164 (by kernel_rfl) rfl⟩
instance : Ent Tryz.prog 165 := ⟨enters_of Tryz.func165 (by kernel_rfl) rfl⟩
instance : Ent Tryz.prog 166 := ⟨enters_of Tryz.func166 (by kernel_rfl) rfl⟩
instance : Ent Tryz.prog 167 := ⟨enters_of Tryz.func167 (by kernel_rfl) rfl⟩
instance : Ent Tryz.prog 168 := ⟨enters_of Tryz.func168 (by kernel_rfl) rfl⟩
instance : Ent Tryz.prog 169 := ⟨enters_of Tryz.func169 (by kernel_rfl) rfl⟩
instance : Ent Tryz.prog 170 := ⟨enters_of Tryz.func170 (by kernel_rfl) rfl⟩
instance : Ent Tryz.prog 171 := ⟨enters_of Tryz.func171 (by kernel_rfl) rfl⟩
instance : Ent Tryz.prog 172 := ⟨enters_of Tryz.func172 (by kernel_rfl) rfl⟩
instance : Ent Tryz.prog 174 := ⟨enters_of Tryz.func174 (by kernel_rfl) rfl⟩
instance : Ent Tryz.prog 175 := ⟨enters_of Tryz.func175 (by kernel_rfl) rfl⟩
instance : Ent Tryz.prog 176 := ⟨enters_of Tryz.func176 (by kernel_rfl) rfl⟩
instance : Ent Tryz.prog 181 := ⟨enters_of Tryz.func181 (by kernel_rfl) rfl⟩
instance : Ent Tryz.prog 182 := ⟨enters_of Tryz.func182 (by kernel_rfl) rfl⟩
instance : Ent Tryz.prog 183 := ⟨enters_of Tryz.func183 (by kernel_rfl) rfl⟩
instance : Ent Tryz.prog 184 := ⟨enters_of Tryz.func184 (by kernel_rfl) rfl⟩
instance : Ent Tryz.prog 185 := ⟨enters_of Tryz.func185 (by kernel_rfl) rfl⟩
instance : Ent Tryz.prog 186 := ⟨enters_of Tryz.func186 (by kernel_rfl) rfl⟩
instance : Ent Tryz.prog 187 := ⟨enters_of Tryz.func187 (by kernel_rfl) rfl⟩
instance : Ent Tryz.prog 188 := ⟨enters_of Tryz.func188 (by kernel_rfl) rfl⟩
instance : Ent Tryz.prog 189 := ⟨enters_of Tryz.func189 (by kernel_rfl) rfl⟩
instance : Ent Tryz.prog 190 := ⟨enters_of Tryz.func190 (by kernel_rfl) rfl⟩
instance : Ent Tryz.prog 191 := ⟨enters_of Tryz.func191 (by kernel_rfl) rfl⟩
instance : Ent Tryz.prog 192 := ⟨enters_of Tryz.func192 (by kernel_rfl) rfl⟩
instance : Ent Tryz.prog 193 := ⟨enters_of Tryz.func193 (by kernel_rfl) rfl⟩
instance : Ent Tryz.prog 194 := ⟨enters_of Tryz.func194 (by kernel_rfl) rfl⟩
instance : Ent Tryz.prog 195 := ⟨enters_of Tryz.func195 (by kernel_rfl) rfl⟩
instance : Ent Tryz.prog 196 := ⟨enters_of Tryz.func196 (by kernel_rfl) rfl⟩
instance : Ent Tryz.prog 197 := ⟨enters_of Tryz.func197 (by kernel_rfl) rfl⟩
instance : Ent Tryz.prog 198 := ⟨enters_of Tryz.func198 (by kernel_rfl) rfl⟩
instance : Ent Tryz.prog 199 := ⟨enters_of Tryz.func199 (by kernel_rfl) rfl⟩
instance : Ent Tryz.prog 200 := ⟨enters_of Tryz.func200 (by kernel_rfl) rfl⟩
instance : Ent Tryz.prog 201 := ⟨enters_of Tryz.func201 (by kernel_rfl) rfl⟩
instance : Ent Tryz.prog 202 := ⟨enters_of Tryz.func202 (by kernel_rfl) rfl⟩
instance : Ent Tryz.prog 203 := ⟨enters_of Tryz.func203 (by kernel_rfl) rfl⟩
instance : Ent Tryz.prog 204 := ⟨enters_of Tryz.func204 (by kernel_rfl) rfl⟩
instance : Ent Tryz.prog 205 := ⟨enters_of Tryz.func205 (by kernel_rfl) rfl⟩
instance : Ent Tryz.prog 210 := ⟨enters_of Tryz.func210 (by kernel_rfl) rfl⟩
instance : Ent Tryz.prog 211 := ⟨enters_of Tryz.func211 (by kernel_rfl) rfl⟩
instance : Ent Tryz.prog 214 := ⟨enters_of Tryz.func214 (by kernel_rfl) rfl⟩
instance : Ent Tryz.prog 215 := ⟨enters_of Tryz.func215 (by kernel_rfl) rfl⟩
instance : Ent Tryz.prog 216 := ⟨enters_of Tryz.func216 (by kernel_rfl) rfl⟩
instance : Ent Tryz.prog 217 := ⟨enters_of Tryz.func217 (by kernel_rfl) rfl⟩
instance : Ent Tryz.prog 218 := ⟨enters_of Tryz.func218 (by kernel_rfl) rfl⟩
instance : Ent Tryz.prog 219 := ⟨enters_of Tryz.func219 (by kernel_rfl) rfl⟩
instance : Ent Tryz.prog 220 := ⟨enters_of Tryz.func220 (by kernel_rfl) rfl⟩
instance : Ent Tryz.prog 221 := ⟨enters_of Tryz.func221 (by kernel_rfl) rfl⟩
instance : Ent Tryz.prog 222 := ⟨enters_of Tryz.func222 (by kernel_rfl) rfl⟩
instance : Ent Tryz.prog 224 := ⟨enters_of Tryz.func224 (by kernel_rfl) rfl⟩
instance : Ent Tryz.prog 225 := ⟨enters_of Tryz.func225 (by kernel_rfl) rfl⟩
instance : Ent Tryz.prog 226 := ⟨enters_of Tryz.func226 (by kernel_rfl) rfl⟩
instance : Ent Tryz.prog 253 := ⟨enters_of Tryz.func253 (by kernel_rfl) rfl⟩
instance : Ent Tryz.prog 254 := ⟨enters_of Tryz.func254 (by kernel_rfl) rfl⟩
end Go.Proofs.YtjhocljhhpkiiaaGreatDoor
/- E7 -/
namespace Go.Proofs.YtjhocljhhpkiiaaGreatDoor
abbrev W32 := BitVec 32
def rotr (x : W32) (n : Nat) : W32 := (x >>> n) ||| (x <<< (32 - n))
def sg0 (x : W32) : W32 := (rotr x 7 ^^^ rotr x 18) ^^^ (x >>> 3)
def sg1 (x : W32) : W32 := (rotr x 17 ^^^ rotr x 19) ^^^ (x >>> 10)
def bg1 (x : W32) : W32 := (rotr x 6 ^^^ rotr x 11) ^^^ rotr x 25
def bg0 (x : W32) : W32 := (rotr x 2 ^^^ rotr x 13) ^^^ rotr x 22
def ch (e f g : W32) : W32 := (e &&& f) ^^^ (~~~e &&& g)
def maj (a b c : W32) : W32 := ((a &&& b) ^^^ (a &&& c)) ^^^ (b &&& c)
theorem ch_eq (e f g : W32) : g ^^^ (e &&& (f ^^^ g)) = ch e f g := by
 unfold ch
 ext i hi
 simp only [BitVec.getElem_xor, BitVec.getElem_and, BitVec.getElem_not]
 cases e[i] <;> cases f[i] <;> cases g[i] <;> rfl
theorem maj_eq (a b c : W32) : (a &&& b) ||| (c &&& (a ||| b)) = maj a b c := by
 unfold maj
 ext i hi
 simp only [BitVec.getElem_xor, BitVec.getElem_and, BitVec.getElem_or]
 cases a[i] <;> cases b[i] <;> cases c[i] <;> rfl
def xorl (x : W32) (l : List Nat) : W32 := l.foldl (fun s n => s ^^^ rotr x n) 0
theorem xorl2 (x : W32) (a b : Nat) : xorl x [a, b] = rotr x a ^^^ rotr x b := by simp [xorl]
theorem xorl3 (x : W32) (a b c : Nat) : xorl x [a, b, c] = (rotr x a ^^^ rotr x b) ^^^ rotr x c := by simp [xorl]
theorem take_snoc {α : Type} {d : α} {l : List α} {k : Nat} (h : k < l.length) : l.take (k + 1) = l.take k ++ [l.getD k d] := by
 rw [List.take_succ_eq_append_getElem h]
 simp [List.getD, h]
theorem xorl_step (x : W32) {l : List Nat} {k : Nat} (h : k < l.length) : xorl x (l.take (k + 1)) = xorl x (l.take k) ^^^ rotr x (l.getD k 0) := by
 rw [take_snoc h (d := 0)]
 simp [xorl, List.foldl_append]
structure S8 where
 a : W32
 b : W32
 c : W32
 d : W32
 e : W32
 f : W32
 g : W32
 h : W32
def S8.l (s : S8) : List W32 := [s.a, s.b, s.c, s.d, s.e, s.f, s.g, s.h]
def t1 (k w : W32) (s : S8) : W32 := s.h + bg1 s.e + ch s.e s.f s.g + k + w
def t2 (s : S8) : W32 := bg0 s.a + maj s.a s.b s.c
def rnd (k w : W32) (s : S8) : S8 := ⟨t1 k w s + t2 s, s.a, s.b, s.c, s.d + t1 k w s, s.e, s.f, s.g⟩
def S8.add (s t : S8) : S8 := ⟨s.a + t.a, s.b + t.b, s.c + t.c, s.d + t.d, s.e + t.e, s.f + t.f, s.g + t.g, s.h + t.h⟩
def K64 : List W32 := [0x428a2f98, 0x71374491, 0xb5c0fbcf, 0xe9b5dba5, 0x3956c25b, 0x59f111f1, 0x923f82a4, 0xab1c5ed5, 0xd807aa98, 0x12835b01, 0x243185be, 0x550c7dc3, 0x72be5d74, 0x80deb1fe, 0x9bdc06a7, 0xc19bf174, 0xe49b69c1, 0xefbe4786, 0x0fc19dc6, 0x240ca1cc, 0x2de92c6f, 0x4a7484aa, 0x5cb0a9dc, 0x76f988da, 0x983e5152, 0xa831c66d, 0xb00327c8, 0xbf597fc7, 0xc6e00bf3, 0xd5a79147, 0x06ca6351, 0x14292967, 0x27b70a85, 0x2e1b2138, 0x4d2c6dfc, 0x53380d13, 0x650a7354, 0x766a0abb, 0x81c2c92e, 0x92722c85, 0xa2bfe8a1, 0xa81a664b, 0xc24b8b70, 0xc76c51a3, 0xd192e819, 0xd6990624, 0xf40e3585, 0x106aa070, 0x19a4c116, 0x1e376c08, 0x2748774c, 0x34b0bcb5, 0x391c0cb3, 0x4ed8aa4a, 0x5b9cca4f, 0x682e6ff3, 0x748f82ee, 0x78a5636f, 0x84c87814, 0x8cc70208, 0x90befffa, 0xa4506ceb, 0xbef9a3f7, 0xc67178f2]
theorem K64_len : K64.length = 64 := rfl
def H0 : S8 := ⟨0x6a09e667, 0xbb67ae85, 0x3c6ef372, 0xa54ff53a, 0x510e527f, 0x9b05688c, 0x1f83d9ab, 0x5be0cd19⟩
def wrd (b : List UInt8) (i : Nat) : W32 := ((((b.getD (4 * i) 0).toBitVec.setWidth 32 <<< 24) ||| ((b.getD (4 * i + 1) 0).toBitVec.setWidth 32 <<< 16)) ||| ((b.getD (4 * i + 2) 0).toBitVec.setWidth 32 <<< 8)) ||| (b.getD (4 * i + 3) 0).toBitVec.setWidth 32
def nextW (l : List W32) : W32 := ((l.getD (l.length - 16) 0 + sg0 (l.getD (l.length - 15) 0)) + l.getD (l.length - 7) 0) + sg1 (l.getD (l.length - 2) 0)
def sch (b : List UInt8) : Nat → List W32
 | 0 => []
 | n + 1 => sch b n ++ [if n < 16 then wrd b n else nextW (sch b n)]
theorem sch_len (b : List UInt8) : ∀ n, (sch b n).length = n
 | 0 => rfl
 | n + 1 => by rw [sch, List.length_append, sch_len b n]; rfl
theorem sch_get (b : List UInt8) : ∀ (n m i : Nat), i < n → n ≤ m → (sch b m).getD i 0 = (sch b n).getD i 0 := by
 intro n m i hi hm
 induction m with
 | zero => omega
 | succ m ih =>
  by_cases e : n = m + 1
  ·rw [e]
  ·have hlt : i < (sch b m).length := by rw [sch_len]; omega
   rw [← ih (by omega), sch]
   simp [List.getD, List.getElem?_append_left hlt]
theorem sch_last (b : List UInt8) (n : Nat) : (sch b (n + 1)).getD n 0 = if n < 16 then wrd b n else nextW (sch b n) := by
 have h := sch_len b n
 rw [sch]
 simp [List.getD, List.getElem?_append_right (show (sch b n).length ≤ n by omega), h]
def wat (b : List UInt8) (n : Nat) : W32 := (sch b 64).getD n 0
theorem wat_lo {b : List UInt8} {n : Nat} (h : n < 16) : wat b n = wrd b n := by
 unfold wat
 rw [sch_get b (n + 1) 64 n (by omega) (by omega), sch_last, if_pos h]
theorem wat_hi {b : List UInt8} {n : Nat} (h : 16 ≤ n) (h' : n < 64) : wat b n = ((wat b (n - 16) + sg0 (wat b (n - 15))) + wat b (n - 7)) + sg1 (wat b (n - 2)) := by
 unfold wat
 rw [sch_get b (n + 1) 64 n (by omega) (by omega), sch_last, if_neg (by omega), nextW, sch_len,
  sch_get b n 64 (n - 16) (by omega) (by omega), sch_get b n 64 (n - 15) (by omega) (by omega), sch_get b n 64 (n - 7) (by omega) (by omega), sch_get b n 64 (n - 2) (by omega) (by omega)]
def rnds (b : List UInt8) (s : S8) : Nat → S8
 | 0 => s
 | n + 1 => rnd (K64.getD n 0) (wat b n) (rnds b s n)
def comp (b : List UInt8) (s : S8) : S8 := s.add (rnds b s 64)
def comps (l : List (List UInt8)) (s : S8) : S8 := l.foldl (fun s b => comp b s) s
theorem comps_snoc (l : List (List UInt8)) (b : List UInt8) (s : S8) : comps (l ++ [b]) s = comp b (comps l s) := by
 unfold comps
 rw [List.foldl_append]
 simp only [List.foldl_cons, List.foldl_nil]
def lenB (n i : Nat) : UInt8 := UInt8.ofBitVec ((BitVec.ofNat 64 (8 * n) >>> (8 * (7 - i))).setWidth 8)
def padN (n : Nat) : Nat := 64 * ((n + 72) / 64)
def pad (b : List UInt8) : List UInt8 := b ++ (128 :: List.replicate (padN b.length - b.length - 9) 0) ++ (List.range 8).map (lenB b.length)
theorem padN_ge (n : Nat) : n + 9 ≤ padN n := by unfold padN; omega
theorem pad_len (b : List UInt8) : (pad b).length = padN b.length := by
 have h := padN_ge b.length
 unfold pad
 generalize padN b.length = p at *
 rw [List.length_append, List.length_append, List.length_cons, List.length_replicate, List.length_map, List.length_range]
 omega
def padZ (b : List UInt8) : List UInt8 := b ++ (128 :: List.replicate (padN b.length - b.length - 1) 0)
def blk64 (l : List UInt8) (i : Nat) : List UInt8 := (l.drop (64 * i)).take 64
def blks (l : List UInt8) : List (List UInt8) := (List.range (l.length / 64)).map (blk64 l)
def outB (s : S8) (i : Nat) : UInt8 := UInt8.ofBitVec ((s.l.getD (i / 4) 0 >>> (24 - 8 * (i % 4))).setWidth 8)
def outL (s : S8) : List UInt8 := (List.range 32).map (outB s)
def sha (b : List UInt8) : B32 := ⟨outL (comps (blks (pad b)) H0), by simp [outL]⟩
def padI (b : List UInt8) : Nat → List UInt8
 | 0 => padZ b
 | i + 1 => (padI b i).set (padN b.length - 1 - i) (lenB b.length (7 - i))
theorem padI_len (b : List UInt8) : ∀ i, (padI b i).length = padN b.length
 | 0 => by
  have h := padN_ge b.length
  unfold padI padZ
  generalize padN b.length = p at *
  simp
  omega
 | i + 1 => by rw [padI, List.length_set, padI_len b i]
theorem padI_get (b : List UInt8) : ∀ i, i ≤ 8 → ∀ j, (padI b i)[j]? = if padN b.length - i ≤ j ∧ j < padN b.length then some (lenB b.length (j + 8 - padN b.length)) else (padZ b)[j]?
 | 0, _, j => by
  unfold padI
  rw [if_neg (by omega)]
 | i + 1, hi, j => by
  have hp := padN_ge b.length
  have hl := padI_len b i
  have ih := padI_get b i (by omega) j
  rw [padI, List.getElem?_set, hl]
  generalize padN b.length = p at *
  by_cases e : p - 1 - i = j
  ·rw [if_pos e, if_pos (by omega), if_pos (by omega), show 7 - i = j + 8 - p by omega]
  ·rw [if_neg e, ih]
   by_cases h : p - i ≤ j ∧ j < p
   ·rw [if_pos h, if_pos (by omega)]
   ·rw [if_neg h, if_neg (by omega)]
theorem padI_8 (b : List UInt8) : padI b 8 = pad b := by
 apply List.ext_getElem?
 intro j
 rw [padI_get b 8 (Nat.le_refl _) j]
 have hp := padN_ge b.length
 unfold pad padZ
 generalize padN b.length = p at *
 have hl : (b ++ (128 :: List.replicate (p - b.length - 9) 0)).length = p - 8 := by
  rw [List.length_append, List.length_cons, List.length_replicate]; omega
 by_cases h : p - 8 ≤ j ∧ j < p
 ·rw [if_pos h, List.getElem?_append_right (by omega), hl, List.getElem?_map, List.getElem?_range (by omega), Option.map_some]
  congr 2
  omega
 ·rw [if_neg h]
  by_cases h2 : j < p - 8
  ·rw [List.getElem?_append_left (l₁ := b ++ (128 :: List.replicate (p - b.length - 9) 0)) (by omega)]
   by_cases h3 : j < b.length
   ·rw [List.getElem?_append_left h3, List.getElem?_append_left h3]
   ·rw [List.getElem?_append_right (by omega), List.getElem?_append_right (by omega)]
    cases hj : j - b.length with
    | zero => rfl
    | succ q =>
     rw [List.getElem?_cons_succ, List.getElem?_cons_succ, List.getElem?_replicate, List.getElem?_replicate, if_pos (by omega), if_pos (by omega)]
  ·rw [List.getElem?_eq_none (by rw [List.length_append, List.length_cons, List.length_replicate]; omega), List.getElem?_eq_none (by rw [List.length_append, hl, List.length_map, List.length_range]; omega)]
end Go.Proofs.YtjhocljhhpkiiaaGreatDoor
/- U1 -/
namespace Go.Proofs.YtjhocljhhpkiiaaGreatDoor
open Go.RowKit
section
variable {P : Program} {n : Nat} {D : List Deferred} {E : Env} {L : List Fa} {T T' : TypeId} {x y : Operand} {k : IntKind} {i j : Int} {m : Nat}
theorem r_subU {p q : Nat} [hk : UK k m] (hx : ev E x = some (.int k i)) (hy : ev E y = some (.int k j)) [ha : NatOf i p] [hb : NatOf j q] (h : q ≤ p ∧ p < 2 ^ m) : Runs0 P n D E L (.binOp .sub T x y T') (.int k ((p - q : Nat) : Int)) := fun c w ka s o ho => by
  obtain rfl := ha.eq
  obtain rfl := hb.eq
  refine run_bin ho (ka.ev hx) (ka.ev hy) (by cases k <;> rfl) ?_
  have e : binOp .sub T (.int k (p : Int)) (.int k (q : Int)) = Op.intArith .sub k p q := by simp [binOp]
  rw [e]
  simp only [Op.intArith, hk.wrap]
  rw [Int.emod_eq_of_lt (by omega) (by have h2 := h.2; have : ((p : Nat) : Int) < ((2 ^ m : Nat) : Int) := by exact_mod_cast h2
                                       push_cast at this; omega)]
  rw [Int.ofNat_sub h.1]
  rfl
end
theorem rot_and (n : Nat) (h : 1 ≤ n ∧ n ≤ 31) : (((BitVec.ofInt 64 (-(n : Int))) &&& BitVec.ofNat 64 31).toNat : Int) = ((32 - n : Nat) : Int) := by
 have key : ∀ k : Fin 32, 1 ≤ k.val → ((BitVec.ofInt 64 (-(k.val : Int))) &&& BitVec.ofNat 64 31).toNat = 32 - k.val := by decide +kernel
 have := key ⟨n, by omega⟩ h.1
 simp only at this
 rw [this]
theorem rot_eq (x : W32) (n : Nat) (h : 1 ≤ n ∧ n ≤ 31) : (x <<< (32 - n)) ||| (x >>> (32 - (32 - n))) = rotr x n := by
 rw [show 32 - (32 - n) = n by omega, BitVec.or_comm]; rfl
theorem Rot_s (x : W32) (n : Nat) (h : 1 ≤ n ∧ n ≤ 31) : Spec Tryz.prog 214 [.int .u32 (x.toNat : Int), .int .i64 (-(n : Int))].toArray [] [] (fun _ : Unit => .int .u32 ((rotr x n).toNat : Int)) (fun _ => []) := by
 refine spec_of Tryz.func214 rfl (n := 17) rfl rfl ?_
 intro W
 refine yR ?_
 refine yS rfl ?_
 refine yN ?_
 refine yR ?_
 refine yM rfl ?_
 refine h_op (r_cI rfl) ?_
 refine h_op (r_int (r_and rfl rfl) (rot_and n h)) ?_
 refine yS rfl ?_
 refine yN ?_
 refine yR ?_
 refine yM rfl ?_
 refine yM rfl ?_
 refine h_op (r_shl rfl rfl) ?_
 refine yM rfl ?_
 refine yM rfl ?_
 refine h_op (r_subU rfl rfl ⟨by omega, by omega⟩) ?_
 refine h_op (r_shr rfl rfl) ?_
 refine h_op (r_or rfl rfl) ?_
 refine yS rfl ?_
 refine yN ?_
 refine h_ret ?_
 exact h_ret1 rfl rfl fun w s => ⟨(), by rw [← rot_eq x n h], s.res (List.Sublist.refl _) (by simp)⟩
theorem turn_s (x : W32) (n : Nat) (h : 1 ≤ n ∧ n ≤ 31) : Spec Tryz.prog 138 [.int .u32 (x.toNat : Int), .int .u64 (n : Int)].toArray [] [] (fun _ : Unit => .int .u32 ((rotr x n).toNat : Int)) (fun _ => []) := by
 refine spec_of Tryz.func138 rfl (n := 13) rfl rfl ?_
 intro W
 refine yR ?_
 refine yS rfl ?_
 refine yN ?_
 refine yR ?_
 refine yM rfl ?_
 refine yM rfl ?_
 refine h_op (r_shr rfl rfl) ?_
 refine yM rfl ?_
 refine yM rfl ?_
 refine h_op (r_subU rfl rfl ⟨by omega, by omega⟩) ?_
 refine h_op (r_shl rfl rfl) ?_
 refine h_op (r_or rfl rfl) ?_
 refine yS rfl ?_
 refine yN ?_
 refine h_ret ?_
 exact h_ret1 rfl rfl fun w s => ⟨(), rfl, s.res (List.Sublist.refl _) (by simp)⟩
theorem right_s (x : W32) (l : List Nat) (hl : ∀ n ∈ l, 1 ≤ n ∧ n ≤ 31) (b o c : Nat) (hn : l.length ≤ 100) : Spec Tryz.prog 184 [.int .u32 (x.toNat : Int), .slice (some ⟨b, o, none⟩) l.length c].toArray [.rd (some ⟨b, o, none⟩) (ic l)] [] (fun _ : Unit => .int .u32 ((xorl x l).toNat : Int)) (fun _ => []) := by
 refine spec_of Tryz.func184 rfl (n := 22) rfl rfl ?_
 intro W
 refine yR ?_
 refine yS rfl ?_
 refine yN ?_
 refine yR ?_
 refine yS rfl ?_
 refine yN ?_
 refine h_seq ?_
 refine yR ?_
 refine yM rfl ?_
 refine h_op (r_len rfl) ?_
 refine yM rfl ?_
 refine yN ?_
 refine h_block ?_
 refine h_loop (fun (k : Nat) => k ≤ l.length) (fun (k : Nat) => [(10, .int .i64 (k : Int)), (9, .int .i64 (l.length : Int)), (8, .slice (some ⟨b, o, none⟩) l.length c), (5, .int .u32 ((xorl x (l.take k)).toNat : Int)), (0, .int .u32 (x.toNat : Int))]) (fun (k : Nat) => [.rd (some ⟨b, o, none⟩) (ic l)]) (fun (k : Nat) => l.length - k) 0 (Nat.zero_le _) ⟨rfl, rfl, rfl, rfl, rfl, trivial⟩ (fun _ s => s) ?_
 intro k hk
 refine yR ?_
 refine h_op (r_lss rfl rfl) ?_
 refine yN ?_
 refine h_seq ?_
 refine h_cond rfl (fun h => ?_) (fun h => ?_)
 ·have hb := hl (l.getD k 0) (by rw [List.getD, List.getElem?_eq_getElem (by omega)]; exact List.getElem_mem _)
  refine h_skip ?_
  refine q_then ?_
  refine h_seq ?_
  refine h_block ?_
  refine yR ?_
  refine h_op (r_idx rfl rfl) ?_
  refine h_op (r_nth rfl (ic_at (by omega))) ?_
  refine yS rfl ?_
  refine yN ?_
  refine h_reg ?_
  refine yM rfl ?_
  refine yM rfl ?_
  refine yM rfl ?_
  refine h_op (r_neg rfl) ?_
  refine h_call ((Rot_s x (l.getD k 0) hb).comes) rfl rfl rfl fun _ => ?_
  refine h_op (r_xor rfl rfl) ?_
  refine yS rfl ?_
  refine h_nil ?_
  refine q_block ?_
  refine q_then ?_
  refine h_reg ?_
  refine h_op (r_add rfl rfl) ?_
  refine yM rfl ?_
  refine h_nil ?_
  exact h_back (k + 1) (by omega) (by omega) ⟨rfl, rfl, rfl, by rw [xorl_step x (by omega)]; rfl, rfl, trivial⟩ (same)
 ·refine h_exit ?_
  refine q_thenE ?_
  refine q_thenE ?_
  refine q_blockE ?_
  refine q_then ?_
  refine yR ?_
  refine yM rfl ?_
  refine yS rfl ?_
  refine yN ?_
  refine h_ret ?_
  obtain rfl : k = l.length := by omega
  exact h_ret1 rfl rfl fun w s => ⟨(), by rw [List.take_length], s.res (List.nil_sublist _) (by simp)⟩
theorem Blocks_s (m : Nat) (h : m ≤ 1000000000000) : Spec Tryz.prog 186 [.int .i64 (m : Int)].toArray [] [] (fun _ : Unit => .int .i64 (((m + 72) / 64 : Nat) : Int)) (fun _ => []) := by
 refine spec_of Tryz.func186 rfl (n := 13) rfl rfl ?_
 intro W
 refine yR ?_
 refine yS rfl ?_
 refine yN ?_
 refine h_seq ?_
 refine yR ?_
 refine yM rfl ?_
 refine h_op (r_bool (r_lss rfl rfl) (decide_eq_false (by omega))) ?_
 refine yM rfl ?_
 refine yM rfl ?_
 refine h_op (r_bool (r_gtr rfl rfl) (decide_eq_false (by omega))) ?_
 refine h_op (r_pick rfl rfl) ?_
 refine yN ?_
 refine h_condF rfl ?_
 refine h_skip ?_
 refine q_then ?_
 refine yR ?_
 refine yM rfl ?_
 refine h_op (r_add rfl rfl) ?_
 refine h_op (r_add rfl rfl) ?_
 refine h_op (r_int (r_quo rfl rfl) (show _ = (((m + 72) / 64 : Nat) : Int) by omega)) ?_
 refine yS rfl ?_
 refine yN ?_
 refine h_ret ?_
 exact h_ret1 rfl rfl fun w s => ⟨(), rfl, s.res (List.Sublist.refl _) (by simp)⟩
theorem padZ_eq (l : List UInt8) : (l ++ (List.replicate (padN l.length) (0 : UInt8)).drop l.length).set l.length (UInt8.ofBitVec 128) = padZ l := by
 have h := padN_ge l.length
 unfold padZ
 generalize padN l.length = p at *
 rw [List.set_append_right _ _ (Nat.le_refl _), Nat.sub_self, List.drop_replicate]
 obtain ⟨q, hq⟩ : ∃ q, p - l.length = q + 1 := ⟨p - l.length - 1, by omega⟩
 rw [hq, List.replicate_succ, List.set_cons_zero]
 rfl
theorem lenB_eq (n i : Nat) (h : i ≤ 7) (hn : n ≤ 1000000000000) : UInt8.ofBitVec (((BitVec.ofNat 64 n * 8) >>> (8 * i)).setWidth 8) = lenB n (7 - i) := by
 unfold lenB
 rw [show 7 - (7 - i) = i by omega, show BitVec.ofNat 64 n * 8 = BitVec.ofNat 64 (8 * n) by rw [Nat.mul_comm, BitVec.ofNat_mul]; rfl]
theorem Pad_s (l : List UInt8) (A : Option Addr) (c : Nat) (hA : A = none → l.length = 0 ∧ c = 0) (hn : l.length ≤ 100000000000) : Spec Tryz.prog 133 [.slice A l.length c].toArray [.rd A (bc l)] [] (fun u : Nat × Nat => .slice (some ⟨u.1, 0, none⟩) (pad l).length u.2) (fun u => [.own (.slice (some ⟨u.1, 0, none⟩) (pad l).length u.2) (pad l).length 5 1 (bc (pad l))]) := by
 rw [← padI_8, padI_len]
 have hp : 64 * ((l.length + 72) / 64) = padN l.length := rfl
 have hp2 := padN_ge l.length
 have hp3 : padN l.length ≤ l.length + 72 := by unfold padN; omega
 have hz := padZ_eq l
 have h8 := padI_len l
 have hst : ∀ i, i < 8 → padI l (i + 1) = (padI l i).set (padN l.length - 1 - i) (lenB l.length (7 - i)) := fun i _ => by rw [padI]
 have h0 : padI l 0 = padZ l := rfl
 generalize padN l.length = p at *
 obtain ⟨q, hq⟩ : ∃ q, q = l ++ List.drop l.length (List.replicate p 0) := ⟨_, rfl⟩
 have hql : q.length = p := by rw [hq, List.length_append, List.length_drop, List.length_replicate]; omega
 rw [← hq] at hz
 refine spec_of Tryz.func133 rfl (n := 39) rfl rfl ?_
 intro W
 refine yR ?_
 refine yS rfl ?_
 refine yN ?_
 refine yR ?_
 refine yM rfl ?_
 refine h_op (r_len rfl) ?_
 refine h_call ((Blocks_s l.length (by omega)).comes) rfl rfl rfl fun _ => ?_
 refine h_op (r_int (r_mul rfl rfl) (show _ = (p : Int) by omega)) ?_
 refine h_opX (x_makeB rfl rfl) fun g10 => ?_
 refine yS rfl ?_
 refine yN ?_
 refine yR ?_
 refine yM rfl ?_
 refine yM rfl ?_
 refine h_opX (x_copyB rfl rfl (fun e => (hA e).1) rfl) fun _ => ?_
 refine yN ?_
 refine yR ?_
 refine yM rfl ?_
 refine yM rfl ?_
 refine h_op (r_len rfl) ?_
 rw [← hq]
 refine h_op (r_idx rfl rfl) ?_
 refine h_opS (s_setBO rfl rfl) ?_
 refine yN ?_
 refine yR ?_
 refine yM rfl ?_
 refine h_op (r_len rfl) ?_
 refine h_op (r_cNW rfl) ?_
 refine h_op (r_mulW rfl rfl) ?_
 refine yS rfl ?_
 refine yN ?_
 refine h_seq ?_
 refine yR ?_
 refine yM rfl ?_
 refine yN ?_
 refine h_block ?_
 rw [hz]
 refine h_loop (fun (i : Nat) => i ≤ 8) (fun (i : Nat) => [(22, .int .i64 (i : Int)), (3, .slice (some ⟨g10, 0, none⟩) p p), (4, .int .u64 ((BitVec.ofNat 64 l.length * 8).toNat : Int))]) (fun (i : Nat) => [.own (.slice (some ⟨g10, 0, none⟩) p p) p 5 1 (bc (padI l i))]) (fun (i : Nat) => 8 - i) 0 (by omega) ⟨rfl, rfl, rfl, trivial⟩ (by rw [h0]; exact same) ?_
 intro i hi
 have hl := h8 i
 refine yR ?_
 refine h_op (r_lss rfl rfl) ?_
 refine yN ?_
 refine h_seq ?_
 refine h_cond rfl (fun h => ?_) (fun h => ?_)
 ·refine h_skip ?_
  refine q_then ?_
  refine h_seq ?_
  refine h_block ?_
  refine yR ?_
  refine yM rfl ?_
  refine yS rfl ?_
  refine yN ?_
  refine h_reg ?_
  refine yM rfl ?_
  refine yM rfl ?_
  refine h_op (r_len rfl) ?_
  refine h_op (r_subN rfl rfl) ?_
  refine yM rfl ?_
  refine h_op (r_subN rfl rfl) ?_
  refine yM rfl ?_
  refine yM rfl ?_
  refine h_op (r_mul rfl rfl) ?_
  refine h_op (r_shr rfl rfl) ?_
  refine h_op (r_cW rfl) ?_
  refine h_op (r_idx rfl rfl) ?_
  refine h_opS (s_setBO rfl rfl) ?_
  refine h_nil ?_
  refine q_block ?_
  refine q_then ?_
  rw [lenB_eq l.length i (by omega) (by omega), ← hst i (by omega)]
  refine h_reg ?_
  refine h_op (r_add rfl rfl) ?_
  refine yM rfl ?_
  refine h_nil ?_
  exact h_back (i + 1) (by omega) (by omega) ⟨rfl, rfl, rfl, trivial⟩ (same)
 ·refine h_exit ?_
  refine q_thenE ?_
  refine q_thenE ?_
  refine q_blockE ?_
  refine q_then ?_
  refine yR ?_
  refine yM rfl ?_
  refine yS rfl ?_
  refine yN ?_
  refine h_ret ?_
  obtain rfl : i = 8 := by omega
  exact h_ret1 rfl rfl fun w s => ⟨(g10, p), rfl, s.res (List.Sublist.refl _) (by simp [Fa.wr])⟩
end Go.Proofs.YtjhocljhhpkiiaaGreatDoor
