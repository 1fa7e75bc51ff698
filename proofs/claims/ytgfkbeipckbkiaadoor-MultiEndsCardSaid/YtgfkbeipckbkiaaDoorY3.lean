/- The judgement: what is known of the slots and of the world, ahead of a piece of code; the rules of control, of an operation, of a call, of a result; Operations that leave the world, one lemma each; Arguments opened, over any program; a table of words that the program's text lays; Operations that turn the world, one lemma each (joined texts: N2 N3 C1 N4) -/
import Derived.Test.YtgfkbeipckbkiaaDoorY2
import Derived.RangeFuncNested
import Derived.RangeFuncCalls
import Derived.RangeFuncLeaves
import Derived.OrdersIn
import Derived.ProofKit
set_option linter.all false
/- N2 -/
namespace Go.Proofs.YtgfkbeipckbkiaaDoor
set_option linter.unusedSimpArgs false
set_option linter.unusedVariables false
open Go.RowKit
def FR (ro : Option Nat) : Fence := { Fence.wide with round := ro }
theorem calls_FR {ro : Option Nat} {n : Nat} {P : Program} {f : FuncId} {args : Array Value} {w : World} {R : Ending → World → Prop} (h : Calls P f args w R) : CallsIn (FR ro) n P f args w R := by
  cases ro with
  | none => exact callsIn_wide.2 h
  | some l => exact CallsIn.inRound l (callsIn_wide.2 h)
abbrev Env := List (Nat × Value)
def look : Env → Nat → Option Value
  | [], _ => none
  | (s, v) :: E, t => bif Nat.beq s t then some v else look E t
def ev (E : Env) : Operand → Option Value
  | .tmp t => look E t
  | .const v => some v
  | .global g => some (.pointer (some ⟨g, 0, none⟩))
  | .func f => some (.func (.func f) #[] #[])
def evs (E : Env) : List Operand → Option (List Value)
  | [] => some []
  | x :: l => (ev E x).bind fun v => (evs E l).bind fun vs => some (v :: vs)
def evp (E : Env) : List (Nat × Operand) → Option (List (Nat × Value))
  | [] => some []
  | (i, x) :: l => (ev E x).bind fun v => (evp E l).bind fun vs => some ((i, v) :: vs)
structure Kn (n : Nat) (D : List Deferred) (E : Env) (a : Act) : Prop where
  size : a.tmps.size = n
  defers : a.defers = D
  val : ∀ t v, look E t = some v → a.tmps[t]? = some v
section
variable {n : Nat} {D : List Deferred} {E : Env} {a : Act}
theorem Kn.ev (h : Kn n D E a) {x : Operand} {v : Value} (hx : ev E x = some v) : a.eval x = v := by
  cases x with
  | tmp t => have := h.val t v hx; simp [Act.eval, this]
  | const u => injection hx
  | global g => injection hx
  | func f => injection hx
theorem Kn.evs (h : Kn n D E a) : ∀ {l : List Operand} {vs : List Value}, evs E l = some vs → l.map a.eval = vs
  | [], vs, hx => by cases hx; rfl
  | x :: l, vs, hx => by
    unfold Go.Proofs.YtgfkbeipckbkiaaDoor.evs at hx
    cases h1 : Go.Proofs.YtgfkbeipckbkiaaDoor.ev E x with
    | none => rw [h1] at hx; cases hx
    | some v =>
      cases h2 : Go.Proofs.YtgfkbeipckbkiaaDoor.evs E l with
      | none => rw [h1, h2] at hx; cases hx
      | some us =>
        rw [h1, h2] at hx
        injection hx with hx
        subst hx
        rw [List.map_cons, h.ev h1, h.evs h2]
theorem Kn.evp (h : Kn n D E a) : ∀ {l : List (Nat × Operand)} {vs : List (Nat × Value)}, evp E l = some vs → (l.map fun p => (p.1, a.eval p.2)) = vs
  | [], vs, hx => by cases hx; rfl
  | (i, x) :: l, vs, hx => by
    unfold Go.Proofs.YtgfkbeipckbkiaaDoor.evp at hx
    cases h1 : Go.Proofs.YtgfkbeipckbkiaaDoor.ev E x with
    | none => rw [h1] at hx; cases hx
    | some v =>
      cases h2 : Go.Proofs.YtgfkbeipckbkiaaDoor.evp E l with
      | none => rw [h1, h2] at hx; cases hx
      | some us =>
        rw [h1, h2] at hx
        injection hx with hx
        subst hx
        rw [List.map_cons, h.ev h1, h.evp h2]
theorem Kn.put (h : Kn n D E a) {d : Nat} (hd : Nat.blt d n = true) (v : Value) : Kn n D ((d, v) :: E) (a.put (some d) v) := by
  have hd' : d < n := by simpa [Nat.blt_eq] using hd
  refine ⟨by simp [Act.put, h.size], h.defers, fun t u ht => ?_⟩
  show (a.tmps.setIfInBounds d v)[t]? = some u
  by_cases e : d = t
  · subst e
    have : look ((d, v) :: E) d = some v := by simp [look]
    rw [this] at ht
    injection ht with ht
    subst ht
    simp [h.size, hd']
  · have hb : Nat.beq d t = false := by rw [Bool.eq_false_iff]; intro hb; exact e (Nat.eq_of_beq_eq_true hb)
    have : look ((d, v) :: E) t = look E t := by simp [look, hb]
    rw [this] at ht
    rw [Array.getElem?_setIfInBounds_ne e]
    exact h.val t u ht
theorem Kn.putNone (h : Kn n D E a) (v : Value) : Kn n D E (a.put none v) := h
def agree : Env → Env → Prop
  | [], _ => True
  | (t, v) :: E', E => look E t = some v ∧ agree E' E
theorem agree.look : ∀ {E' E : Env}, agree E' E → ∀ t v, look E' t = some v → look E t = some v
  | [], _, _, _, _, h => by cases h
  | (s, u) :: E', E, ⟨h1, h2⟩, t, v, h => by
    unfold Go.Proofs.YtgfkbeipckbkiaaDoor.look at h
    cases hb : Nat.beq s t with
    | true =>
      rw [hb] at h
      injection h with h
      subst h
      rw [← Nat.eq_of_beq_eq_true hb]
      exact h1
    | false => rw [hb] at h; exact agree.look h2 t v h
theorem Kn.agree {E' : Env} (h : Kn n D E a) (hE : agree E' E) : Kn n D E' a := ⟨h.size, h.defers, fun t v ht => h.val t v (hE.look t v ht)⟩
theorem aI {t : Nat} {k : IntKind} {i j : Int} (h : look E t = some (.int k i)) (e : i = j) : look E t = some (.int k j) := e ▸ h
end
/-- the judgement -/
def H (A : List Fa) (W : World) (n : Nat) (D : List Deferred) (E : Env) (L : List Fa) (K : Act → World → Prop) : Prop := ∀ a w, Kn n D E a → Sx A W w L → K a w
section
variable {A : List Fa} {W : World} {n : Nat} {D : List Deferred} {E : Env} {L : List Fa} {P : Program} {ro : Option Nat} {Q : Exit → Act → World → Prop} {K : Act → World → Prop}
/-! ### control -/
theorem h_seq {x y : Code} (h : H A W n D E L (x.wpIn (FR ro) 0 P (Exit.then (y.wpIn (FR ro) 0 P Q) Q))) : H A W n D E L ((Code.seq x y).wpIn (FR ro) 0 P Q) := fun a w k s => wpIn_seq (h a w k s)
theorem h_skip (h : H A W n D E L (Q .normal)) : H A W n D E L (Code.skip.wpIn (FR ro) 0 P Q) := fun a w k s => wpIn_skip (h a w k s)
theorem h_ret (h : H A W n D E L (Q .ret)) : H A W n D E L (Code.ret.wpIn (FR ro) 0 P Q) := fun a w k s => wpIn_ret (h a w k s)
theorem h_exit {id : Nat} (h : H A W n D E L (Q (.exit id))) : H A W n D E L ((Code.exit id).wpIn (FR ro) 0 P Q) := fun a w k s => wpIn_exit (h a w k s)
theorem h_block {id : Nat} {c : Code} (h : H A W n D E L (c.wpIn (FR ro) 0 P (Exit.inBlock id Q))) : H A W n D E L ((Code.block id c).wpIn (FR ro) 0 P Q) := fun a w k s => wpIn_block (h a w k s)
theorem h_condT {c : Operand} {x y : Code} (hc : ev E c = some (.bool true)) (h : H A W n D E L (x.wpIn (FR ro) 0 P Q)) : H A W n D E L ((Code.cond c x y).wpIn (FR ro) 0 P Q) := fun a w k s => wpIn_cond_true (k.ev hc) (h a w k s)
theorem h_condF {c : Operand} {x y : Code} (hc : ev E c = some (.bool false)) (h : H A W n D E L (y.wpIn (FR ro) 0 P Q)) : H A W n D E L ((Code.cond c x y).wpIn (FR ro) 0 P Q) := fun a w k s => wpIn_cond_false (k.ev hc) (h a w k s)
theorem h_condB {c : Operand} {x y : Code} {b : Bool} (hc : ev E c = some (.bool b)) (ht : b = true → H A W n D E L (x.wpIn (FR ro) 0 P Q)) (hf : b = false → H A W n D E L (y.wpIn (FR ro) 0 P Q)) : H A W n D E L ((Code.cond c x y).wpIn (FR ro) 0 P Q) := by
  cases b
  · exact h_condF hc (hf rfl)
  · exact h_condT hc (ht rfl)
theorem h_cond {c : Operand} {x y : Code} {p : Prop} [Decidable p] (hc : ev E c = some (.bool (decide p))) (ht : p → H A W n D E L (x.wpIn (FR ro) 0 P Q)) (hf : ¬ p → H A W n D E L (y.wpIn (FR ro) 0 P Q)) : H A W n D E L ((Code.cond c x y).wpIn (FR ro) 0 P Q) :=
  h_condB hc (fun h => ht (of_decide_eq_true h)) (fun h => hf (of_decide_eq_false h))
theorem h_yes {c : Operand} {x y : Code} {p : Prop} [Decidable p] (hc : ev E c = some (.bool (decide p))) (hp : p) (h : H A W n D E L (x.wpIn (FR ro) 0 P Q)) : H A W n D E L ((Code.cond c x y).wpIn (FR ro) 0 P Q) := h_cond hc (fun _ => h) (fun hn => (hn hp).elim)
theorem h_no {c : Operand} {x y : Code} {p : Prop} [Decidable p] (hc : ev E c = some (.bool (decide p))) (hp : ¬ p) (h : H A W n D E L (y.wpIn (FR ro) 0 P Q)) : H A W n D E L ((Code.cond c x y).wpIn (FR ro) 0 P Q) := h_cond hc (fun hn => (hp hn).elim) (fun _ => h)
theorem q_then {K : Act → World → Prop} (h : H A W n D E L K) : H A W n D E L (Exit.then K Q .normal) := h
theorem q_thenR {K : Act → World → Prop} (h : H A W n D E L (Q .ret)) : H A W n D E L (Exit.then K Q .ret) := h
theorem q_thenE {K : Act → World → Prop} {id : Nat} (h : H A W n D E L (Q (.exit id))) : H A W n D E L (Exit.then K Q (.exit id)) := h
theorem q_block {id : Nat} (h : H A W n D E L (Q .normal)) : H A W n D E L (Exit.inBlock id Q .normal) := h
theorem q_blockR {id : Nat} (h : H A W n D E L (Q .ret)) : H A W n D E L (Exit.inBlock id Q .ret) := h
theorem q_blockE {id : Nat} (h : H A W n D E L (Q .normal)) : H A W n D E L (Exit.inBlock id Q (.exit id)) := fun a w k s => by
  show (if id = id then Q .normal a w else _)
  rw [if_pos rfl]
  exact h a w k s
/-! ### what is known is put otherwise -/
theorem h_L {L' : List Fa} (hL : ∀ w, Sx A W w L → Sx A W w L') (h : H A W n D E L' K) : H A W n D E L K := fun a w k s => h a w k (hL w s)
theorem h_E {E' : Env} (hE : agree E' E) (h : H A W n D E' L K) : H A W n D E L K := fun a w k s => h a w (k.agree hE) s
theorem h_pure {φ : Prop} (hφ : ∀ w, Sx A W w L → φ) (h : φ → H A W n D E L K) : H A W n D E L K := fun a w k s => h (hφ w s) a w k s
/-! ### regions in the text's order -/
theorem h_reg {id : Nat} {l : List Oper} (h : H A W n D E L (wpListIn (FR ro) 0 P l.toArray Q l)) : H A W n D E L ((Code.region id l.toArray false).wpIn (FR ro) 0 P Q) := fun a w k s => wpIn_region_lit (h a w k s)
theorem h_nil {ops : Array Oper} (h : H A W n D E L (Q .normal)) : H A W n D E L (wpListIn (FR ro) 0 P ops Q []) := h
def wn (ops : Array Oper) (E : Env) : Option (Nat × Bool) → Option Bool
  | none => some true
  | some (j, b) => match (ops[j]?).bind (·.dst) with
    | some t => match look E t with
      | some (.bool c) => some (c == b)
      | some (.tuple _) => some false
      | _ => none
    | none => none
theorem wn_run {a : Act} {ops : Array Oper} {g : Option (Nat × Bool)} {c : Bool} (k : Kn n D E a) (h : wn ops E g = some c) {d : Option Tmp} {op : Op} {ty : TypeId} {pos : String} {af : Array Edge} : Region.wanted ⟨d, op, ty, pos, af, g⟩ (yielded ops a.tmps) = c := by
  cases g with
  | none => injection h
  | some jb =>
    obtain ⟨j, b⟩ := jb
    unfold wn at h
    simp only at h
    split at h
    · rename_i t ht
      split at h
      · rename_i c' hc
        injection h with h
        have hv := k.val t _ hc
        simp only [Region.wanted, yielded, ht, Option.bind_some, hv]
        rw [← h]
        cases c' <;> cases b <;> rfl
      · rename_i c' hc
        injection h with h
        have hv := k.val t _ hc
        simp only [Region.wanted, yielded, ht, Option.bind_some, hv]
        rw [← h]
        rfl
      · cases h
    · cases h
theorem semAt_ok {ρ : Operand → Value} {o : Oper} {w w' : World} {x : Next} (hx : ∀ d, x ≠ .defer d) (h : (execOp ρ o).run P w = .ok x w') : (o.semAt ro ρ).run P w = .ok x w' := by
  cases ro with
  | none => exact h
  | some l =>
    rw [Oper.semAt_some l ρ o]
    · exact h
    · intro c hc
      unfold execOp at h
      simp only [hc, Sem.run_bind] at h
      cases hr : (resolve ρ c o.type).run P w with
      | ok d w1 => rw [hr] at h; injection h with h; exact hx d h.symm
      | halt e w1 => rw [hr] at h; cases h
theorem wpIn_val {o : Oper} {a : Act} {w w' : World} {v : Value} {K : Act → World → Prop} (h : (execOp a.eval o).run P w = .ok (.value v) w') (hK : K (a.put o.dst v) w') : o.wpIn (FR ro) 0 P a w K Q := by
  refine ⟨fun _ _ => trivial, ?_⟩
  rw [show (FR ro).round = ro from rfl, semAt_ok (by simp) h]
  exact hK
theorem wpIn_skp {o : Oper} {a : Act} {w w' : World} {K : Act → World → Prop} (h : (execOp a.eval o).run P w = .ok .skip w') (hK : K (a.put o.dst undef) w') : o.wpIn (FR ro) 0 P a w K Q := by
  refine ⟨fun _ _ => trivial, ?_⟩
  rw [show (FR ro).round = ro from rfl, semAt_ok (by simp) h]
  exact hK
theorem wpIn_ent {o : Oper} {a : Act} {w w' : World} {f : FuncId} {args : Array Value} {K : Act → World → Prop} {R : Ending → World → Prop} (h : (execOp a.eval o).run P w = .ok (.enter f args) w') (hc : Calls P f args w' R) (hK : ∀ e w'', R e w'' → ∃ v, e = .returned v ∧ K (a.put o.dst v) w'') : o.wpIn (FR ro) 0 P a w K Q := by
  refine ⟨fun _ _ => trivial, ?_⟩
  rw [show (FR ro).round = ro from rfl, semAt_ok (by simp) h]
  refine ⟨(fun hd => by cases hd), (calls_FR hc).mono fun e w'' hR => ?_⟩
  obtain ⟨v, rfl, h2⟩ := hK e w'' hR
  exact h2
/-- an operation that yields its value and leaves the world -/
def Runs0 (P : Program) (n : Nat) (D : List Deferred) (E : Env) (L : List Fa) (op : Op) (v : Value) : Prop := ∀ a w, Kn n D E a → Fx w L → ∀ o : Oper, o.op = op → (execOp a.eval o).run P w = .ok (.value v) w
/-- one that turns the world -/
def RunsX (P : Program) (A : List Fa) (W : World) (n : Nat) (D : List Deferred) (E : Env) (L : List Fa) (op : Op) {τ : Type} (v : τ → Value) (L' : τ → List Fa) : Prop :=
  ∀ a w, Kn n D E a → Sx A W w L → ∀ o : Oper, o.op = op → ∃ x w', (execOp a.eval o).run P w = .ok (.value (v x)) w' ∧ Sx A W w' (L' x)
def RunsS (P : Program) (A : List Fa) (W : World) (n : Nat) (D : List Deferred) (E : Env) (L : List Fa) (op : Op) (L' : List Fa) : Prop :=
  ∀ a w, Kn n D E a → Sx A W w L → ∀ o : Oper, o.op = op → ∃ w', (execOp a.eval o).run P w = .ok .skip w' ∧ Sx A W w' L'
variable {ops : Array Oper} {rest : List Oper} {op : Op} {d : Nat} {ty : TypeId} {pos : String} {af : Array Edge} {g : Option (Nat × Bool)}
theorem h_op {v : Value} (hr : Runs0 P n D E L op v) (k : H A W n D ((d, v) :: E) L (wpListIn (FR ro) 0 P ops Q rest)) (hd : Nat.blt d n = true := by exact rfl) (hg : wn ops E g = some true := by exact rfl) : H A W n D E L (wpListIn (FR ro) 0 P ops Q (⟨some d, op, ty, pos, af, g⟩ :: rest)) := fun a w ka s => by
  unfold wpListIn
  rw [wn_run ka hg, if_pos rfl]
  exact wpIn_val (hr a w ka s.toFx _ rfl) (k _ _ (ka.put hd v) s)
theorem about_none {o : Oper} {a : Act} {w : World} : ∀ f, o.about P w a.eval = some f → (FR ro).fn f := fun _ _ => trivial
theorem h_opOff (k : H A W n D ((d, undef) :: E) L (wpListIn (FR ro) 0 P ops Q rest)) (hd : Nat.blt d n = true := by exact rfl) (hg : wn ops E g = some false := by exact rfl) : H A W n D E L (wpListIn (FR ro) 0 P ops Q (⟨some d, op, ty, pos, af, g⟩ :: rest)) := fun a w ka s => by
  unfold wpListIn
  rw [wn_run ka hg]
  exact ⟨about_none, k _ _ (ka.put hd undef) s⟩
theorem h_opX {τ : Type} {v : τ → Value} {L' : τ → List Fa} (hr : RunsX P A W n D E L op v L') (k : ∀ x, H A W n D ((d, v x) :: E) (L' x) (wpListIn (FR ro) 0 P ops Q rest)) (hd : Nat.blt d n = true := by exact rfl) (hg : wn ops E g = some true := by exact rfl) : H A W n D E L (wpListIn (FR ro) 0 P ops Q (⟨some d, op, ty, pos, af, g⟩ :: rest)) := fun a w ka s => by
  unfold wpListIn
  rw [wn_run ka hg, if_pos rfl]
  obtain ⟨x, w', h1, h2⟩ := hr a w ka s ⟨some d, op, ty, pos, af, g⟩ rfl
  exact wpIn_val h1 (k x _ _ (ka.put hd _) h2)
theorem h_opS {L' : List Fa} (hr : RunsS P A W n D E L op L') (k : H A W n D E L' (wpListIn (FR ro) 0 P ops Q rest)) (hg : wn ops E g = some true := by exact rfl) : H A W n D E L (wpListIn (FR ro) 0 P ops Q (⟨none, op, ty, pos, af, g⟩ :: rest)) := fun a w ka s => by
  unfold wpListIn
  rw [wn_run ka hg, if_pos rfl]
  obtain ⟨w', h1, h2⟩ := hr a w ka s ⟨none, op, ty, pos, af, g⟩ rfl
  exact wpIn_skp h1 (k _ _ (ka.putNone _) h2)
/-! ### calls -/
class Ent (P : Program) (f : FuncId) : Prop where
  ok : ∀ args w, (callFunc f args).run P w = .ok (.enter f args) w
class App (N M : List Fa) (L' : outParam (List Fa)) : Prop where
  eq : N ++ M = L'
instance (M : List Fa) : App [] M M := ⟨rfl⟩
instance (f : Fa) (N M L' : List Fa) [h : App N M L'] : App (f :: N) M (f :: L') := ⟨by rw [List.cons_append, h.eq]⟩
theorem x_call {a : Act} {w : World} {o : Oper} {x : Operand} {l : List Operand} {ts : Array TypeId} {f : FuncId} {fi cap argv : List Value} [he : Ent P f] (ka : Kn n D E a) (ho : o.op = .call ⟨.value x, l.toArray, ts⟩) (hx : ev E x = some (.func (.func f) fi.toArray cap.toArray)) (ha : evs E l = some argv) :
    (execOp a.eval o).run P w = .ok (.enter f (fi ++ (argv ++ cap)).toArray) w := by
  unfold execOp
  simp only [ho, resolve, ka.ev hx, Deferred.ofValue, Sem.run_bind, Sem.run_pure, Result.andThen_ok, invoke]
  rw [List.map_toArray, ka.evs ha, show (fi.toArray ++ argv.toArray ++ cap.toArray : Array Value) = (fi ++ (argv ++ cap)).toArray by simp]
  exact he.ok _ _
/-- what a call brings, over the caller's facts -/
def Comes (P : Program) (A : List Fa) (W : World) (L : List Fa) (f : FuncId) (args : Array Value) {τ : Type} (v : τ → Value) (L' : τ → List Fa) : Prop := ∀ w, Sx A W w L → Calls P f args w fun e w' => ∃ x, e = .returned (v x) ∧ Sx A W w' (L' x)
theorem Spec.comes {f : FuncId} {args : Array Value} {R A' M : List Fa} {τ : Type} {v : τ → Value} {N L' : τ → List Fa} (hs : Spec P f args R A' v N) [ht : Take A' L M] [hr : Rds M R] [hN : ∀ x, App (N x) M (L' x)] : Comes P A W L f args v L' := fun w s => by
  have s2 := s.perm ht.perm
  refine (hs w (s2.toFx.sub (List.sublist_append_left _ _)) (s.reads ht.perm hr)).mono ?_
  rintro e w' ⟨x, rfl, hx⟩
  exact ⟨x, rfl, ((hN x).eq) ▸ s2.ret hx⟩
theorem h_call {x : Operand} {l : List Operand} {ts : Array TypeId} {f : FuncId} {fi cap argv args : List Value} [Ent P f] {τ : Type} {v : τ → Value} {L' : τ → List Fa} (hc : Comes P A W L f args.toArray v L') (hx : ev E x = some (.func (.func f) fi.toArray cap.toArray)) (ha : evs E l = some argv) (he : fi ++ (argv ++ cap) = args)
    (k : ∀ x, H A W n D ((d, v x) :: E) (L' x) (wpListIn (FR ro) 0 P ops Q rest)) (hd : Nat.blt d n = true := by exact rfl) (hg : wn ops E g = some true := by exact rfl) : H A W n D E L (wpListIn (FR ro) 0 P ops Q (⟨some d, .call ⟨.value x, l.toArray, ts⟩, ty, pos, af, g⟩ :: rest)) := fun a w ka s => by
  unfold wpListIn
  rw [wn_run ka hg, if_pos rfl]
  refine wpIn_ent (x_call ka rfl hx ha) (he ▸ hc w s) ?_
  rintro e w' ⟨y, rfl, hy⟩
  exact ⟨_, rfl, k y _ _ (ka.put hd _) hy⟩
/-! ### loops -/
theorem wpIn_ghost {σ : Type} {F : Fence} {m : Nat} {c : Code} (I : σ → Act → World → Prop) (μ : σ → Nat) (round : ∀ s a w, I s a w → c.wpIn F m P (Exit.then (fun a' w' => ∃ s', I s' a' w' ∧ μ s' < μ s) Q) a w) : ∀ (j : Nat) (s : σ), μ s ≤ j → ∀ a w, I s a w → (Code.loop c).wpIn F m P Q a w := by
  have key : ∀ (j : Nat) (s : σ), μ s ≤ j → ∀ a w, I s a w → ∀ b k cs, b.roundOf = F.round → F.fn b.fn → F.room (cs.length + 1 + m) → ∃ e a' w', Q e a' w' ∧ ArrivesIn (Machine.fenced P F) P (lone (b.atR a (.code c :: .inLoop c :: k)) cs w) b k cs e a' w' := by
    intro j
    induction j with
    | zero =>
      intro s hs a w hI b k cs hro hb hr
      obtain ⟨e, a₁, w₁, hq, harr⟩ := round s a w hI b (.inLoop c :: k) cs hro hb hr
      cases e with
      | normal => obtain ⟨s', _, h2⟩ := hq; omega
      | exit id => exact ⟨_, a₁, w₁, hq, .pass (x := .inLoop c) rfl (fun _ _ => .inl (by simp)) harr⟩
      | goto l => exact ⟨_, a₁, w₁, hq, .pass (x := .inLoop c) rfl (fun _ _ => .inl (by simp)) harr⟩
      | ret => exact ⟨_, a₁, w₁, hq, .pass (x := .inLoop c) rfl (fun _ _ => .inl (by simp)) harr⟩
      | panic ch => exact ⟨_, a₁, w₁, hq, .pass (x := .inLoop c) rfl (fun _ _ => .inl (by simp)) harr⟩
      | outgrown => exact ⟨_, a₁, w₁, hq, .pass (x := .inLoop c) rfl (fun _ _ => .inl (by simp)) harr⟩
    | succ j ih =>
      intro s hs a w hI b k cs hro hb hr
      obtain ⟨e, a₁, w₁, hq, harr⟩ := round s a w hI b (.inLoop c :: k) cs hro hb hr
      cases e with
      | normal =>
        obtain ⟨s', hI₁, hlt⟩ := hq
        obtain ⟨e₂, a₂, w₂, hq₂, harr₂⟩ := ih s' (by omega) a₁ w₁ hI₁ b k cs hro hb hr
        exact ⟨e₂, a₂, w₂, hq₂, .of_steps (StepsIn.trans harr (.one (fenced_calm hb hr rfl) stepR_inLoop)) harr₂⟩
      | exit id => exact ⟨_, a₁, w₁, hq, .pass (x := .inLoop c) rfl (fun _ _ => .inl (by simp)) harr⟩
      | goto l => exact ⟨_, a₁, w₁, hq, .pass (x := .inLoop c) rfl (fun _ _ => .inl (by simp)) harr⟩
      | ret => exact ⟨_, a₁, w₁, hq, .pass (x := .inLoop c) rfl (fun _ _ => .inl (by simp)) harr⟩
      | panic ch => exact ⟨_, a₁, w₁, hq, .pass (x := .inLoop c) rfl (fun _ _ => .inl (by simp)) harr⟩
      | outgrown => exact ⟨_, a₁, w₁, hq, .pass (x := .inLoop c) rfl (fun _ _ => .inl (by simp)) harr⟩
  intro j s hs a w hI b k cs hro hb hr
  obtain ⟨e, a', w', hq, harr⟩ := key j s hs a w hI b k cs hro hb hr
  exact ⟨e, a', w', hq, .of_steps (.one (fenced_calm hb hr rfl) stepR_loop) harr⟩
/-- the round's end -/
def Back (A : List Fa) (W : World) (n : Nat) (D : List Deferred) {σ : Type} (p : σ → Prop) (Es : σ → Env) (Ls : σ → List Fa) (μ : σ → Nat) (s : σ) (a : Act) (w : World) : Prop := ∃ s', (p s' ∧ Kn n D (Es s') a ∧ Sx A W w (Ls s')) ∧ μ s' < μ s
theorem h_loop {σ : Type} {c : Code} (p : σ → Prop) (Es : σ → Env) (Ls : σ → List Fa) (μ : σ → Nat) (s : σ) (h0 : p s) (hE : agree (Es s) E) (hL : ∀ w, Sx A W w L → Sx A W w (Ls s))
    (round : ∀ s, p s → H A W n D (Es s) (Ls s) (c.wpIn (FR ro) 0 P (Exit.then (Back A W n D p Es Ls μ s) Q))) : H A W n D E L ((Code.loop c).wpIn (FR ro) 0 P Q) := fun a w ka sa =>
  wpIn_ghost (fun s a w => p s ∧ Kn n D (Es s) a ∧ Sx A W w (Ls s)) μ (fun s a w ⟨h1, h2, h3⟩ => round s h1 a w h2 h3) (μ s) s (Nat.le_refl _) a w ⟨h0, ka.agree hE, hL w sa⟩
theorem h_back {σ : Type} {p : σ → Prop} {Es : σ → Env} {Ls : σ → List Fa} {μ : σ → Nat} {s : σ} (s' : σ) (hp : p s') (hm : μ s' < μ s) (hE : agree (Es s') E) (hL : ∀ w, Sx A W w L → Sx A W w (Ls s')) : H A W n D E L (Exit.then (Back A W n D p Es Ls μ s) Q .normal) := fun _ w ka sa =>
  ⟨s', ⟨hp, ka.agree hE, hL w sa⟩, hm⟩
theorem same {L' : List Fa} {M : List Fa} [ht : Take L' L M] : ∀ w, Sx A W w L → Sx A W w L' := fun _ s => (s.perm ht.perm).sub (List.sublist_append_left _ _)
/-! ### results -/
def ResV (P : Program) (E : Env) (L : List Fa) : ResultVar → Value → Prop
  | .tmp t, v => look E t = some v
  | .cell p T, v => ∃ g off, look E p = some (.pointer (some ⟨g, off, none⟩)) ∧ ∀ w, Fx w L → (loadVar T ⟨g, off, none⟩).run P w = .ok v w
theorem rv_row {p : Tmp} {T m g off o : Nat} {cs out : List Value} (hp : look E p = some (.pointer (some ⟨g, off, none⟩))) [hT : TRow P T m] [hc : Cells g off L o cs] [hr : RowAt cs o m out] : ResV P E L (.cell p T) (.agg out.toArray) := ⟨g, off, hp, fun w hw => by
  obtain ⟨d, hu, hd⟩ := hT.und
  exact run_loadVar_mid w g off T out d (fun j v hv => hc.cell hw j v (hr.at_ j v hv)) hu hd (by rw [hr.len]; exact hT.size)⟩
theorem resV_tmp {a : Act} {t : Tmp} {v : Value} (ka : Kn n D E a) (h : ResV P E L (.tmp t) v) : a.tmps.getD t undef = v := ka.ev (x := .tmp t) h
theorem resV_cell {a : Act} {w : World} {p : Tmp} {T : TypeId} {v : Value} (ka : Kn n D E a) (hw : Fx w L) (h : ResV P E L (.cell p T) v) : ∃ b, a.tmps.getD p undef = .pointer (some b) ∧ (loadVar T b).run P w = .ok v w := by
  obtain ⟨g, off, h1, h2⟩ := h
  exact ⟨_, ka.ev (x := .tmp p) h1, h2 w hw⟩
theorem results1 {fn : Func} {a : Act} {w : World} {r : ResultVar} {v : Value} (ka : Kn n D E a) (hw : Fx w L) (hf : fn.results = #[r]) (h : ResV P E L r v) : (results fn a.tmps).run P w = .ok v w := by
  cases r with
  | tmp t => have := resV_tmp ka h; rw [Array.getD_eq_getD_getElem?] at this; simp [results, hf, this]
  | cell p T => obtain ⟨b, h1, h2⟩ := resV_cell ka hw h; rw [Array.getD_eq_getD_getElem?] at h1; simp [results, hf, h1, asAddr, h2]
theorem results2 {fn : Func} {a : Act} {w : World} {r s : ResultVar} {v u : Value} (ka : Kn n D E a) (hw : Fx w L) (hf : fn.results = #[r, s]) (h : ResV P E L r v) (h' : ResV P E L s u) : (results fn a.tmps).run P w = .ok (.tuple #[v, u]) w := by
  cases r with
  | tmp t =>
    have h1 := resV_tmp ka h; rw [Array.getD_eq_getD_getElem?] at h1
    cases s with
    | tmp t => have h3 := resV_tmp ka h'; rw [Array.getD_eq_getD_getElem?] at h3; simp [results, hf, h1, h3]
    | cell p T => obtain ⟨b, h3, h4⟩ := resV_cell ka hw h'; rw [Array.getD_eq_getD_getElem?] at h3; simp [results, hf, h1, h3, asAddr, h4]
  | cell p T =>
    obtain ⟨b, h1, h2⟩ := resV_cell ka hw h; rw [Array.getD_eq_getD_getElem?] at h1
    cases s with
    | tmp t => have h3 := resV_tmp ka h'; rw [Array.getD_eq_getD_getElem?] at h3; simp [results, hf, h1, asAddr, h2, h3]
    | cell p T => obtain ⟨b, h3, h4⟩ := resV_cell ka hw h'; rw [Array.getD_eq_getD_getElem?] at h3; simp [results, hf, h1, asAddr, h2, h3, h4]
variable {fn : Func} {R : Ending → World → Prop} {F : Fence} {m : Nat}
theorem h_ret0 (hf : fn.results = #[]) (hR : ∀ w, Sx A W w L → R (.returned (.tuple #[])) w) : H A W n [] E L (bodyPostM F m P fn R .ret) := fun a w ka s => by
  show LeavesInM F m P fn a.tmps R a.defers .returning w
  rw [ka.defers]
  exact ⟨_, results_none hf _ _ _, hR w s⟩
theorem h_ret1 {r : ResultVar} {v : Value} (hf : fn.results = #[r]) (h : ResV P E L r v) (hR : ∀ w, Sx A W w L → R (.returned v) w) : H A W n [] E L (bodyPostM F m P fn R .ret) := fun a w ka s => by
  show LeavesInM F m P fn a.tmps R a.defers .returning w
  rw [ka.defers]
  exact ⟨v, results1 ka s.toFx hf h, hR w s⟩
theorem h_ret2 {r r' : ResultVar} {v u : Value} (hf : fn.results = #[r, r']) (h : ResV P E L r v) (h' : ResV P E L r' u) (hR : ∀ w, Sx A W w L → R (.returned (.tuple #[v, u])) w) : H A W n [] E L (bodyPostM F m P fn R .ret) := fun a w ka s => by
  show LeavesInM F m P fn a.tmps R a.defers .returning w
  rw [ka.defers]
  exact ⟨_, results2 ka s.toFx hf h h', hR w s⟩
theorem h_end (h : H A W n D E L (bodyPostM F m P fn R .ret)) : H A W n D E L (bodyPostM F m P fn R .normal) := h
/-- a loop over a function has left its mark -/
theorem h_mark {r : Nat} {as : Array Value} {M : List Fa} [ht : Take1 (.obj r (.deferred (some []))) L M] (h : H A W n D E M (bodyPostM F m P fn R .ret)) : H A W n ({ target := .collected r, args := as } :: D) E L (bodyPostM F m P fn R .ret) := fun a w ka s => by
  show LeavesInM F m P fn a.tmps R a.defers .returning w
  rw [ka.defers]
  have s2 := s.perm ht.perm
  have ho : w.heap[r]? = some (.deferred (some [])) := s2.ok (.obj _ _) (List.mem_cons_self ..)
  have hlt := (Array.getElem?_eq_some_iff.1 ho).1
  have s3 : Sx A W (w.putObj r (.deferred none)) (.obj r (.deferred none) :: M) := s2.turn rfl (fun k hk => .inl hk) (World.putObj_heap_same hlt) rfl rfl rfl (by simp [World.putObj]) (fun k _ hk => World.putObj_heap_other hk)
  exact ⟨by simp, .inl ⟨r, _, rfl, run_takeDeferred ho, h { a with defers := D } _ ⟨ka.size, rfl, ka.val⟩ s3.tail⟩⟩
end
/-! ### a function's contract out of its body -/
def argsEnv : Nat → List Value → Env
  | _, [] => []
  | k, v :: l => (k, v) :: argsEnv (k + 1) l
theorem argsEnv_look : ∀ (l : List Value) (k t : Nat) (v : Value), look (argsEnv k l) t = some v → k ≤ t ∧ l[t - k]? = some v
  | [], _, _, _, h => by cases h
  | u :: l, k, t, v, h => by
    unfold argsEnv look at h
    cases hb : Nat.beq k t with
    | true =>
      have e := Nat.eq_of_beq_eq_true hb
      rw [hb] at h
      injection h with h
      subst e
      subst h
      exact ⟨Nat.le_refl _, by simp⟩
    | false =>
      rw [hb] at h
      obtain ⟨h1, h2⟩ := argsEnv_look l (k + 1) t v h
      exact ⟨by omega, by rw [show t - k = t - (k + 1) + 1 by omega]; simpa using h2⟩
theorem spec_of {P : Program} {f n : Nat} {fn : Func} {c : Code} {args : List Value} {R A L : List Fa} {τ : Type} {v : τ → Value} {N : τ → List Fa} (hf : P.funcs[f]? = some fn) (hb : fn.body = some c) (hn : fn.ntmps = n) (hl : Nat.ble args.length n = true) [hL : App A R L]
    (h : ∀ W, H A W n [] (argsEnv 0 args) L (c.wpIn (FR none) 0 P (bodyPostM (FR none) 0 P fn fun e w' => ∃ x, e = .returned (v x) ∧ Rx A W w' (N x)))) : Spec P f args.toArray R A v N := fun w hA hR => by
  have hl' : args.length ≤ n := by simpa using hl
  refine (callsIn_wide (n := 0)).1 (callsIn_of_wp_marks hf hb trivial (h w _ w ⟨?_, rfl, fun t u ht => ?_⟩ (hL.eq ▸ Sx.start hA hR)))
  · simp only [hn, Array.size_append, List.size_toArray, Array.size_replicate]
    omega
  · obtain ⟨_, h2⟩ := argsEnv_look args 0 t u ht
    have hlt : t < args.length := by
      obtain ⟨h3, _⟩ := List.getElem?_eq_some_iff.1 h2
      simpa using h3
    rw [Array.getElem?_append_left (by simpa using hlt)]
    simpa using h2
end Go.Proofs.YtgfkbeipckbkiaaDoor
/- N3 -/
namespace Go.Proofs.YtgfkbeipckbkiaaDoor
set_option linter.unusedSimpArgs false
set_option linter.unusedVariables false
open Go.RowKit
/-- an integer that is a natural number -/
class NatOf (i : Int) (k : outParam Nat) : Prop where
  eq : i = k
instance (k : Nat) : NatOf (k : Int) k := ⟨rfl⟩
instance : NatOf 0 0 := ⟨rfl⟩
instance : NatOf 1 1 := ⟨rfl⟩
instance : NatOf 2 2 := ⟨rfl⟩
instance : NatOf 3 3 := ⟨rfl⟩
instance : NatOf 4 4 := ⟨rfl⟩
instance : NatOf 5 5 := ⟨rfl⟩
instance : NatOf 6 6 := ⟨rfl⟩
instance : NatOf 7 7 := ⟨rfl⟩
instance : NatOf 8 8 := ⟨rfl⟩
instance : NatOf 9 9 := ⟨rfl⟩
instance : NatOf 10 10 := ⟨rfl⟩
instance : NatOf 11 11 := ⟨rfl⟩
instance : NatOf 12 12 := ⟨rfl⟩
instance : NatOf 13 13 := ⟨rfl⟩
instance : NatOf 14 14 := ⟨rfl⟩
instance : NatOf 15 15 := ⟨rfl⟩
instance : NatOf 16 16 := ⟨rfl⟩
instance : NatOf 17 17 := ⟨rfl⟩
instance : NatOf 18 18 := ⟨rfl⟩
instance : NatOf 19 19 := ⟨rfl⟩
instance : NatOf 20 20 := ⟨rfl⟩
instance : NatOf 21 21 := ⟨rfl⟩
instance : NatOf 22 22 := ⟨rfl⟩
instance : NatOf 23 23 := ⟨rfl⟩
instance : NatOf 24 24 := ⟨rfl⟩
instance : NatOf 25 25 := ⟨rfl⟩
instance : NatOf 26 26 := ⟨rfl⟩
instance : NatOf 27 27 := ⟨rfl⟩
instance : NatOf 28 28 := ⟨rfl⟩
instance : NatOf 29 29 := ⟨rfl⟩
instance : NatOf 30 30 := ⟨rfl⟩
instance : NatOf 31 31 := ⟨rfl⟩
instance : NatOf 32 32 := ⟨rfl⟩
instance : NatOf 33 33 := ⟨rfl⟩
instance : NatOf 34 34 := ⟨rfl⟩
instance : NatOf 35 35 := ⟨rfl⟩
instance : NatOf 36 36 := ⟨rfl⟩
instance : NatOf 37 37 := ⟨rfl⟩
instance : NatOf 38 38 := ⟨rfl⟩
instance : NatOf 39 39 := ⟨rfl⟩
instance : NatOf 40 40 := ⟨rfl⟩
instance : NatOf 41 41 := ⟨rfl⟩
instance : NatOf 42 42 := ⟨rfl⟩
instance : NatOf 43 43 := ⟨rfl⟩
instance : NatOf 44 44 := ⟨rfl⟩
instance : NatOf 45 45 := ⟨rfl⟩
instance : NatOf 46 46 := ⟨rfl⟩
instance : NatOf 47 47 := ⟨rfl⟩
instance : NatOf 48 48 := ⟨rfl⟩
instance : NatOf 49 49 := ⟨rfl⟩
instance : NatOf 50 50 := ⟨rfl⟩
instance : NatOf 51 51 := ⟨rfl⟩
instance : NatOf 52 52 := ⟨rfl⟩
instance : NatOf 53 53 := ⟨rfl⟩
instance : NatOf 54 54 := ⟨rfl⟩
instance : NatOf 55 55 := ⟨rfl⟩
instance : NatOf 56 56 := ⟨rfl⟩
instance : NatOf 57 57 := ⟨rfl⟩
instance : NatOf 58 58 := ⟨rfl⟩
instance : NatOf 59 59 := ⟨rfl⟩
instance : NatOf 60 60 := ⟨rfl⟩
instance : NatOf 61 61 := ⟨rfl⟩
instance : NatOf 62 62 := ⟨rfl⟩
instance : NatOf 63 63 := ⟨rfl⟩
instance : NatOf 64 64 := ⟨rfl⟩
instance : NatOf 65 65 := ⟨rfl⟩
instance : NatOf 66 66 := ⟨rfl⟩
instance : NatOf 67 67 := ⟨rfl⟩
instance : NatOf 68 68 := ⟨rfl⟩
instance : NatOf 69 69 := ⟨rfl⟩
instance : NatOf 70 70 := ⟨rfl⟩
instance : NatOf 71 71 := ⟨rfl⟩
instance : NatOf 72 72 := ⟨rfl⟩
instance : NatOf 96 96 := ⟨rfl⟩
instance : NatOf 97 97 := ⟨rfl⟩
instance : NatOf 99 99 := ⟨rfl⟩
instance : NatOf 100 100 := ⟨rfl⟩
instance : NatOf 128 128 := ⟨rfl⟩
instance : NatOf 255 255 := ⟨rfl⟩
instance : NatOf 256 256 := ⟨rfl⟩
instance : NatOf 257 257 := ⟨rfl⟩
instance (a b : Int) (j k : Nat) [h : NatOf a j] [h' : NatOf b k] : NatOf (a + b) (j + k) := ⟨by rw [h.eq, h'.eq]; rfl⟩
instance (a b : Int) (j k : Nat) [h : NatOf a j] [h' : NatOf b k] : NatOf (a * b) (j * k) := ⟨by rw [h.eq, h'.eq]; rfl⟩
instance (a b : Int) (j k : Nat) [h : NatOf a j] [h' : NatOf b k] : NatOf (a / b) (j / k) := ⟨by rw [h.eq, h'.eq]; rfl⟩
instance (a b : Int) (j k : Nat) [h : NatOf a j] [h' : NatOf b k] : NatOf (a % b) (j % k) := ⟨by rw [h.eq, h'.eq]; rfl⟩
/-- unsigned kinds -/
class UK (k : IntKind) (m : outParam Nat) : Prop where
  bits : k.bits = m
  sg : k.signed = false
instance : UK .u8 8 := ⟨rfl, rfl⟩
instance : UK .u32 32 := ⟨rfl, rfl⟩
instance : UK .u64 64 := ⟨rfl, rfl⟩
theorem UK.wrap {k : IntKind} {m : Nat} (h : UK k m) (n : Int) : k.wrap n = n % (2 ^ m : Int) := by
  unfold IntKind.wrap
  rw [h.sg, h.bits]
  simp
/-- a number that is a word -/
class Wd (m : Nat) (i : Int) (a : outParam (BitVec m)) : Prop where
  eq : i = (a.toNat : Int)
instance (m : Nat) (a : BitVec m) : Wd m ((a.toNat : Nat) : Int) a := ⟨rfl⟩
instance (b : UInt8) : Wd 8 ((b.toNat : Nat) : Int) b.toBitVec := ⟨rfl⟩
instance (m : Nat) : Wd m 0 0 := ⟨by simp⟩
instance : Wd 8 1 1 := ⟨rfl⟩
instance : Wd 8 2 2 := ⟨rfl⟩
instance : Wd 8 3 3 := ⟨rfl⟩
instance : Wd 8 128 128 := ⟨rfl⟩
instance : Wd 8 255 255 := ⟨rfl⟩
instance : Wd 64 31 31 := ⟨rfl⟩
instance : Wd 64 8 8 := ⟨rfl⟩
instance : Wd 32 1 1 := ⟨rfl⟩
section
variable {P : Program} {n : Nat} {D : List Deferred} {E : Env} {L : List Fa} {T T' : TypeId} {x y : Operand}
theorem r_move {v : Value} (hx : ev E x = some v) : Runs0 P n D E L (.move x) v := fun _ _ ka _ _ ho => ex_move ho (ka.ev hx)
theorem r_assign {v : Value} (hx : ev E x = some v) : Runs0 P n D E L (.assign x) v := fun _ _ ka _ _ ho => ex_assign ho (ka.ev hx)
theorem r_pick {c : Operand} {b : Bool} {v : Value} (hc : ev E c = some (.bool b)) (hv : ev E (if b = true then x else y) = some v) : Runs0 P n D E L (.pick c x y) v := fun a w ka _ o ho => by
  have h := ka.ev hv
  refine ex_pick ho (ka.ev hc) ?_
  rw [← h]
  cases b <;> rfl
theorem r_loadc {b O off : Nat} {cs : List Value} {v : Value} [hT : TOne P T] (hx : ev E x = some (.pointer (some ⟨b, O, none⟩))) [hm : Cells b O L off cs] [hr : CellAt cs off v] : Runs0 P n D E L (.load T x) v := fun a w ka s o ho => by
  obtain ⟨d, hu, hd⟩ := hT.und
  exact ex_load_cell ho (ka.ev hx) (by have := hm.cell s 0 v (by simpa using hr.at_); simpa using this) hu hd
theorem r_loadr {b O off m : Nat} {cs out : List Value} [hT : TRow P T m] (hx : ev E x = some (.pointer (some ⟨b, O, none⟩))) [hm : Cells b O L off cs] [hr : RowAt cs off m out] : Runs0 P n D E L (.load T x) (.agg out.toArray) := fun a w ka s o ho => by
  obtain ⟨d, hu, hd⟩ := hT.und
  exact ex_load_row ho (ka.ev hx) (cs := out) (fun j v hv => hm.cell s j v (hr.at_ j v hv)) hu hd (by rw [hr.len]; exact hT.size)
theorem r_nth {b O off : Nat} {cs : List Value} {v : Value} [hT : TOne P T] (hx : ev E x = some (.pointer (some ⟨b, O, none⟩))) [hm : Cells b O L off cs] (hc : cs[off]? = some v) : Runs0 P n D E L (.load T x) v := fun a w ka s o ho => by
  obtain ⟨d, hu, hd⟩ := hT.und
  exact ex_load_cell ho (ka.ev hx) (by have := hm.cell s 0 v (by simpa using hc); simpa using this) hu hd
theorem r_nthr {b O off m : Nat} {cs out : List Value} [hT : TRow P T m] (hx : ev E x = some (.pointer (some ⟨b, O, none⟩))) [hm : Cells b O L off cs] (hl : out.length = m) (hc : ∀ j v, out[j]? = some v → cs[off + j]? = some v) : Runs0 P n D E L (.load T x) (.agg out.toArray) := fun a w ka s o ho => by
  obtain ⟨d, hu, hd⟩ := hT.und
  exact ex_load_row ho (ka.ev hx) (cs := out) (fun j v hv => hm.cell s j v (hc j v hv)) hu hd (by rw [hl]; exact hT.size)
theorem r_field {i off b O : Nat} [h : TFA P T i off] (hx : ev E x = some (.pointer (some ⟨b, O, none⟩))) {O' : Nat} (hO : O + off = O' := by first | (simp only [Nat.zero_add, Nat.add_zero, Nat.reduceAdd]; exact rfl) | exact rfl) : Runs0 P n D E L (.fieldAddr T x i) (.pointer (some ⟨b, O', none⟩)) := fun a w ka s o ho => by
  subst hO
  exact xField ho (ka.ev hx)
theorem r_idx {e size bytes : Nat} {z : Value} [E' : TS P T e size bytes z] {b off c m N : Nat} {I : Int} {k : IntKind} (hx : ev E x = some (.slice (some ⟨b, off, none⟩) N c)) (hi : ev E y = some (.int k I)) [hn : NatOf I m] (hm : m < N := by omega)
    {O' : Nat} (hO : off + m * size = O' := by first | (simp only [Nat.zero_add, Nat.add_zero, Nat.mul_one, Nat.reduceMul, Nat.reduceAdd]; exact rfl) | exact rfl) : Runs0 P n D E L (.indexAddr T x y) (.pointer (some ⟨b, O', none⟩)) := fun a w ka s o ho => by
  have := hn.eq
  have h2 : I.toNat = m := by omega
  subst hO
  rw [← h2]
  exact xIndexS ho (ka.ev hx) (ka.ev hi) ⟨by omega, by omega⟩
theorem r_idxA {len e size : Nat} [hT : TArr P T len e size] {b off m : Nat} {I : Int} {k : IntKind} (hx : ev E x = some (.pointer (some ⟨b, off, none⟩))) (hi : ev E y = some (.int k I)) [hn : NatOf I m] (hm : m < len := by first | decide | omega)
    {O' : Nat} (hO : off + m * size = O' := by first | (simp only [Nat.zero_add, Nat.add_zero, Nat.mul_one, Nat.reduceMul, Nat.reduceAdd]; exact rfl) | exact rfl) : Runs0 P n D E L (.indexAddr T x y) (.pointer (some ⟨b, O', none⟩)) := fun a w ka s o ho => by
  have e1 := hn.eq
  have h2 : I.toNat = m := by omega
  subst hO
  obtain ⟨j, hj, hjs⟩ := Option.map_eq_some_iff.1 hT.size
  have hadd : (⟨b, off, none⟩ : Addr).add (m * size) = ⟨b, off + m * size, none⟩ := Addr.add_mid ..
  unfold execOp
  simp only [ho, ka.ev hx, ka.ev hi, Instr.indexAt, asIntOf, Sem.run_bind, Sem.run_pure, Result.andThen_ok, run_underlying hT.und, Instr.sureAddr, if_pos (show 0 ≤ I ∧ I < (len : Int) from ⟨by omega, by omega⟩), sizeOf, typeInfo, h2]
  simp [hj, hjs, hadd]
theorem r_ixc {len e m : Nat} [hT : TArr P T len e 1] [hr : TOne P e] {cs : List Value} {v : Value} {k : IntKind} {I : Int} (hx : ev E x = some (.agg cs.toArray)) (hi : ev E y = some (.int k I)) [hn : NatOf I m] (hc : cs[m]? = some v) (hm : m < len := by omega) : Runs0 P n D E L (.index T x y) v := fun a w ka s o ho => by
  have e1 := hn.eq
  obtain ⟨d, hu, hd⟩ := hr.und
  have h2 : I.toNat = m := by omega
  have hp : (part e cs.toArray (I.toNat * 1)).run P w = .ok v w := by
    have hagg : (isAgg e).run P w = .ok false w := by
      unfold isAgg
      rw [Sem.run_bind, run_underlying hu w]
      cases d <;> simp_all
    unfold part
    rw [Sem.run_bind, hagg]
    simp [h2, hc]
  unfold execOp
  simp only [ho, ka.ev hx, ka.ev hi, Sem.run_bind, run_idx (T := T) (by omega) (by omega) hp, Result.andThen_ok]
  rfl
theorem r_len {e size bytes : Nat} {z : Value} [E' : TS P T e size bytes z] {A : Option Addr} {N c : Nat} (hx : ev E x = some (.slice A N c)) : Runs0 P n D E L (.call { callee := .builtin .len, args := #[x], argTypes := #[T] }) (.int .i64 N) := fun _ _ ka _ _ ho => xLen ho (ka.ev hx)
theorem r_add {i j : Int} (hx : ev E x = some (.int .i64 i)) (hy : ev E y = some (.int .i64 j)) (h : -9223372036854775808 ≤ i + j ∧ i + j ≤ 9223372036854775807 := by omega) : Runs0 P n D E L (.binOp .add T x y T') (.int .i64 (i + j)) := fun _ _ ka _ _ ho => xAdd ho (ka.ev hx) (ka.ev hy) h
theorem r_sub {i j : Int} (hx : ev E x = some (.int .i64 i)) (hy : ev E y = some (.int .i64 j)) (h : -9223372036854775808 ≤ i - j ∧ i - j ≤ 9223372036854775807 := by omega) : Runs0 P n D E L (.binOp .sub T x y T') (.int .i64 (i - j)) := fun _ _ ka _ _ ho => xSub ho (ka.ev hx) (ka.ev hy) h
theorem r_subN {j k m : Nat} {a b : Int} (hx : ev E x = some (.int .i64 a)) (hy : ev E y = some (.int .i64 b)) [ha : NatOf a j] [hb : NatOf b k] (h : k ≤ j := by omega) (hj : j ≤ 9223372036854775807 := by omega) (hm : j - k = m := by first | (simp only [Nat.reduceSub, Nat.add_sub_cancel]; exact rfl) | exact rfl) : Runs0 P n D E L (.binOp .sub T x y T') (.int .i64 (m : Int)) := fun _ _ ka _ _ ho => by
  have e1 := ha.eq
  have e2 := hb.eq
  have e3 : a - b = (m : Int) := by omega
  rw [← e3]
  exact xSub ho (ka.ev hx) (ka.ev hy) (by omega)
theorem r_mul {i j : Int} (hx : ev E x = some (.int .i64 i)) (hy : ev E y = some (.int .i64 j)) (h : -9223372036854775808 ≤ i * j ∧ i * j ≤ 9223372036854775807 := by omega) : Runs0 P n D E L (.binOp .mul T x y T') (.int .i64 (i * j)) := fun _ _ ka _ _ ho => xMul ho (ka.ev hx) (ka.ev hy) h
theorem run_bin {op : BinOp} {u v : Value} {r : Value} {o : Oper} {a : Act} {w : World} (ho : o.op = .binOp op T x y T') (hx : a.eval x = u) (hy : a.eval y = v) (hg : (eqGuard op T x y u v).run P w = .ok () w) (hb : (binOp op T u v).run P w = .ok r w) : (execOp a.eval o).run P w = .ok (.value r) w := by
  unfold execOp
  simp only [ho, hx, hy, Sem.run_bind, hg, Result.andThen_ok, hb]
  rfl
theorem r_quo {i j : Int} (hx : ev E x = some (.int .i64 i)) (hy : ev E y = some (.int .i64 j)) (h : 0 ≤ i ∧ i ≤ 9223372036854775807 ∧ 1 ≤ j := by omega) : Runs0 P n D E L (.binOp .quo T x y T') (.int .i64 (i / j)) := fun a w ka s o ho => by
  refine run_bin ho (ka.ev hx) (ka.ev hy) rfl ?_
  rw [← IntWalk.i64_quo i j h]
  unfold binOp
  simp [Op.intDiv, show ¬ j = 0 by omega]
theorem r_rem {i j : Int} (hx : ev E x = some (.int .i64 i)) (hy : ev E y = some (.int .i64 j)) (h : 0 ≤ i ∧ 1 ≤ j := by omega) : Runs0 P n D E L (.binOp .rem T x y T') (.int .i64 (i % j)) := fun a w ka s o ho => by
  refine run_bin ho (ka.ev hx) (ka.ev hy) rfl ?_
  rw [← IntWalk.rem_in i j h.1]
  unfold binOp
  simp [Op.intDiv, show ¬ j = 0 by omega]
theorem r_neg {i : Int} (hx : ev E x = some (.int .i64 i)) (h : -9223372036854775808 ≤ -i ∧ -i ≤ 9223372036854775807 := by omega) : Runs0 P n D E L (.unOp .neg T x) (.int .i64 (-i)) := fun a w ka s o ho => by
  unfold execOp
  simp only [ho, ka.ev hx, Op.unary, Op.intArith, Sem.run_bind, Sem.run_pure, Result.andThen_ok]
  rw [show (0 : Int) - i = -i by omega, IntWalk.i64_in (-i) h]
theorem r_not {b : Bool} (hx : ev E x = some (.bool b)) : Runs0 P n D E L (.unOp .not T x) (.bool (!b)) := fun _ _ ka _ _ ho => xNot ho (ka.ev hx)
/-! comparisons -/
theorem r_lss {k : IntKind} {i j : Int} (hx : ev E x = some (.int k i)) (hy : ev E y = some (.int k j)) : Runs0 P n D E L (.binOp .lss T x y T') (.bool (decide (i < j))) := fun _ _ ka _ _ ho => xLss ho (ka.ev hx) (ka.ev hy)
theorem r_gtr {k : IntKind} {i j : Int} (hx : ev E x = some (.int k i)) (hy : ev E y = some (.int k j)) : Runs0 P n D E L (.binOp .gtr T x y T') (.bool (decide (j < i))) := fun _ _ ka _ _ ho => xGtr ho (ka.ev hx) (ka.ev hy)
theorem r_geq {k : IntKind} {i j : Int} (hx : ev E x = some (.int k i)) (hy : ev E y = some (.int k j)) : Runs0 P n D E L (.binOp .geq T x y T') (.bool (decide (j ≤ i))) := fun _ _ ka _ _ ho => xGeq ho (ka.ev hx) (ka.ev hy)
theorem r_eql {k : IntKind} {i j : Int} (hx : ev E x = some (.int k i)) (hy : ev E y = some (.int k j)) : Runs0 P n D E L (.binOp .eql T x y T') (.bool (decide (i = j))) := fun a w ka s o ho => by
  rw [show decide (i = j) = (i == j) from (Int.instDecidableEq i j |> fun _ => by rw [Bool.eq_iff_iff]; simp)]
  exact xEqI ho (ka.ev hx) (ka.ev hy)
theorem r_neq {k : IntKind} {i j : Int} (hx : ev E x = some (.int k i)) (hy : ev E y = some (.int k j)) : Runs0 P n D E L (.binOp .neq T x y T') (.bool (decide (¬ i = j))) := fun a w ka s o ho => by
  rw [show decide (¬ i = j) = (i != j) from by rw [Bool.eq_iff_iff]; simp]
  exact xNeI ho (ka.ev hx) (ka.ev hy)
theorem r_eqr {xs ys : List Value} {p : Prop} [Decidable p] (hx : ev E x = some (.agg xs.toArray)) (hy : ev E y = some (.agg ys.toArray)) [h : TEq P T xs ys (decide p)] : Runs0 P n D E L (.binOp .eql T x y T') (.bool (decide p)) := fun _ _ ka _ _ ho => xEql ho (ka.ev hx) (ka.ev hy)
theorem r_ner {xs ys : List Value} {p : Prop} [Decidable p] (hx : ev E x = some (.agg xs.toArray)) (hy : ev E y = some (.agg ys.toArray)) [h : TEq P T xs ys (decide p)] : Runs0 P n D E L (.binOp .neq T x y T') (.bool (decide (¬ p))) := fun a w ka s o ho => by
  have := xNeq (P := P) (w := w) ho (ka.ev hx) (ka.ev hy) (h := h)
  rw [this]
  simp
theorem run_equalIn_ptrR (w : World) (d : Nat) {e : TypeId} (p : Option Addr) (h : P.underlying T = some (.pointer e)) : (Op.equalIn (d + 1) T (.pointer p) (.pointer none)).run P w = .ok p.isNone w := by
  cases p <;> simp [Op.equalIn, run_underlying h]
theorem run_eq_ptrR (w : World) {e : TypeId} (p : Option Addr) (h : P.underlying T = some (.pointer e)) : (binOp .eql T (.pointer p) (.pointer none)).run P w = .ok (.bool p.isNone) w := by
  simp only [binOp]
  simp [Op.equal, Op.maxDepth, run_equalIn_ptrR w 9999 p h]
class TPtr (P : Program) (T : TypeId) : Prop where
  und : ∃ e, P.underlying T = some (.pointer e)
theorem r_nilR {p : Option Addr} [hT : TPtr P T] (hx : ev E x = some (.pointer p)) (hy : ev E y = some (.pointer none)) : Runs0 P n D E L (.binOp .eql T x y T') (.bool p.isNone) := fun a w ka s o ho => by
  obtain ⟨e, h⟩ := hT.und
  exact run_bin ho (ka.ev hx) (ka.ev hy) rfl (run_eq_ptrR w p h)
/-! structs, slices, functions -/
theorem r_build {z out : List Value} {pl : Nat → Option (Nat × Nat)} [hT : TB P T z pl] {l : List (Nat × Operand)} {ps : List (Nat × Value)} (hv : evp E l = some ps) [hf : Fills pl z ps out] : Runs0 P n D E L (.build T l.toArray) (.agg out.toArray) := fun a w ka s o ho => xBuild ho (ka.evp hv)
theorem r_extract {i : Nat} {vs : List Value} {v : Value} (hx : ev E x = some (.tuple vs.toArray)) (hv : vs[i]? = some v) : Runs0 P n D E L (.extract x i) v := fun _ _ ka _ _ ho => xExtract ho (ka.ev hx) hv
theorem r_nilc {b : Addr} (hx : ev E x = some (.pointer (some b))) : Runs0 P n D E L (.nilCheck x) (.pointer (some b)) := fun _ _ ka _ _ ho => xNil ho (ka.ev hx)
theorem r_slA {len e size : Nat} [hT : TArr P T len e size] {b off : Nat} (hx : ev E x = some (.pointer (some ⟨b, off, none⟩))) (hn : 0 < len := by decide) : Runs0 P n D E L (.slice T x none none none) (.slice (some ⟨b, off, none⟩) len len) := fun _ _ ka _ _ ho => xSlA ho (ka.ev hx) hn
theorem r_func {fn : Fn} {fi ca : List Operand} {vf vc : List Value} (hf : evs E fi = some vf) (hc : evs E ca = some vc) : Runs0 P n D E L (.makeFunc fn fi.toArray ca.toArray) (.func fn vf.toArray vc.toArray) := fun a w ka s o ho => by
  unfold execOp
  simp only [ho, Instr.makeFunc, Sem.run_bind, Sem.run_pure, Result.andThen_ok, List.map_toArray, ka.evs hf, ka.evs hc]
theorem r_iface {d : TypeDesc} {v : Value} (hu : P.underlying T = some d) (hd : (match d with | .interface _ => false | _ => true) = true) (hx : ev E x = some v) : Runs0 P n D E L (.makeInterface T x) (.iface T v) := fun a w ka s o ho => by
  unfold execOp
  simp only [ho, Instr.makeInterface, ka.ev hx, Sem.run_bind, run_underlying hu, Result.andThen_ok]
  cases d <;> first | rfl | (cases hd)
/-! words -/
variable {k k' : IntKind} {m : Nat} {i j : Int} {a b : BitVec m}
theorem binOp_bits {op : BinOp} {i j : Int} {k : IntKind} (h1 : op = .and ∨ op = .or ∨ op = .xor) (_ : True) (_ : True) : binOp op T (.int k i) (.int k j) = Op.intBits op k i j := by
  rcases h1 with rfl | rfl | rfl <;> simp [binOp]
theorem toNat_lt_pow {m : Nat} (a : BitVec m) : (a.toNat : Int) < 2 ^ m := by have := a.isLt; exact_mod_cast this
theorem wrap_bv {k : IntKind} {m : Nat} (hk : UK k m) (a : BitVec m) : k.wrap (a.toNat : Int) = a.toNat := by
  rw [hk.wrap, Int.emod_eq_of_lt (by omega) (toNat_lt_pow a)]
theorem r_and [hk : UK k m] (hx : ev E x = some (.int k i)) (hy : ev E y = some (.int k j)) [ha : Wd m i a] [hb : Wd m j b] : Runs0 P n D E L (.binOp .and T x y T') (.int k ((a &&& b).toNat : Int)) := fun c w ka s o ho => by
  obtain ⟨rfl, hs⟩ := hk
  obtain rfl := ha.eq
  obtain rfl := hb.eq
  refine run_bin ho (ka.ev hx) (ka.ev hy) (by cases k <;> rfl) ?_
  rw [binOp_bits (by simp) (by simp) (by simp)]
  simp only [Op.intBits, BitVec.ofInt_natCast, BitVec.ofNat_toNat, BitVec.setWidth_eq]
  rw [UK.wrap ⟨rfl, hs⟩, Int.emod_eq_of_lt (by omega) (by have := (a &&& b).isLt; exact_mod_cast this)]
  rfl
theorem r_or [hk : UK k m] (hx : ev E x = some (.int k i)) (hy : ev E y = some (.int k j)) [ha : Wd m i a] [hb : Wd m j b] : Runs0 P n D E L (.binOp .or T x y T') (.int k ((a ||| b).toNat : Int)) := fun c w ka s o ho => by
  obtain ⟨rfl, hs⟩ := hk
  obtain rfl := ha.eq
  obtain rfl := hb.eq
  refine run_bin ho (ka.ev hx) (ka.ev hy) (by cases k <;> rfl) ?_
  rw [binOp_bits (by simp) (by simp) (by simp)]
  simp only [Op.intBits, BitVec.ofInt_natCast, BitVec.ofNat_toNat, BitVec.setWidth_eq]
  rw [UK.wrap ⟨rfl, hs⟩, Int.emod_eq_of_lt (by omega) (by have := (a ||| b).isLt; exact_mod_cast this)]
  rfl
theorem r_xor [hk : UK k m] (hx : ev E x = some (.int k i)) (hy : ev E y = some (.int k j)) [ha : Wd m i a] [hb : Wd m j b] : Runs0 P n D E L (.binOp .xor T x y T') (.int k ((a ^^^ b).toNat : Int)) := fun c w ka s o ho => by
  obtain ⟨rfl, hs⟩ := hk
  obtain rfl := ha.eq
  obtain rfl := hb.eq
  refine run_bin ho (ka.ev hx) (ka.ev hy) (by cases k <;> rfl) ?_
  rw [binOp_bits (by simp) (by simp) (by simp)]
  simp only [Op.intBits, BitVec.ofInt_natCast, BitVec.ofNat_toNat, BitVec.setWidth_eq]
  rw [UK.wrap ⟨rfl, hs⟩, Int.emod_eq_of_lt (by omega) (by have := (a ^^^ b).isLt; exact_mod_cast this)]
  rfl
theorem r_addW [hk : UK k m] (hx : ev E x = some (.int k i)) (hy : ev E y = some (.int k j)) [ha : Wd m i a] [hb : Wd m j b] : Runs0 P n D E L (.binOp .add T x y T') (.int k ((a + b).toNat : Int)) := fun c w ka s o ho => by
  obtain rfl := ha.eq
  obtain rfl := hb.eq
  refine run_bin ho (ka.ev hx) (ka.ev hy) (by cases k <;> rfl) ?_
  have e : binOp .add T (.int k (a.toNat : Int)) (.int k (b.toNat : Int)) = Op.intArith .add k a.toNat b.toNat := by simp [binOp]
  rw [e]
  simp only [Op.intArith, hk.wrap, BitVec.toNat_add]
  simp [Int.natCast_emod, Int.natCast_add]
theorem r_mulW [hk : UK k m] (hx : ev E x = some (.int k i)) (hy : ev E y = some (.int k j)) [ha : Wd m i a] [hb : Wd m j b] : Runs0 P n D E L (.binOp .mul T x y T') (.int k ((a * b).toNat : Int)) := fun c w ka s o ho => by
  obtain rfl := ha.eq
  obtain rfl := hb.eq
  refine run_bin ho (ka.ev hx) (ka.ev hy) (by cases k <;> rfl) ?_
  have e : binOp .mul T (.int k (a.toNat : Int)) (.int k (b.toNat : Int)) = Op.intArith .mul k a.toNat b.toNat := by simp [binOp]
  rw [e]
  simp only [Op.intArith, hk.wrap, BitVec.toNat_mul]
  simp [Int.natCast_emod, Int.natCast_mul]
theorem r_shl {ky : IntKind} {q : Nat} [hk : UK k m] (hx : ev E x = some (.int k i)) (hy : ev E y = some (.int ky j)) [ha : Wd m i a] [hq : NatOf j q] (h : q ≤ m := by first | decide | omega) : Runs0 P n D E L (.binOp .shl T x y T') (.int k ((a <<< q).toNat : Int)) := fun c w ka s o ho => by
  obtain rfl := ha.eq
  have hj := hq.eq
  subst hj
  refine run_bin ho (ka.ev hx) (ka.ev hy) (by cases k <;> cases ky <;> rfl) ?_
  have e : binOp .shl T (.int k (a.toNat : Int)) (.int ky (q : Int)) = Op.shift .shl k a.toNat ky q := by unfold binOp; rfl
  rw [e]
  unfold Op.shift
  rw [if_neg (by omega)]
  simp only [Int.toNat_natCast, hk.bits, Nat.min_eq_left h, hk.wrap, BitVec.toNat_shiftLeft, Nat.shiftLeft_eq]
  simp [Int.natCast_emod, Int.natCast_mul]
theorem r_shr {ky : IntKind} {q : Nat} [hk : UK k m] (hx : ev E x = some (.int k i)) (hy : ev E y = some (.int ky j)) [ha : Wd m i a] [hq : NatOf j q] (h : q ≤ m := by first | decide | omega) : Runs0 P n D E L (.binOp .shr T x y T') (.int k ((a >>> q).toNat : Int)) := fun c w ka s o ho => by
  obtain rfl := ha.eq
  have hj := hq.eq
  subst hj
  refine run_bin ho (ka.ev hx) (ka.ev hy) (by cases k <;> cases ky <;> rfl) ?_
  have e : binOp .shr T (.int k (a.toNat : Int)) (.int ky (q : Int)) = Op.shift .shr k a.toNat ky q := by unfold binOp; rfl
  rw [e]
  unfold Op.shift
  rw [if_neg (by omega)]
  simp only [Int.toNat_natCast, hk.bits, Nat.min_eq_left h, BitVec.toNat_ushiftRight, Nat.shiftRight_eq_div_pow]
  rw [Int.fdiv_eq_ediv_of_nonneg _ (Int.pow_nonneg (by decide))]
  simp [Int.natCast_ediv]
theorem r_notW [hk : UK k m] (hx : ev E x = some (.int k i)) [ha : Wd m i a] : Runs0 P n D E L (.unOp .xor T x) (.int k ((~~~a).toNat : Int)) := fun c w ka s o ho => by
  obtain ⟨rfl, hs⟩ := hk
  obtain rfl := ha.eq
  have e1 : BitVec.ofInt k.bits k.max = BitVec.allOnes k.bits := by
    rw [IntKind.max, hs]
    apply BitVec.eq_of_toInt_eq
    cases k <;> first | (simp [IntKind.signed] at hs; done) | decide
  unfold execOp
  simp only [ho, ka.ev hx, Op.unary, hs, Bool.false_eq_true, if_false, Op.intBits, e1, BitVec.ofInt_natCast, BitVec.ofNat_toNat, BitVec.setWidth_eq, BitVec.allOnes_xor, Sem.run_bind, Sem.run_pure, Result.andThen_ok]
  rw [wrap_bv ⟨rfl, hs⟩]
/-- between kinds, where the number fits -/
theorem r_convN (hT : P.underlying T = some (.int k)) (hT' : P.underlying T' = some (.int k')) (hx : ev E x = some (.int k i)) (h : k'.wrap i = i) : Runs0 P n D E L (.convert T T' x) (.int k' i) := fun c w ka s o ho => by
  unfold execOp
  simp only [ho, ka.ev hx, convert, Sem.run_bind, run_underlying hT, run_underlying hT', Result.andThen_ok, Conv.intToInt, h]
  rfl
theorem r_convW {m' : Nat} [hk : UK k m] [hk' : UK k' m'] (hT : P.underlying T = some (.int k)) (hT' : P.underlying T' = some (.int k')) (hx : ev E x = some (.int k i)) [ha : Wd m i a] : Runs0 P n D E L (.convert T T' x) (.int k' ((a.setWidth m').toNat : Int)) := fun c w ka s o ho => by
  obtain rfl := ha.eq
  unfold execOp
  simp only [ho, ka.ev hx, convert, Sem.run_bind, run_underlying hT, run_underlying hT', Result.andThen_ok, Conv.intToInt, hk'.wrap, BitVec.toNat_setWidth]
  simp [Int.natCast_emod]
end
/-! rows of words and of numbers -/
def wc {m : Nat} (k : IntKind) (l : List (BitVec m)) : List Value := l.map fun x => .int k (x.toNat : Int)
theorem wc_at {m : Nat} {k : IntKind} {l : List (BitVec m)} {i : Nat} (h : i < l.length) : (wc k l)[i]? = some (.int k ((l.getD i 0).toNat : Int)) := by simp [wc, h]
theorem wc_len {m : Nat} (k : IntKind) (l : List (BitVec m)) : (wc k l).length = l.length := by simp [wc]
theorem bc_at' {l : List UInt8} {i : Nat} (h : i < l.length) : (bc l)[i]? = some (.int .u8 ((l.getD i 0).toNat : Int)) := bc_get l i h
instance (priority := 2000) (cs new out : List Value) (i : Nat) [h : SetAt cs i new out] : SetAt cs (i * 1) new out := ⟨by rw [Nat.mul_one]; exact h.eq, by rw [Nat.mul_one]; exact h.fit⟩
instance (priority := 2000) (cs new out : List Value) (n : Nat) [h : SetAt cs 0 new out] : SetAt cs (0 * n) new out := ⟨by rw [Nat.zero_mul]; exact h.eq, by rw [Nat.zero_mul]; exact h.fit⟩
instance (priority := 2000) (cs new out : List Value) (n : Nat) [h : SetAt cs n new out] : SetAt cs (1 * n) new out := ⟨by rw [Nat.one_mul]; exact h.eq, by rw [Nat.one_mul]; exact h.fit⟩
end Go.Proofs.YtgfkbeipckbkiaaDoor
/- C1 -/
namespace Go.Proofs.YtgfkbeipckbkiaaDoor
set_option linter.unusedSimpArgs false
set_option linter.unusedVariables false
open Go.RowKit Go.ChangeShapes Go.WideShapes
/-- a table of words, read off its datum -/
theorem words_of {P : Program} {w : World} {fuel T e : Nat} {n : Nat} {cs : List Value} {l : List Nat} {ps : List MemPlace} (ht : P.underlying T = some (.array n e)) (he : P.underlying e = some (.int .u32)) (hce : P.cellsOf e = 1) (hcT : P.cellsOf T = n)
    {base : Nat} {spare : Nat → Bool} {held : Bool} {enc : TypeId × Value → Unit} (h : DataW.trod enc P w base spare held fuel T cs = some (.agg (l.map fun k : Nat => DataW.lit (.int .u32 (k : Int))), ps)) : cs = l.map fun k : Nat => Value.int .u32 (k : Int) := by
  obtain ⟨xs, m, -, hx1, hl, hxl, hx⟩ := DataW.trod_array ht h
  rw [hcT] at hl
  injection hx1 with hx1 _
  injection hx1 with hx1
  apply List.ext_getElem?
  intro i
  by_cases hi : i < n
  · have h1 := hx i hi
    rw [hce, Nat.mul_one, List.getElem?_eq_getElem (by omega)] at h1
    obtain ⟨k, e1, e2, _⟩ := DataW.trod_int he h1
    have h2 := congrArg (fun z => z[i]?) hx1
    simp only [List.getElem?_map] at h2
    rw [List.getElem?_eq_getElem (l := xs) (by omega), e2] at h2
    have h3 := congrArg (fun z => z[0]?) e1
    simp only [List.getElem?_take, List.getElem?_drop] at h3
    simp only [List.getElem?_map]
    cases hli : l[i]? with
    | none => rw [hli] at h2; cases h2
    | some q =>
      rw [hli] at h2
      simp only [Option.map_some, Option.some.injEq, DataW.lit.injEq, Lit.int.injEq, true_and] at h2
      have h4 : cs[i]? = some (.int .u32 k) := by simpa using h3
      rw [h4, ← h2]
      rfl
  · have hlx : l.length = xs.length := by simpa using (congrArg List.length hx1)
    rw [List.getElem?_eq_none (by omega), List.getElem?_eq_none (by simp; omega)]
end Go.Proofs.YtgfkbeipckbkiaaDoor
/- N4 -/
namespace Go.Proofs.YtgfkbeipckbkiaaDoor
set_option linter.unusedSimpArgs false
set_option linter.unusedVariables false
open Go.RowKit
section
variable {P : Program} {A : List Fa} {W : World} {n : Nat} {D : List Deferred} {E : Env} {L M : List Fa} {T : TypeId} {x y : Operand}
theorem x_alloc {cs : List Value} [TZ P T cs] : RunsX P A W n D E L (.alloc T) (fun g : Nat => .pointer (some ⟨g, 0, none⟩)) (fun g => .blk g cs T :: L) := fun a w ka s o ho => ⟨_, _, xAlloc ho, s.alloc cs T⟩
theorem x_box {cs : List Value} (hx : ev E x = some (.agg cs.toArray)) : RunsX P A W n D E L (.box T x) (fun g : Nat => .pointer (some ⟨g, 0, none⟩)) (fun g => .blk g cs T :: L) := fun a w ka s o ho => ⟨_, _, xBox ho (ka.ev hx) rfl, s.alloc cs T⟩
theorem x_box1 {v : Value} (hx : ev E x = some v) (hv : v.cells = #[v] := by rfl) : RunsX P A W n D E L (.box T x) (fun g : Nat => .pointer (some ⟨g, 0, none⟩)) (fun g => .blk g [v] T :: L) := fun a w ka s o ho => ⟨_, _, xBox (cs := [v]) ho (ka.ev hx) hv, s.alloc [v] T⟩
theorem own_new {w : World} {g e size m c : Nat} {cs xs : List Value} (hb : w.heap[g]? = some (.cells cs.toArray e (0, 0))) (hx : xs.length = m * size) (hm : m ≤ c) (hc : c ≤ maxLen) (hl : cs.length = c * size) (ht : cs.take (m * size) = xs) : w.ownsRow 0 e size (.slice (some ⟨g, 0, none⟩) m c) m xs :=
  ⟨hx, .inr ⟨g, c, cs.toArray, rfl, Nat.zero_le _, hb, hm, hc, by simpa using hl, by simpa using ht⟩⟩
/-- a block that is new, as a row of one's own -/
theorem Sx.blkOwn {w : World} {g e size m c : Nat} {cs xs : List Value} (h : Sx A W w (.blk g cs e :: L)) (hx : xs.length = m * size) (hm : m ≤ c) (hc : c ≤ maxLen) (hl : cs.length = c * size) (ht : cs.take (m * size) = xs) : Sx A W w (.own (.slice (some ⟨g, 0, none⟩) m c) m e size xs :: L) := by
  have hb : w.heap[g]? = some (.cells cs.toArray e (0, 0)) := h.ok (.blk _ _ _) (List.mem_cons_self ..)
  exact h.turn rfl (fun k hk => .inl (show k = g by have : some g = some k := hk; injection this with this; exact this.symm)) (own_new hb hx hm hc hl ht) rfl rfl rfl (Nat.le_refl _) (fun _ _ _ => rfl)
theorem x_bsl {t e m sz bytes : Nat} {z : Value} [E' : TS P t e sz bytes z] {l : List (Nat × Operand)} {ps : List (Nat × Value)} {out : List Value} {q : Nat} (hv : evp E l = some ps) (hl : ps.length = m) [hf : Parts sz 0 ps out] [ho : Row out q] (hq : m * sz = q := by rfl) (h0 : 0 < m ∧ m * sz ≤ 16777216 := by decide) :
    RunsX P A W n D E L (.buildSlice t m l.toArray) (fun g : Nat => .slice (some ⟨g, 0, none⟩) m m) (fun g => .own (.slice (some ⟨g, 0, none⟩) m m) m e sz out :: L) := fun a w ka s o hop => by
  obtain ⟨j, hi', hz, hsz, hby⟩ := info_parts E'.el.hi
  have hp : (l.toArray.map fun (x : Nat × Operand) => match x with | (i, x) => (i, a.eval x)).toList = ps := by
    rw [← ka.evp hv]
    simp
  have hs0 := E'.el.h0
  have hpos := Nat.mul_pos h0.1 hs0
  have hmm : m ≤ m * sz := Nat.le_mul_of_pos_right _ hs0
  have hcells : Instr.fill (fun i => some (i * j.size, j.size)) ((Array.range (m * j.size)).map (z.cells[· % z.cells.size]!)) (l.toArray.map fun (x : Nat × Operand) => match x with | (i, x) => (i, a.eval x)).toList = some out.toArray := by
    rw [hp, hsz]
    have := hf.fill [] ((Array.range (m * sz)).map (z.cells[· % z.cells.size]!)).toList (by simp) (by simp [hl])
    rw [List.nil_append, Array.toArray_toList, List.nil_append] at this
    exact this
  have hrun := run_buildSlice (P := P) w t e m (l.toArray.map fun (x : Nat × Operand) => match x with | (i, x) => (i, a.eval x)) out.toArray j z E'.el.ht hi' hz (by rw [hsz]; omega) (by rw [hsz]; omega) hcells
  refine ⟨w.heap.size, _, ?_, (s.alloc out e).blkOwn (ho.len.trans hq.symm) (Nat.le_refl _) (by unfold maxLen; omega) (ho.len.trans hq.symm) (by rw [hq, ← ho.len, List.take_length])⟩
  unfold execOp
  simp only [hop, Sem.run_bind, hrun, Result.andThen_ok]
  rfl
/-- '[]T{}' -/
theorem x_bsl0 {t e sz bytes : Nat} {z : Value} [E' : TS P t e sz bytes z] {xs : List Value} (hxs : xs = [] := by exact rfl) : RunsX P A W n D E L (.buildSlice t 0 #[]) (fun g : Nat => .slice (some ⟨g, 0, none⟩) 0 0) (fun g => .own (.slice (some ⟨g, 0, none⟩) 0 0) 0 e sz xs :: L) := fun a w ka s o hop => by
  subst hxs
  obtain ⟨j, hi', hz, hsz, hby⟩ := info_parts E'.el.hi
  refine ⟨w.heap.size, _, ?_, (s.alloc [] e).blkOwn (by simp) (Nat.le_refl _) (by unfold maxLen; omega) (by simp) (by simp)⟩
  unfold execOp
  simp [hop, Instr.buildSlice, run_underlying E'.el.ht, sizeOf, typeInfo, hi', Instr.fill, newRow, show Array.range 0 = #[] from by decide]
/-- a row of one's own grows -/
theorem Sx.grow {w w' : World} {v v' : Value} {N N' e size : Nat} {xs xs' : List Value} (h : Sx A W w (.own v N e size xs :: L)) (hw : w'.ownsRow 0 e size v' N' xs') (hg : w.grownBy w' v.ownBlock) (hwh : v'.ownBlock = v.ownBlock ∨ v'.ownBlock = some w.heap.size) : Sx A W w' (.own v' N' e size xs' :: L) := by
  refine h.turn rfl (fun k hk => ?_) hw hg.os hg.tape hg.output hg.size fun k hk hn => hg.block k hk fun e => hn e.symm
  have hk' : v'.ownBlock = some k := hk
  rcases hwh with h1 | h1
  · exact .inl (show v.ownBlock = some k by rw [← h1]; exact hk')
  · rw [h1] at hk'
    injection hk' with hk'
    exact .inr (by omega)
theorem h_nil_own {K : Act → World → Prop} (e size : Nat) {xs : List Value} (hx : xs = []) (h : H A W n D E (.own (.slice none 0 0) 0 e size xs :: L) K) : H A W n D E L K := by
  subst hx
  exact h_L (fun w s => s.cons (f := .own (.slice none 0 0) 0 e size []) (World.ownsRow_nil w _ e size) (fun g _ _ k hk _ => by cases hk) (fun _ k hk => by cases hk)) h
theorem x_make {e size bytes : Nat} {z : Value} [E' : TS P T e size bytes z] {c : Nat} {i j : Int} (hx : ev E x = some (.int .i64 i)) (hy : ev E y = some (.int .i64 j)) [h1 : NatOf i c] [h2 : NatOf j c] (hb : c * bytes ≤ 281474976710656 := by omega) :
    RunsX P A W n D E L (.makeSlice T x y) (fun g : Nat => .slice (some ⟨g, 0, none⟩) c c) (fun g => .own (.slice (some ⟨g, 0, none⟩) c c) c e size (madeCells z.cells (c * size)).toList :: L) := fun a w ka s o hop => by
  obtain ⟨t, hi, hz, hsz, hby⟩ := info_parts E'.el.hi
  have hbp := E'.el.hb
  have hz1 := E'.el.hz
  obtain rfl := h1.eq
  obtain rfl := h2.eq
  subst hby hsz
  have hc : c ≤ c * t.bytes := Nat.le_mul_of_pos_right _ hbp
  have hb' : (t.bytes : Int) * (c : Int) ≤ 281474976710656 := by
    have : ((t.bytes * c : Nat) : Int) ≤ 281474976710656 := by rw [Nat.mul_comm]; omega
    rwa [Int.natCast_mul] at this
  have hrun := run_make (P := P) w T e t z E'.el.ht hi hz .i64 .i64 c c (by omega) (Int.le_refl _) hb' (by omega)
  simp only [Int.toNat_natCast] at hrun
  have hS' := s.alloc (madeCells z.cells (c * t.size)).toList e
  rw [Array.toArray_toList] at hS'
  have hlen : (madeCells z.cells (c * t.size)).toList.length = c * t.size := by simp [madeCells]
  refine ⟨w.heap.size, _, ?_, hS'.blkOwn hlen (Nat.le_refl _) (by unfold maxLen; omega) hlen (List.take_of_length_le (by rw [hlen]; exact Nat.le_refl _))⟩
  unfold execOp
  simp only [hop, ka.ev hx, ka.ev hy]
  rw [Sem.run_bind, hrun]
  rfl
theorem zeros_bytes (c : Nat) : (madeCells (Value.int .u8 0).cells (c * 1)).toList = bc (List.replicate c 0) := madeBytes c
/-! stores -/
theorem Sx.put {w w' : World} {g : Nat} {cs cs' : List Value} {T : TypeId} (h : Sx A W w (.blk g cs T :: L)) (hb : w'.heap[g]? = some (.cells cs'.toArray T (0, 0))) (hbel : ∀ B w0, Below B w0 w → B ≤ g → Below B w0 w')
    (hsz : w'.heap.size = w.heap.size) (hk : ∀ k, k ≠ g → w'.heap[k]? = w.heap[k]?) : Sx A W w' (.blk g cs' T :: L) := by
  have h0 := hbel 0 w (Below.refl _ _) (Nat.zero_le _)
  exact h.turn rfl (fun k hk => .inl hk) hb h0.os h0.tape h0.output (by omega) fun k _ hne => hk k hne
theorem run_store1 {o : Oper} {a : Act} {w : World} {T T' : TypeId} [hT : TOne P T] {g off : Nat} {cs : List Value} {v : Value} (hop : o.op = .store T x y) (hp : a.eval x = .pointer (some ⟨g, off, none⟩)) (hx : a.eval y = v) (hv : v.oneCell' = true) (hb : w.heap[g]? = some (.cells cs.toArray T' (0, 0))) (hf : off < cs.length) :
    (execOp a.eval o).run P w = .ok .skip (w.setCell ⟨g, off, none⟩ v) := by
  obtain ⟨hcell, hfz⟩ := blk_cells hb
  obtain ⟨j, hj, hjs⟩ := Option.map_eq_some_iff.1 hT.size
  have hone : v.cells = #[v] := by cases v <;> first | rfl | simp [Value.oneCell'] at hv
  have hst : (store (⟨g, off, none⟩ : Addr) v).run P w = .ok () (w.setCell ⟨g, off, none⟩ v) := by
    have hcl : w.cell? ⟨g, off, none⟩ = some (cs[off]'hf) := by rw [hcell]; simp [hf]
    cases v <;> first | (simp [Value.oneCell'] at hv; done) | simp [store, Sem.run, hcl, hfz]
  have hrun : (storeVar T ⟨g, off, none⟩ v).run P w = .ok () (w.setCell ⟨g, off, none⟩ v) := by
    simp [storeVar, hone, sizeOf, typeInfo, hj, hjs, storeCells, Addr.add, hst]
  unfold execOp
  simp only [hop, hp, hx, Instr.storeAt, Instr.sureAddr, Sem.run_bind, Sem.run_pure, Result.andThen_ok, hrun]
theorem s_store {T' g off : Nat} [hT : TOne P T] {cs cs' : List Value} {v : Value} (hp : ev E x = some (.pointer (some ⟨g, off, none⟩))) (hx : ev E y = some v) (hv : v.oneCell' = true) [hm : TakeB g L cs T' M] [hs : SetAt cs off [v] cs'] : RunsS P A W n D E L (.store T x y) (.blk g cs' T' :: M) := fun a w ka s o hop => by
  have h2 := s.perm hm.perm
  have hb : w.heap[g]? = some (.cells cs.toArray T' (0, 0)) := h2.ok (.blk _ _ _) (List.mem_cons_self ..)
  have hf := hs.fit
  simp only [List.length_singleton] at hf
  refine ⟨_, run_store1 hop (ka.ev hp) (ka.ev hx) hv hb (by omega), h2.put ?_ (fun B w0 hB hg => hB.setCell hg v) (by simp) (fun k hk => heap_setCell_other w _ k v hk)⟩
  rw [heap_setCell_same w g off _ T' v hb, hs.eq, List.setIfInBounds_toArray, List.length_singleton, List.set_eq_take_append_cons_drop, if_pos (by omega)]
  simp
/-- at a place that is a variable -/
theorem s_set {T' g off : Nat} [hT : TOne P T] {cs cs' : List Value} {v : Value} (hp : ev E x = some (.pointer (some ⟨g, off, none⟩))) (hx : ev E y = some v) (hv : v.oneCell' = true) [hm : TakeB g L cs T' M] (hf : off < cs.length) (hs : cs.set off v = cs') : RunsS P A W n D E L (.store T x y) (.blk g cs' T' :: M) := fun a w ka s o hop => by
  have h2 := s.perm hm.perm
  have hb : w.heap[g]? = some (.cells cs.toArray T' (0, 0)) := h2.ok (.blk _ _ _) (List.mem_cons_self ..)
  refine ⟨_, run_store1 hop (ka.ev hp) (ka.ev hx) hv hb hf, h2.put ?_ (fun B w0 hB hg => hB.setCell hg v) (by simp) (fun k hk => heap_setCell_other w _ k v hk)⟩
  rw [heap_setCell_same w g off _ T' v hb, List.setIfInBounds_toArray, hs]
theorem s_storer {T' g off m : Nat} [hT : TRow P T m] {cs new cs' : List Value} (hp : ev E x = some (.pointer (some ⟨g, off, none⟩))) (hx : ev E y = some (.agg new.toArray)) [hm : TakeB g L cs T' M] [hn : Row new m] [hs : SetAt cs off new cs'] : RunsS P A W n D E L (.store T x y) (.blk g cs' T' :: M) := fun a w ka s o hop => by
  have h2 := s.perm hm.perm
  have hb : w.heap[g]? = some (.cells cs.toArray T' (0, 0)) := h2.ok (.blk _ _ _) (List.mem_cons_self ..)
  have hrun := ex_store_mid (P := P) (a := a) (o := o) hop (ka.ev hp) (ka.ev hx) hb (by rw [hn.len]; exact hT.size) (by simpa using hs.fit) hn.one
  refine ⟨_, hrun, h2.put ?_ (fun B w0 hB hg => below_setRow hB hg _) (by simp) (fun k hk => setRow_other w g k _ hk)⟩
  rw [setRow_heap w g _ _ T' _ hb, hs.eq]
/-- a row of one's own, written -/
theorem own_parts {w : World} {g N c e size : Nat} {xs : List Value} (h : w.ownsRow 0 e size (.slice (some ⟨g, 0, none⟩) N c) N xs) : ∃ cur : List Value, w.heap[g]? = some (.cells cur.toArray e (0, 0)) ∧ N ≤ c ∧ c ≤ maxLen ∧ cur.length = c * size ∧ cur.take (N * size) = xs := by
  obtain ⟨hl, h | ⟨g', cap, cur, e1, _, hb, h1, h2, h3, h4⟩⟩ := h
  · cases h.1
  · injection e1 with e1 _ e2
    injection e1 with e1
    injection e1 with e1 _
    subst e1 e2
    exact ⟨cur.toList, by simpa using hb, h1, h2, by simpa using h3, h4⟩
theorem s_setO {g N c e size off : Nat} [hT : TOne P T] {xs xs' : List Value} {v : Value} (hp : ev E x = some (.pointer (some ⟨g, off, none⟩))) (hx : ev E y = some v) (hv : v.oneCell' = true) [hm : TakeG g L N c e size xs M] (hf : off < xs.length) (hs : xs.set off v = xs') : RunsS P A W n D E L (.store T x y) (.own (.slice (some ⟨g, 0, none⟩) N c) N e size xs' :: M) := fun a w ka s o hop => by
  have h2 := s.perm hm.perm
  have ho : w.ownsRow 0 e size (.slice (some ⟨g, 0, none⟩) N c) N xs := h2.ok (.own _ _ _ _ _) (List.mem_cons_self ..)
  obtain ⟨cur, hb, h3, h4, h5, h6⟩ := own_parts ho
  have hoff : off < cur.length := by rw [← h6, List.length_take] at hf; omega
  have hb' : (w.setCell ⟨g, off, none⟩ v).heap[g]? = some (.cells (cur.set off v).toArray e (0, 0)) := by
    rw [heap_setCell_same w g off _ e v hb, List.setIfInBounds_toArray]
  have hbl : Below 0 w (w.setCell ⟨g, off, none⟩ v) := (Below.refl 0 w).setCell (Nat.zero_le _) v
  refine ⟨_, run_store1 hop (ka.ev hp) (ka.ev hx) hv hb hoff, h2.turn rfl (fun k hk => .inl hk) (own_new hb' (by rw [← hs, List.length_set]; exact ho.1) h3 h4 (by rw [List.length_set]; exact h5) (by rw [List.take_set, h6, hs])) hbl.os hbl.tape hbl.output hbl.size fun k _ hne => heap_setCell_other w _ k v fun e => hne (show some g = some k by rw [e])⟩
end
/-! slices of slices -/
section
variable {P : Program} {n : Nat} {D : List Deferred} {E : Env} {L : List Fa} {T : TypeId} {x : Operand} {A : Option Addr} {N c l h : Nat} {i j : Int} {k k' : IntKind} {p q : Operand} {e size bytes : Nat} {z : Value}
theorem ts_size [E' : TS P T e size bytes z] : (P.info? e).map (·.size) = some size := by
  obtain ⟨t, hi, _, hsz, _⟩ := info_parts E'.el.hi
  rw [hi, Option.map_some, hsz]
theorem cutA_lt {b o : Nat} (hl : l < c) : cutA (some ⟨b, o, none⟩) c l size = some ⟨b, o + l * size, none⟩ := by
  unfold cutA
  rw [if_neg (by omega), Option.map_some, Addr.add_mid]
theorem r_slL [E' : TS P T e size bytes z] (hx : ev E x = some (.slice A N c)) (hp : ev E p = some (.int k i)) [hi : NatOf i l] (hl : l ≤ N := by omega) : Runs0 P n D E L (.slice T x (some p) none none) (.slice (cutA A c l size) (N - l) (c - l)) := fun a w ka s o ho => by
  obtain rfl := hi.eq
  have := cut_l (P := P) (w := w) ho E'.el.ht (ts_size (E' := E')) (ka.ev hx) (ka.ev hp) (by omega) (by omega)
  simpa using this
theorem r_slH [E' : TS P T e size bytes z] (hx : ev E x = some (.slice A N c)) (hq : ev E q = some (.int k j)) [hj : NatOf j h] (hl : h ≤ c := by omega) : Runs0 P n D E L (.slice T x none (some q) none) (.slice (cutA A c 0 size) h c) := fun a w ka s o ho => by
  obtain rfl := hj.eq
  have := cut_h (P := P) (w := w) ho E'.el.ht (ts_size (E' := E')) (ka.ev hx) (ka.ev hq) (by omega) (by omega)
  simpa using this
theorem r_slLH [E' : TS P T e size bytes z] (hx : ev E x = some (.slice A N c)) (hp : ev E p = some (.int k i)) (hq : ev E q = some (.int k' j)) [hi : NatOf i l] [hj : NatOf j h] (hl : l ≤ h := by omega) (hh : h ≤ c := by omega) : Runs0 P n D E L (.slice T x (some p) (some q) none) (.slice (cutA A c l size) (h - l) (c - l)) := fun a w ka s o ho => by
  obtain rfl := hi.eq
  obtain rfl := hj.eq
  have := cut_lh (P := P) (w := w) ho E'.el.ht (ts_size (E' := E')) (ka.ev hx) (ka.ev hp) (ka.ev hq) (by omega) (by omega) (by omega)
  simpa using this
/-- where it begins ahead of the capacity's end -/
theorem r_slLHb [E' : TS P T e size bytes z] {b O O' m c' : Nat} (hx : ev E x = some (.slice (some ⟨b, O, none⟩) N c)) (hp : ev E p = some (.int k i)) (hq : ev E q = some (.int k' j)) [hi : NatOf i l] [hj : NatOf j h] (hm : l + m = h := by omega) (hh : h ≤ c := by omega) (hlt : l < c := by omega) (hO : O + l * size = O' := by first | (simp only [Nat.zero_add, Nat.add_zero, Nat.mul_one, Nat.reduceMul, Nat.reduceAdd]; exact rfl) | exact rfl) (hc : c - l = c' := by rfl) :
    Runs0 P n D E L (.slice T x (some p) (some q) none) (.slice (some ⟨b, O', none⟩) m c') := fun a w ka s o ho => by
  have hr := r_slLH (P := P) (n := n) (D := D) (L := L) (T := T) hx hp hq (by omega) hh a w ka s o ho
  rw [cutA_lt hlt, hO, hc, show h - l = m by omega] at hr
  exact hr
theorem run_slLHM [E' : TS P T e size bytes z] {b O : Nat} {i1 i2 i3 : Int} {k1 k2 k3 : IntKind} {m : Nat} (w : World) (h1 : NatOf i1 l) (h2 : NatOf i2 h) (h3 : NatOf i3 m) (a1 : l ≤ h) (a2 : h ≤ m) (a3 : m ≤ c) (a4 : l < m) :
    (Instr.sliceAt T (.slice (some ⟨b, O, none⟩) N c) (some (.int k1 i1)) (some (.int k2 i2)) (some (.int k3 i3))).run P w = .ok (.slice (some ⟨b, O + l * size, none⟩) (h - l) (m - l)) w := by
  obtain rfl := h1.eq
  obtain rfl := h2.eq
  obtain rfl := h3.eq
  obtain ⟨t, hi, _, hsz, _⟩ := info_parts E'.el.hi
  have c1 : (0 : Int) ≤ (m : Int) ∧ (m : Int) ≤ (c : Int) := ⟨by omega, by omega⟩
  have c2 : (0 : Int) ≤ (h : Int) ∧ (h : Int) ≤ (m : Int) := ⟨by omega, by omega⟩
  have c3 : (0 : Int) ≤ (l : Int) ∧ (l : Int) ≤ (h : Int) := ⟨by omega, by omega⟩
  have hne : ¬ m = l := by omega
  unfold Instr.sliceAt
  simp only [Sem.run_bind, run_underlying E'.el.ht, Result.andThen_ok, Instr.slice, Instr.sliceBounds, Instr.sliceBound, asIntOf, Sem.run_pure, if_pos c1, if_pos c2, if_pos c3, Int.toNat_natCast, sizeOf, typeInfo, Option.isSome_some]
  simp [hi, hsz, hne, Addr.add_mid]
theorem r_slLHM [E' : TS P T e size bytes z] {b O O' m N' c' : Nat} {r : Operand} {i3 : Int} {k3 : IntKind} (hx : ev E x = some (.slice (some ⟨b, O, none⟩) N c)) (hp : ev E p = some (.int k i)) (hq : ev E q = some (.int k' j)) (hr : ev E r = some (.int k3 i3)) [hi : NatOf i l] [hj : NatOf j h] [h3 : NatOf i3 m] (a1 : l ≤ h := by omega) (a2 : h ≤ m := by omega) (a3 : m ≤ c := by omega) (a4 : l < m := by omega)
    (hO : O + l * size = O' := by first | (simp only [Nat.zero_add, Nat.add_zero, Nat.mul_one, Nat.reduceMul, Nat.reduceAdd]; exact rfl) | exact rfl) (hN : h - l = N' := by first | (simp only [Nat.add_sub_cancel_left]; exact rfl) | exact rfl) (hc : m - l = c' := by first | (simp only [Nat.add_sub_cancel_left]; exact rfl) | exact rfl) : Runs0 P n D E L (.slice T x (some p) (some q) (some r)) (.slice (some ⟨b, O', none⟩) N' c') := fun a w ka s o ho => by
  subst hO hN hc
  have := run_slLHM (P := P) (T := T) (N := N) (b := b) (O := O) (k1 := k) (k2 := k') (k3 := k3) w hi hj h3 a1 a2 a3 a4
  unfold execOp
  simp only [ho, ka.ev hx, Option.map_some, ka.ev hp, ka.ev hq, ka.ev hr]
  rw [Sem.run_bind, this]
  rfl
end
end Go.Proofs.YtgfkbeipckbkiaaDoor
