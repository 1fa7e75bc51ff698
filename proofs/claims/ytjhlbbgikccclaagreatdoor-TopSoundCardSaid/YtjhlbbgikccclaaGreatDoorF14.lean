/- joined texts -/
import Derived.Test.YtjhlbbgikccclaaGreatDoorF13
import Derived.DefersIn
import Derived.Lib.AppendZerosOnto
import Derived.Lib.Overlaps
set_option linter.all false
namespace Go.Proofs.YtjhlbbgikccclaaGreatDoor
section
open Go.RowKit
def QeM (P : Program) (f : FuncId) (args : Array Value) (R A : List Fa) {τ : Type} (v : τ → Value) (N : τ → List Fa) : Prop :=
 ∀ w, Fx w A → qw w A R → CallsDIn (FR none) 0 P f args .returning w fun e u' w' => u' = .returning ∧ ∃ x, e = .returned (v x) ∧ Rx A w w' (N x)
def Qkb (P : Program) (A : List Fa) (W : World) (L : List Fa) (f : FuncId) (args : Array Value) {τ : Type} (v : τ → Value) (L' : τ → List Fa) : Prop := ∀ w, Sx A W w L → CallsDIn (FR none) 0 P f args .returning w fun e u' w' => u' = .returning ∧ ∃ x, e = .returned (v x) ∧ Sx A W w' (L' x)
section
variable {A : List Fa} {W : World} {n : Nat} {D : List Deferred} {E : Env} {L : List Fa} {P : Program} {Q : Exit → Act → World → Prop} {ops : Array Oper} {rest : List Oper} {ty : TypeId} {pos : String} {af : Array Edge} {g : Option (Nat × Bool)}
theorem QeM.comes {f : FuncId} {args : Array Value} {R A' M : List Fa} {τ : Type} {v : τ → Value} {N L' : τ → List Fa} (hs : QeM P f args R A' v N) [ht : Take A' L M] [hr : Rds M R] [hN : ∀ x, App (N x) M (L' x)] : Qkb P A W L f args v L' := fun w s => by
 have s2 := s.perm ht.perm
 refine (hs w (s2.toFx.sub (List.sublist_append_left _ _)) (s.reads ht.perm hr)).mono ?_
 rintro e u' w' ⟨rfl, x, rfl, hx⟩
 exact ⟨rfl, x, rfl, ((hN x).eq) ▸ s2.ret hx⟩
theorem Qgj {f : FuncId} {fn : Func} {c : Code} {args : List Value} {R A' L : List Fa} {τ : Type} {v : τ → Value} {N : τ → List Fa} (hf : P.funcs[f]? = some fn) (hb : fn.body = some c) (hn : fn.ntmps = n) (hl : Nat.ble args.length n = true) [hL : App A' R L]
  (h : ∀ W, H A' W n [] (Y7 0 args) L (c.wpIn (FR none) 0 P (bodyPost P fn fun e w' => ∃ x, e = .returned (v x) ∧ Rx A' W w' (N x)))) : QeM P f args.toArray R A' v N := fun w hA hR => by
 have hl' : args.length ≤ n := by simpa using hl
 refine (callsDIn_of_wp hf hb trivial (h w _ w ⟨?_, rfl, fun t u ht => ?_⟩ (hL.eq ▸ Sx.start hA hR))).mono fun e u' w' ⟨h1, h2⟩ => ⟨h1, h2⟩
 ·simp only [hn, Array.size_append, List.size_toArray, Array.size_replicate]
  omega
 obtain ⟨_, h2⟩ := JZ args 0 t u ht
 have hlt : t < args.length := by
  obtain ⟨h3, _⟩ := List.getElem?_eq_some_iff.1 h2
  simpa using h3
 rw [Array.getElem?_append_left (by simpa using hlt)]
 simpa using h2
theorem Qlm {fn : Func} {R : Ending → World → Prop} (hf : fn.results = #[]) (hR : ∀ w, Sx A W w L → R (.returned (.tuple #[])) w) : H A W n [] E L (bodyPost P fn R .ret) := fun a w ka s => ⟨ka.defers, _, results_none hf _ _ _, hR w s⟩
theorem Qlk {fn : Func} {R : Ending → World → Prop} (h : H A W n D E L (bodyPost P fn R .ret)) : H A W n D E L (bodyPost P fn R .normal) := h
theorem Qaw {x : Operand} {l : List Operand} {ts : Array TypeId} {fv : Fn} {cap argv : List Value} (hx : ev E x = some (.func fv #[] cap.toArray)) (ha : evs E l = some argv)
  (k : H A W n ({ target := .fn fv cap.toArray, args := argv.toArray } :: D) E L (wpListIn (FR none) 0 P ops Q rest)) (hg : wn ops E g = some true := by exact rfl) : H A W n D E L (wpListIn (FR none) 0 P ops Q (⟨none, .defer ⟨.value x, l.toArray, ts⟩, ty, pos, af, g⟩ :: rest)) := fun a w ka s => by
 unfold wpListIn
 rw [JE ka hg, if_pos rfl]
 have he : (execOp a.eval (⟨none, .defer ⟨.value x, l.toArray, ts⟩, ty, pos, af, g⟩ : Oper)).run P w = .ok (.defer { target := .fn fv cap.toArray, args := argv.toArray }) w := by
  unfold execOp
  simp only [resolve, ka.ev hx, Deferred.ofValue, Sem.run_bind, Sem.run_pure, Result.andThen_ok]
  rw [List.map_toArray, ka.evs ha]
  simp
 refine ⟨fun _ _ => trivial, ?_⟩
 rw [show (Oper.semAt (FR none).round a.eval (⟨none, .defer ⟨.value x, l.toArray, ts⟩, ty, pos, af, g⟩ : Oper)).run P w = _ from he]
 exact k { a with defers := _ :: a.defers } w ⟨ka.size, by rw [ka.defers], ka.val⟩ s
theorem Y9 {fn : Func} {R : Ending → World → Prop} {f : FuncId} [he : Ent P f] {cap argv args : List Value} {τ : Type} {v : τ → Value} {L' : τ → List Fa} (hc : Qkb P A W L f args.toArray v L') (hargs : argv ++ cap = args)
  (k : ∀ x, H A W n D E (L' x) (bodyPostM (FR none) 0 P fn R .ret)) : H A W n ({ target := .fn (.func f) cap.toArray, args := argv.toArray } :: D) E L (bodyPostM (FR none) 0 P fn R .ret) := fun a w ka s => by
 show LeavesInM (FR none) 0 P fn a.tmps R a.defers .returning w
 rw [ka.defers]
 refine ⟨by simp, .inr ⟨(fun h => by cases h), _, _, f, args.toArray, rfl, ?_, fun _ _ => trivial, ?_⟩⟩
 ·show (callFunc f (argv.toArray ++ cap.toArray)).run P w = _
  rw [← hargs, show (argv.toArray ++ cap.toArray : Array Value) = (argv ++ cap).toArray by simp]
  exact he.ok _ _
 refine (hc w s).mono ?_
 rintro e u' w' ⟨rfl, x, rfl, hx⟩
 exact k x { a with defers := D } w' ⟨ka.size, rfl, ka.val⟩ hx
end
end
section
open Go.RowKit
theorem QdW (g8 g9 g5 : Nat) (p : Option Addr) (q : Option Addr) : QeM Tryz.prog 225 [.pointer (some ⟨g9, 0, none⟩), .pointer (some ⟨g5, 0, none⟩), .pointer (some ⟨g8, 0, none⟩)].toArray [.rd (some ⟨g9, 0, none⟩) [.bool true]] [] (fun _ : Unit => .tuple #[]) (fun _ => []) := by
 refine Qgj Tryz.func225 rfl (n := 6) rfl rfl ?_
 intro W
 refine yR ?_
 refine Qb (Qf rfl) ?_
 refine Qb (Ji rfl) ?_
 refine yN ?_
 refine Qt rfl ?_
 refine Qn ?_
 refine Qlk ?_
 exact Qlm rfl fun w s => ⟨(), rfl, s.res (List.nil_sublist _) (by simp)⟩
theorem QdV (g8 g9 g5 : Nat) (p : Option Addr) (q : Option Addr) : QeM Tryz.prog 225 [.pointer (some ⟨g9, 0, none⟩), .pointer (some ⟨g5, 0, none⟩), .pointer (some ⟨g8, 0, none⟩)].toArray [.rd (some ⟨g9, 0, none⟩) [.bool false], .rd (some ⟨g5, 0, none⟩) [.pointer p]] [.blk g8 [.pointer q] 31] (fun _ : Unit => .tuple #[]) (fun _ => [.blk g8 [.pointer p] 31]) := by
 refine Qgj Tryz.func225 rfl (n := 6) rfl rfl ?_
 intro W
 refine yR ?_
 refine Qb (Qf rfl) ?_
 refine Qb (Ji rfl) ?_
 refine yN ?_
 refine Qz rfl ?_
 refine Q5 ?_
 refine Qb (Qf rfl) ?_
 refine Q7 (QV rfl rfl rfl) ?_
 refine QE ?_
 refine Qlk ?_
 exact Qlm rfl fun w s => ⟨(), rfl, (same (L' := [.blk g8 [.pointer p] 31]) w s).res (List.Sublist.refl _) (by simp [Fa.wr])⟩
end
section
open Go.RowKit
def ZD (m : List En) (key : B32) : Bool := m.any fun e => decide (e.key = key)
theorem Qdr (m : List En) (d : Nat) (key : B32) : ZD (part m d (Q4 key d)) key = ZD m key := by
 unfold ZD part
 rw [List.any_filter]
 congr 1
 funext e
 by_cases h : e.key = key
 ·rw [h, decide_eq_true rfl, beq_self_eq_true]; rfl
 rw [decide_eq_false h, Bool.and_false]
theorem QfX {m : List En} {key : B32} (h : ZD m key = false) : Js m key = m := Z6 fun e he hk => by
 have : ZD m key = true := List.any_eq_true.2 ⟨e, he, decide_eq_true hk⟩
 rw [h] at this
 cases this
theorem QcA {m : List En} {d : Nat} (h : Alike m d) (k : B32) : Alike (Js m k) d := ⟨h.nodup.sublist ((List.filter_sublist).map _), fun e he f hf i hi => h.same e (List.mem_filter.1 he).1 f (List.mem_filter.1 hf).1 i hi⟩
theorem QbM (m : List En) (k : B32) : (Js m k).length ≤ m.length := List.length_filter_le _ _
theorem Qnf (n : Nat) (hn : n ≤ 256) (gh gc : Nat) (key : B32) {m : List En} {d : Nat} (hd : d ≤ 256) (ha : Alike m d) : m.length ≤ 1000000 → ∀ (h : Zh) (k : Nat) (p : Option Addr), RdZ h (some ⟨1, 0, none⟩) Jd → TrZ n h (mkT m d) p → k + 3 * (257 - d) ≤ 10000000000 →
  QC Tryz.prog 151 [.pointer (some ⟨gh, 0, none⟩), .pointer p, .agg key.cells.toArray, .int .i64 (d : Int)].toArray [HR gh gc n] [.zone true h, CN gc k] (fun u : {u : Zh × Option Addr × Nat // LeZ h u.1 ∧ TrZ n u.1 (mkT (Js m key) d) u.2.1 ∧ u.2.2 ≤ k + 3 * (257 - d)} => .tuple #[.pointer u.1.2.1, .bool (ZD m key)]) (fun u => [.zone true u.1.1, CN gc u.1.2.2]) := by
 refine Z1 (p := fun m d => m.length ≤ 1000000 → ∀ (h : Zh) (k : Nat) (p : Option Addr), RdZ h (some ⟨1, 0, none⟩) Jd → TrZ n h (mkT m d) p → k + 3 * (257 - d) ≤ 10000000000 →
  QC Tryz.prog 151 [.pointer (some ⟨gh, 0, none⟩), .pointer p, .agg key.cells.toArray, .int .i64 (d : Int)].toArray [HR gh gc n] [.zone true h, CN gc k] (fun u : {u : Zh × Option Addr × Nat // LeZ h u.1 ∧ TrZ n u.1 (mkT (Js m key) d) u.2.1 ∧ u.2.2 ≤ k + 3 * (257 - d)} => .tuple #[.pointer u.1.2.1, .bool (ZD m key)]) (fun u => [.zone true u.1.1, CN gc u.1.2.2])) ?_ ?_ ?_ (256 - d) m d (Nat.le_refl _) hd ha
 ·intro d _ h k p hT ht hk
  rw [Jx] at ht
  have hK := J3 n h .nil p
  refine Qk Tryz.func151 rfl (n := 57) rfl rfl ?_
  intro W
  refine yR ?_
  refine Qo (JW rfl) fun g5 => ?_
  refine Qo (Q9 rfl) fun g6 => ?_
  refine Qo (Q0) fun g8 => ?_
  refine Qo (Q0) fun g9 => ?_
  refine yN ?_
  refine yR ?_
  refine Qb (Y1 rfl rfl) ?_
  refine Qaw rfl rfl ?_
  refine yN ?_
  refine Qd ?_
  refine yR ?_
  refine Qb (Qf rfl) ?_
  refine Qh (hK.comes) rfl rfl rfl fun _ => ?_
  refine yN ?_
  refine Qq ?_
  refine yR ?_
  refine Qb (Ql (QG rfl rfl) (show _ = false from rfl)) ?_
  refine yS rfl ?_
  refine yN ?_
  refine Qt rfl ?_
  refine yR ?_
  refine Qb (Ql (QG rfl rfl) (show _ = false from rfl)) ?_
  refine yS rfl ?_
  refine yN ?_
  refine Qt rfl ?_
  refine Qn ?_
  refine Q2 ?_
  refine Qc ?_
  refine Qd ?_
  refine Q1 [.blk g8 [.pointer none] 31, .blk g9 [.bool false] 4] [] QJ (same) ?_
  refine Qp 0 rfl (Qf rfl) ?_
  refine Qp 1 rfl (Qf rfl) ?_
  refine Qv 2 ?_
  refine Qay 2 rfl (QV rfl rfl rfl) (same) ?_
  refine Qv 3 ?_
  refine J4 3 rfl (QV rfl rfl rfl) ?_
  refine Qc ?_
  refine Qs ?_
  refine Y9 (QdV g8 g9 g5 p none).comes rfl fun _ => ?_
  exact QO rfl (J5 rfl) (J5 rfl) fun w s => ⟨⟨(h, p, k), LeZ.refl h, by rw [show Js [] key = [] from rfl, Jx]; exact ht, Nat.le_add_right _ _⟩, rfl, (same (L' := [.zone true h, CN gc k]) w s).res (List.Sublist.refl _) (by simp [Fa.wr])⟩
 ·intro e d hd _ h k p hT ht hk
  rw [J0 e hd] at ht
  have hK := J3 n h (.leaf e.key e.val) p
  have hLf := Vv n h (.leaf e.key e.val) p
  have hhas : ZD [e] key = decide (e.key = key) := by simp [ZD]
  rw [hhas]
  by_cases hek : e.key = key
  ·have hrem : Js [e] key = [] := by simp [Js, hek]
   rw [decide_eq_true hek]
   refine Qk Tryz.func151 rfl (n := 57) rfl rfl ?_
   intro W
   refine yR ?_
   refine Qo (JW rfl) fun g5 => ?_
   refine Qo (Q9 rfl) fun g6 => ?_
   refine Qo (Q0) fun g8 => ?_
   refine Qo (Q0) fun g9 => ?_
   refine yN ?_
   refine yR ?_
   refine Qb (Y1 rfl rfl) ?_
   refine Qaw rfl rfl ?_
   refine yN ?_
   refine Qd ?_
   refine yR ?_
   refine Qb (Qf rfl) ?_
   refine Qh (hK.comes) rfl rfl rfl fun _ => ?_
   refine yN ?_
   refine Qq ?_
   refine yR ?_
   refine Qb (Ql (QG rfl rfl) (show _ = true from rfl)) ?_
   refine yS rfl ?_
   refine yN ?_
   refine Qz rfl ?_
   refine Qd ?_
   refine Q1 [.blk g5 [.pointer p] 31, .blk g6 key.cells 34] [] QJ (same) ?_
   refine Qp 0 rfl (Qf rfl) ?_
   refine Qp 3 rfl (Qm rfl) ?_
   refine Qv 1 ?_
   refine QR 1 rfl (hLf.comes) rfl rfl rfl (fun xx => same) fun _ => ?_
   refine Qa 2 rfl (YC rfl) ?_
   refine Qa 4 rfl (Ql (ZL rfl rfl) (decide_eq_true hek)) ?_
   refine Qv 5 ?_
   refine Qay 5 rfl (QV rfl rfl rfl) (same) ?_
   refine Qv 6 ?_
   refine J4 6 rfl (QV rfl rfl rfl) ?_
   refine Qc ?_
   refine Qs ?_
   refine Q3 ?_
   refine Qr ?_
   refine Y9 (QdW g8 g9 g5 p none).comes rfl fun _ => ?_
   exact QO rfl (J5 rfl) (J5 rfl) fun w s => ⟨⟨(h, none, k), LeZ.refl h, by rw [hrem, Jx]; exact ⟨rfl⟩, Nat.le_add_right _ _⟩, rfl, (same (L' := [.zone true h, CN gc k]) w s).res (List.Sublist.refl _) (by simp [Fa.wr])⟩
  have hrem : Js [e] key = [e] := by simp [Js, hek]
  rw [decide_eq_false hek]
  refine Qk Tryz.func151 rfl (n := 57) rfl rfl ?_
  intro W
  refine yR ?_
  refine Qo (JW rfl) fun g5 => ?_
  refine Qo (Q9 rfl) fun g6 => ?_
  refine Qo (Q0) fun g8 => ?_
  refine Qo (Q0) fun g9 => ?_
  refine yN ?_
  refine yR ?_
  refine Qb (Y1 rfl rfl) ?_
  refine Qaw rfl rfl ?_
  refine yN ?_
  refine Qd ?_
  refine yR ?_
  refine Qb (Qf rfl) ?_
  refine Qh (hK.comes) rfl rfl rfl fun _ => ?_
  refine yN ?_
  refine Qq ?_
  refine yR ?_
  refine Qb (Ql (QG rfl rfl) (show _ = true from rfl)) ?_
  refine yS rfl ?_
  refine yN ?_
  refine Qz rfl ?_
  refine Qd ?_
  refine Q1 [.blk g5 [.pointer p] 31, .blk g6 key.cells 34] [] QJ (same) ?_
  refine Qp 0 rfl (Qf rfl) ?_
  refine Qp 3 rfl (Qm rfl) ?_
  refine Qv 1 ?_
  refine QR 1 rfl (hLf.comes) rfl rfl rfl (fun xx => same) fun _ => ?_
  refine Qa 2 rfl (YC rfl) ?_
  refine Qa 4 rfl (Ql (ZL rfl rfl) (decide_eq_false hek)) ?_
  refine Qv 5 ?_
  refine Qay 5 rfl (QV rfl rfl rfl) (same) ?_
  refine Qv 6 ?_
  refine J4 6 rfl (QV rfl rfl rfl) ?_
  refine Qc ?_
  refine Qs ?_
  refine Q3 ?_
  refine Qr ?_
  refine Y9 (QdV g8 g9 g5 p none).comes rfl fun _ => ?_
  exact QO rfl (J5 rfl) (J5 rfl) fun w s => ⟨⟨(h, p, k), LeZ.refl h, by rw [hrem, J0 e hd]; exact ht, Nat.le_add_right _ _⟩, rfl, (same (L' := [.zone true h, CN gc k]) w s).res (List.Sublist.refl _) (by simp [Fa.wr])⟩
 intro m d ha hm hlt i1 i2 hml h k p hT ht hk
 have ht0 : TrZ n h (mkT m d) p := ht
 rw [qZ hm (by omega)] at ht
 have htl : TrZ n h (mkT (part m d false) (d + 1)) (YS h false p) := TrZ.left ht
 have htr : TrZ n h (mkT (part m d true) (d + 1)) (YS h true p) := TrZ.right ht
 have hK := J3 n h (.node (mkT (part m d false) (d + 1)) (mkT (part m d true) (d + 1))) p
 have hLe := Qgy n h (.node (mkT (part m d false) (d + 1)) (mkT (part m d true) (d + 1))) p
 have hRi := QdR n h (.node (mkT (part m d false) (d + 1)) (mkT (part m d true) (d + 1))) p
 have hc0 := Qa4 (d := d + 1) (by omega) (ha.part false)
 have hc1 := Qa4 (d := d + 1) (by omega) (ha.part true)
 have hc2 := Qa4 (d := d + 1) (by omega) (QcA (ha.part false) key)
 have hc3 := Qa4 (d := d + 1) (by omega) (QcA (ha.part true) key)
 have hp0 := QbK m d false
 have hp1 := QbK m d true
 have hr0 := QbM (part m d false) key
 have hr1 := QbM (part m d true) key
 cases hb : Q4 key d
 ·have hBit := ZH key d hlt
  rw [show Y2 key d = 0 by unfold Y2; rw [hb]; rfl] at hBit
  have hpk := Qdr m d key
  rw [hb] at hpk
  have hoff : Js (part m d true) key = part m d true := QfY (by rw [hb]; rfl)
  have hjn := Qa2 (m := Js m key) hlt
  rw [Z7, Z7, hoff] at hjn
  have hI := i1 (Nat.le_trans (QbK m d false) hml) h k (YS h false p) hT htl (by omega)
  rw [hpk] at hI
  obtain ⟨f, hf⟩ : ∃ f, ZD m key = f := ⟨_, rfl⟩
  rw [hf] at hI ⊢
  refine Qk Tryz.func151 rfl (n := 57) rfl rfl ?_
  intro W
  refine yR ?_
  refine Qo (JW rfl) fun g5 => ?_
  refine Qo (Q9 rfl) fun g6 => ?_
  refine Qo (Q0) fun g8 => ?_
  refine Qo (Q0) fun g9 => ?_
  refine yN ?_
  refine yR ?_
  refine Qb (Y1 rfl rfl) ?_
  refine Qaw rfl rfl ?_
  refine yN ?_
  refine Qd ?_
  refine yR ?_
  refine Qb (Qf rfl) ?_
  refine Qh (hK.comes) rfl rfl rfl fun _ => ?_
  refine yN ?_
  refine Qq ?_
  refine yR ?_
  refine Qb (Ql (QG rfl rfl) (show _ = false from rfl)) ?_
  refine yS rfl ?_
  refine yN ?_
  refine Qt rfl ?_
  refine yR ?_
  refine Qb (Ql (QG rfl rfl) (show _ = true from rfl)) ?_
  refine yS rfl ?_
  refine yN ?_
  refine Qz rfl ?_
  refine Qd ?_
  refine Q1 [.blk g5 [.pointer p] 31] [] QJ (same) ?_
  refine Qp 0 rfl (Qf rfl) ?_
  refine Qp 2 rfl (Qf rfl) ?_
  refine Qv 1 ?_
  refine QR 1 rfl (hLe.comes) rfl rfl rfl (fun xx => same) fun _ => ?_
  refine Qv 3 ?_
  refine QR 3 rfl (hRi.comes) rfl rfl rfl (fun xx => same) fun _ => ?_
  refine Qa 4 rfl (Q6 rfl) ?_
  refine Qa 5 rfl (Q6 rfl) ?_
  refine QB (by kernel_rfl) ?_
  refine Qc ?_
  refine Qd ?_
  refine yR ?_
  refine Qb (Qm rfl) ?_
  refine yM rfl ?_
  refine Qh (hBit.comes) rfl rfl rfl fun _ => ?_
  refine Qb (Ql (QG rfl rfl) (show _ = true from rfl)) ?_
  refine yN ?_
  refine Qz rfl ?_
  refine Q5 ?_
  refine yM rfl ?_
  refine yM rfl ?_
  refine Qb (Qm rfl) ?_
  refine yM rfl ?_
  refine Qb (Jv (QI rfl rfl) (show _ = ((d + 1 : Nat) : Int) by omega)) ?_
  refine Qh (hI.comes) rfl rfl rfl fun ⟨⟨h1, q, k1⟩, hle, htq, hk1⟩ => ?_
  dsimp only at hle htq hk1 ⊢
  cases f
  ·refine yM rfl ?_
   refine Qb (Qj rfl rfl) ?_
   refine Qb (Qj rfl rfl) ?_
   refine yS rfl ?_
   refine Q7 (QV rfl rfl rfl) ?_
   refine yN ?_
   refine yR ?_
   refine Qb (Qf rfl) ?_
   refine yN ?_
   refine Qt rfl ?_
   refine Qn ?_
   refine Q2 ?_
   refine Qc ?_
   refine Qd ?_
   refine Q1 [.blk g8 [.pointer none] 31, .blk g9 [.bool false] 4] [] QJ (same) ?_
   refine Qp 0 rfl (Qf rfl) ?_
   refine Qp 1 rfl (Qf rfl) ?_
   refine Qv 2 ?_
   refine Qay 2 rfl (QV rfl rfl rfl) (same) ?_
   refine Qv 3 ?_
   refine J4 3 rfl (QV rfl rfl rfl) ?_
   refine Qc ?_
   refine Qs ?_
   refine Y9 (QdV g8 g9 g5 p none).comes rfl fun _ => ?_
   exact QO rfl (J5 rfl) (J5 rfl) fun w s => ⟨⟨(h1, p, k1), hle, by rw [QfX hf]; exact ⟨ht0.ok.mono hle⟩, by dsimp only; omega⟩, rfl, (same (L' := [.zone true h1, CN gc k1]) w s).res (List.Sublist.refl _) (by simp [Fa.wr])⟩
  refine yM rfl ?_
  refine Qb (Qj rfl rfl) ?_
  refine Qb (Qj rfl rfl) ?_
  refine yS rfl ?_
  refine Q7 (QV rfl rfl rfl) ?_
  refine yN ?_
  refine yR ?_
  refine Qb (Qf rfl) ?_
  refine yN ?_
  refine Qz rfl ?_
  refine Q5 ?_
  refine yM rfl ?_
  refine yM rfl ?_
  refine yM rfl ?_
  have hjc := Qa1 (mkT (Js (part m d false) key) (d + 1)) (mkT (part m d true) (d + 1))
  refine Qh ((QbS n hn gh gc k1 (by omega) h1 (ht := hT.mono hle) (mkT (Js (part m d false) key) (d + 1)) (mkT (part m d true) (d + 1)) q (YS h true p) (hr := ⟨htr.ok.mono hle⟩) (by omega)).comes) rfl rfl rfl fun ⟨⟨h2, r⟩, hle2, htr2⟩ => ?_
  dsimp only at hle2 htr2 ⊢
  rw [hjn] at htr2
  refine Q7 (QV rfl rfl rfl) ?_
  refine QE ?_
  refine Q2 ?_
  refine Qc ?_
  refine Qd ?_
  refine Q1 [.blk g8 [.pointer r] 31, .blk g9 [.bool true] 4] [] QJ (same) ?_
  refine Qp 0 rfl (Qf rfl) ?_
  refine Qp 1 rfl (Qf rfl) ?_
  refine Qv 2 ?_
  refine Qay 2 rfl (QV rfl rfl rfl) (same) ?_
  refine Qv 3 ?_
  refine J4 3 rfl (QV rfl rfl rfl) ?_
  refine Qc ?_
  refine Qs ?_
  refine Y9 (QdW g8 g9 g5 p none).comes rfl fun _ => ?_
  exact QO rfl (J5 rfl) (J5 rfl) fun w s => ⟨⟨(h2, r, k1 + YF (mkT (Js (part m d false) key) (d + 1)) (mkT (part m d true) (d + 1))), hle.trans hle2, htr2, by dsimp only; omega⟩, rfl, (same (L' := [.zone true h2, CN gc (k1 + YF (mkT (Js (part m d false) key) (d + 1)) (mkT (part m d true) (d + 1)))]) w s).res (List.Sublist.refl _) (by simp [Fa.wr])⟩
 have hBit := ZH key d hlt
 rw [show Y2 key d = 1 by unfold Y2; rw [hb]; rfl] at hBit
 have hpk := Qdr m d key
 rw [hb] at hpk
 have hoff : Js (part m d false) key = part m d false := QfY (by rw [hb]; rfl)
 have hjn := Qa2 (m := Js m key) hlt
 rw [Z7, Z7, hoff] at hjn
 have hI := i2 (Nat.le_trans (QbK m d true) hml) h k (YS h true p) hT htr (by omega)
 rw [hpk] at hI
 obtain ⟨f, hf⟩ : ∃ f, ZD m key = f := ⟨_, rfl⟩
 rw [hf] at hI ⊢
 refine Qk Tryz.func151 rfl (n := 57) rfl rfl ?_
 intro W
 refine yR ?_
 refine Qo (JW rfl) fun g5 => ?_
 refine Qo (Q9 rfl) fun g6 => ?_
 refine Qo (Q0) fun g8 => ?_
 refine Qo (Q0) fun g9 => ?_
 refine yN ?_
 refine yR ?_
 refine Qb (Y1 rfl rfl) ?_
 refine Qaw rfl rfl ?_
 refine yN ?_
 refine Qd ?_
 refine yR ?_
 refine Qb (Qf rfl) ?_
 refine Qh (hK.comes) rfl rfl rfl fun _ => ?_
 refine yN ?_
 refine Qq ?_
 refine yR ?_
 refine Qb (Ql (QG rfl rfl) (show _ = false from rfl)) ?_
 refine yS rfl ?_
 refine yN ?_
 refine Qt rfl ?_
 refine yR ?_
 refine Qb (Ql (QG rfl rfl) (show _ = true from rfl)) ?_
 refine yS rfl ?_
 refine yN ?_
 refine Qz rfl ?_
 refine Qd ?_
 refine Q1 [.blk g5 [.pointer p] 31] [] QJ (same) ?_
 refine Qp 0 rfl (Qf rfl) ?_
 refine Qp 2 rfl (Qf rfl) ?_
 refine Qv 1 ?_
 refine QR 1 rfl (hLe.comes) rfl rfl rfl (fun xx => same) fun _ => ?_
 refine Qv 3 ?_
 refine QR 3 rfl (hRi.comes) rfl rfl rfl (fun xx => same) fun _ => ?_
 refine Qa 4 rfl (Q6 rfl) ?_
 refine Qa 5 rfl (Q6 rfl) ?_
 refine QB (by kernel_rfl) ?_
 refine Qc ?_
 refine Qd ?_
 refine yR ?_
 refine Qb (Qm rfl) ?_
 refine yM rfl ?_
 refine Qh (hBit.comes) rfl rfl rfl fun _ => ?_
 refine Qb (Ql (QG rfl rfl) (show _ = false from rfl)) ?_
 refine yN ?_
 refine Qt rfl ?_
 refine Q5 ?_
 refine yM rfl ?_
 refine yM rfl ?_
 refine Qb (Qm rfl) ?_
 refine yM rfl ?_
 refine Qb (Jv (QI rfl rfl) (show _ = ((d + 1 : Nat) : Int) by omega)) ?_
 refine Qh (hI.comes) rfl rfl rfl fun ⟨⟨h1, q, k1⟩, hle, htq, hk1⟩ => ?_
 dsimp only at hle htq hk1 ⊢
 cases f
 ·refine yM rfl ?_
  refine Qb (Qj rfl rfl) ?_
  refine Qb (Qj rfl rfl) ?_
  refine yS rfl ?_
  refine Q7 (QV rfl rfl rfl) ?_
  refine yN ?_
  refine yR ?_
  refine Qb (Qf rfl) ?_
  refine yN ?_
  refine Qt rfl ?_
  refine Qn ?_
  refine Q2 ?_
  refine Qc ?_
  refine Qd ?_
  refine Q1 [.blk g8 [.pointer none] 31, .blk g9 [.bool false] 4] [] QJ (same) ?_
  refine Qp 0 rfl (Qf rfl) ?_
  refine Qp 1 rfl (Qf rfl) ?_
  refine Qv 2 ?_
  refine Qay 2 rfl (QV rfl rfl rfl) (same) ?_
  refine Qv 3 ?_
  refine J4 3 rfl (QV rfl rfl rfl) ?_
  refine Qc ?_
  refine Qs ?_
  refine Y9 (QdV g8 g9 g5 p none).comes rfl fun _ => ?_
  exact QO rfl (J5 rfl) (J5 rfl) fun w s => ⟨⟨(h1, p, k1), hle, by rw [QfX hf]; exact ⟨ht0.ok.mono hle⟩, by dsimp only; omega⟩, rfl, (same (L' := [.zone true h1, CN gc k1]) w s).res (List.Sublist.refl _) (by simp [Fa.wr])⟩
 refine yM rfl ?_
 refine Qb (Qj rfl rfl) ?_
 refine Qb (Qj rfl rfl) ?_
 refine yS rfl ?_
 refine Q7 (QV rfl rfl rfl) ?_
 refine yN ?_
 refine yR ?_
 refine Qb (Qf rfl) ?_
 refine yN ?_
 refine Qz rfl ?_
 refine Q5 ?_
 refine yM rfl ?_
 refine yM rfl ?_
 refine yM rfl ?_
 have hjc := Qa1 (mkT (part m d false) (d + 1)) (mkT (Js (part m d true) key) (d + 1))
 refine Qh ((QbS n hn gh gc k1 (by omega) h1 (ht := hT.mono hle) (mkT (part m d false) (d + 1)) (mkT (Js (part m d true) key) (d + 1)) (YS h false p) q (hl := ⟨htl.ok.mono hle⟩) (by omega)).comes) rfl rfl rfl fun ⟨⟨h2, r⟩, hle2, htr2⟩ => ?_
 dsimp only at hle2 htr2 ⊢
 rw [hjn] at htr2
 refine Q7 (QV rfl rfl rfl) ?_
 refine QE ?_
 refine Q2 ?_
 refine Qc ?_
 refine Qd ?_
 refine Q1 [.blk g8 [.pointer r] 31, .blk g9 [.bool true] 4] [] QJ (same) ?_
 refine Qp 0 rfl (Qf rfl) ?_
 refine Qp 1 rfl (Qf rfl) ?_
 refine Qv 2 ?_
 refine Qay 2 rfl (QV rfl rfl rfl) (same) ?_
 refine Qv 3 ?_
 refine J4 3 rfl (QV rfl rfl rfl) ?_
 refine Qc ?_
 refine Qs ?_
 refine Y9 (QdW g8 g9 g5 p none).comes rfl fun _ => ?_
 exact QO rfl (J5 rfl) (J5 rfl) fun w s => ⟨⟨(h2, r, k1 + YF (mkT (part m d false) (d + 1)) (mkT (Js (part m d true) key) (d + 1))), hle.trans hle2, htr2, by dsimp only; omega⟩, rfl, (same (L' := [.zone true h2, CN gc (k1 + YF (mkT (part m d false) (d + 1)) (mkT (Js (part m d true) key) (d + 1)))]) w s).res (List.Sublist.refl _) (by simp [Fa.wr])⟩
theorem QjU (n : Nat) (hn : n ≤ 256) (gh gc : Nat) (key : B32) {m : List En} (ha : Alike m 0) (hml : m.length ≤ 1000000) (h : Zh) (k : Nat) (p : Option Addr) (hT : RdZ h (some ⟨1, 0, none⟩) Jd) (ht : TrZ n h (mkT m 0) p) (hk : k + 771 ≤ 10000000000) :
  QC Tryz.prog 93 [.pointer (some ⟨gh, 0, none⟩), .pointer p, .agg key.cells.toArray].toArray [HR gh gc n] [.zone true h, CN gc k] (fun u : {u : Zh × Option Addr × Nat // LeZ h u.1 ∧ TrZ n u.1 (mkT (Js m key) 0) u.2.1 ∧ u.2.2 ≤ k + 771} => .tuple #[.pointer u.1.2.1, .bool (ZD m key)]) (fun u => [.zone true u.1.1, CN gc u.1.2.2]) := by
 have hR := Qnf n hn gh gc key (by decide : 0 ≤ 256) ha hml h k p hT ht (by omega)
 refine Qk Tryz.func93 rfl (n := 14) rfl rfl ?_
 intro W
 refine yR ?_
 refine Qo (Q9 rfl) fun g5 => ?_
 refine yS rfl ?_
 refine yS rfl ?_
 refine yN ?_
 refine yR ?_
 refine yM rfl ?_
 refine yM rfl ?_
 refine Qb (Qm rfl) ?_
 refine Qh (hR.comes) rfl rfl rfl fun ⟨⟨h1, q, k1⟩, hle, htq, hk1⟩ => ?_
 dsimp only at hle htq hk1 ⊢
 refine Qb (Qj rfl rfl) ?_
 refine Qb (Qj rfl rfl) ?_
 refine yS rfl ?_
 refine yS rfl ?_
 refine yN ?_
 refine Qs ?_
 exact QO rfl rfl rfl fun w s => ⟨⟨(h1, q, k1), hle, htq, by dsimp only; omega⟩, rfl, (same (L' := [.zone true h1, CN gc k1]) w s).res (List.Sublist.refl _) (by simp [Fa.wr])⟩
end
section
open Go.RowKit
theorem Qjn {l : List UInt8} (h : ¬ l.length = 32) : keyOf l = QN := by unfold keyOf; rw [dif_neg h]
def JP (kn vn : Nat) : Int := if kn = 32 then (if 65535 < vn then 3 else 0) else 2
section
variable (h : Zh) (ks : Sl) (kb : List UInt8) [hK : SlZ h ks kb]
theorem QqL : QC Tryz.prog 162 [.slice ks.A ks.n ks.c].toArray [.zone false h] [] (fun _ : Unit => .tuple #[.agg (keyOf kb).cells.toArray, .int .i64 (if kb.length = 32 then 0 else 2)]) (fun _ => []) := by
 have hkn := hK.len
 have hKr : RdZ h ks.A (bc kb) := hK.rd
 obtain ⟨kA, kn, kc⟩ := ks
 dsimp only at hkn hKr ⊢
 subst hkn
 by_cases hk : kb.length = 32
 ·rw [if_pos hk]
  have hKr2 : RdZ h kA (keyOf kb).cells := by rw [Yu hk]; exact hKr
  obtain ⟨bK, oK, rfl, -⟩ := hKr2.at_ 0 _ (List.getElem?_eq_getElem (by rw [B32.cells_length]; decide))
  refine Qk Tryz.func162 rfl (n := 11) rfl rfl ?_
  intro W
  refine yR ?_
  refine Qo (Q0) fun g2 => ?_
  refine yS rfl ?_
  refine yN ?_
  refine Qd ?_
  refine yR ?_
  refine yM rfl ?_
  refine Qb (QF rfl) ?_
  refine Qb (Ql (QL rfl rfl) (decide_eq_false (show ¬ ¬ ((kb.length : Nat) : Int) = 32 by omega))) ?_
  refine yN ?_
  refine Qt rfl ?_
  refine Qn ?_
  refine Qc ?_
  refine yR ?_
  refine yM rfl ?_
  refine Qb (VJ rfl (hm := by omega)) ?_
  refine Qb (Qm rfl) ?_
  refine Q7 (Qw rfl rfl) ?_
  refine yS rfl ?_
  refine yN ?_
  refine Qs ?_
  exact QO rfl (QZ rfl) rfl fun w s => ⟨(), rfl, s.res (List.nil_sublist _) (by simp)⟩
 rw [if_neg hk, Qjn hk]
 refine Qk Tryz.func162 rfl (n := 11) rfl rfl ?_
 intro W
 refine yR ?_
 refine Qo (Q0) fun g2 => ?_
 refine yS rfl ?_
 refine yN ?_
 refine Qd ?_
 refine yR ?_
 refine yM rfl ?_
 refine Qb (QF rfl) ?_
 refine Qb (Ql (QL rfl rfl) (decide_eq_true (show ¬ ((kb.length : Nat) : Int) = 32 by omega))) ?_
 refine yN ?_
 refine Qz rfl ?_
 refine yR ?_
 refine Qb (QD (out := QN.cells) rfl) ?_
 refine Q7 (Qw rfl rfl) ?_
 refine yS rfl ?_
 refine yN ?_
 refine Qs ?_
 refine Qr ?_
 exact QO rfl (QZ rfl) rfl fun w s => ⟨(), rfl, s.res (List.nil_sublist _) (by simp)⟩
end
theorem Qkq (n : Nat) (hn : n ≤ 256) : QC Tryz.prog 31 [.int .i64 (n : Int)].toArray [] [] (fun u : Nat × Nat × Nat => .tuple #[.pointer (some ⟨u.1, 0, none⟩), .int .i64 0]) (fun u => [.blk u.1 [.pointer (some ⟨u.2.1, 0, none⟩), .pointer none] 113, .blk u.2.1 [.pointer (some ⟨u.2.2, 0, none⟩), .int .i64 (n : Int)] 170, .blk u.2.2 [.int .i64 0] 272]) := by
 refine Qk Tryz.func31 rfl (n := 17) rfl rfl ?_
 intro W
 refine yR ?_
 refine yS rfl ?_
 refine yS rfl ?_
 refine yN ?_
 refine yR ?_
 refine yM rfl ?_
 refine Qh ((QqN n hn).comes) rfl rfl rfl fun ⟨gh, gc⟩ => ?_
 dsimp only
 refine yM rfl ?_
 refine Qb (Qj rfl rfl) ?_
 refine Qb (Qj rfl rfl) ?_
 refine yS rfl ?_
 refine yS rfl ?_
 refine yN ?_
 refine Qd ?_
 refine yR ?_
 refine yM rfl ?_
 refine Qb (Ql (QL rfl rfl) rfl) ?_
 refine yN ?_
 refine Qt rfl ?_
 refine Qn ?_
 refine Qc ?_
 refine yR ?_
 refine yM rfl ?_
 refine Qb (QD rfl) ?_
 refine Qo (Q9 rfl) fun g16 => ?_
 refine yS rfl ?_
 refine yS rfl ?_
 refine yN ?_
 refine Qs ?_
 exact QO rfl rfl rfl fun w s => ⟨(g16, gh, gc), rfl, (same (L' := [.blk g16 [.pointer (some ⟨gh, 0, none⟩), .pointer none] 113, .blk gh [.pointer (some ⟨gc, 0, none⟩), .int .i64 (n : Int)] 170, .blk gc [.int .i64 0] 272]) w s).res (List.Sublist.refl _) (by simp [Fa.wr])⟩
section
variable (h : Zh) (ks : Sl) (kb : List UInt8) [hK : SlZ h ks kb]
theorem QbV (v : Sl) : QC Tryz.prog 108 [.slice ks.A ks.n ks.c, .slice v.A v.n v.c].toArray [.zone false h] [] (fun _ : Unit => .tuple #[.agg (Entry.cells ⟨keyOf kb, v⟩).toArray, .int .i64 (JP kb.length v.n)]) (fun _ => []) := by
 have hO := QqL h ks kb
 by_cases hk : kb.length = 32
 ·rw [if_pos hk] at hO
  by_cases hv : 65535 < v.n
  ·have he : JP kb.length v.n = 3 := by unfold JP; rw [if_pos hk, if_pos hv]
   rw [he]
   refine Qk Tryz.func108 rfl (n := 24) rfl rfl ?_
   intro W
   refine yR ?_
   refine Qo (Q0) fun g4 => ?_
   refine yS rfl ?_
   refine yN ?_
   refine yR ?_
   refine yM rfl ?_
   refine Qh (hO.comes) rfl rfl rfl fun _ => ?_
   refine yM rfl ?_
   refine Qb (Qj rfl rfl) ?_
   refine Qb (Qj rfl rfl) ?_
   refine Qo (Q0) fun g6 => ?_
   refine Q7 (Qw rfl rfl) ?_
   refine yS rfl ?_
   refine yN ?_
   refine Qd ?_
   refine yR ?_
   refine yM rfl ?_
   refine Qb (Ql (QG rfl rfl) (show _ = true from rfl)) ?_
   refine yM rfl ?_
   refine yM rfl ?_
   refine Qb (QF rfl) ?_
   refine Qb (Ql (Jo rfl rfl) (decide_eq_true (by omega))) ?_
   refine Qb (Qy rfl rfl) ?_
   refine yN ?_
   refine Qz rfl ?_
   refine Q5 ?_
   refine yS rfl ?_
   refine yN ?_
   refine yR ?_
   refine Qb (Qm rfl) ?_
   refine yM rfl ?_
   refine Qb (QD rfl) ?_
   refine yM rfl ?_
   refine Q7 (Qw rfl rfl) ?_
   refine yS rfl ?_
   refine yN ?_
   refine Qs ?_
   exact QO rfl (QZ rfl) rfl fun w s => ⟨(), rfl, s.res (List.nil_sublist _) (by simp)⟩
  have he : JP kb.length v.n = 0 := by unfold JP; rw [if_pos hk, if_neg hv]
  rw [he]
  refine Qk Tryz.func108 rfl (n := 24) rfl rfl ?_
  intro W
  refine yR ?_
  refine Qo (Q0) fun g4 => ?_
  refine yS rfl ?_
  refine yN ?_
  refine yR ?_
  refine yM rfl ?_
  refine Qh (hO.comes) rfl rfl rfl fun _ => ?_
  refine yM rfl ?_
  refine Qb (Qj rfl rfl) ?_
  refine Qb (Qj rfl rfl) ?_
  refine Qo (Q0) fun g6 => ?_
  refine Q7 (Qw rfl rfl) ?_
  refine yS rfl ?_
  refine yN ?_
  refine Qd ?_
  refine yR ?_
  refine yM rfl ?_
  refine Qb (Ql (QG rfl rfl) (show _ = true from rfl)) ?_
  refine yM rfl ?_
  refine yM rfl ?_
  refine Qb (QF rfl) ?_
  refine Qb (Ql (Jo rfl rfl) (decide_eq_false (by omega))) ?_
  refine Qb (Qy rfl rfl) ?_
  refine yN ?_
  refine Qt rfl ?_
  refine Qn ?_
  refine Qc ?_
  refine yR ?_
  refine Qb (Qm rfl) ?_
  refine yM rfl ?_
  refine Qb (QD rfl) ?_
  refine yM rfl ?_
  refine Q7 (Qw rfl rfl) ?_
  refine yS rfl ?_
  refine yN ?_
  refine Qs ?_
  exact QO rfl (QZ rfl) rfl fun w s => ⟨(), rfl, s.res (List.nil_sublist _) (by simp)⟩
 rw [if_neg hk] at hO
 have he : JP kb.length v.n = 2 := by unfold JP; rw [if_neg hk]
 rw [he]
 refine Qk Tryz.func108 rfl (n := 24) rfl rfl ?_
 intro W
 refine yR ?_
 refine Qo (Q0) fun g4 => ?_
 refine yS rfl ?_
 refine yN ?_
 refine yR ?_
 refine yM rfl ?_
 refine Qh (hO.comes) rfl rfl rfl fun _ => ?_
 refine yM rfl ?_
 refine Qb (Qj rfl rfl) ?_
 refine Qb (Qj rfl rfl) ?_
 refine Qo (Q0) fun g6 => ?_
 refine Q7 (Qw rfl rfl) ?_
 refine yS rfl ?_
 refine yN ?_
 refine Qd ?_
 refine yR ?_
 refine yM rfl ?_
 refine Qb (Ql (QG rfl rfl) (show _ = false from rfl)) ?_
 refine yM rfl ?_
 refine Qg ?_
 refine Qg ?_
 refine Qg ?_
 refine Qb (Qy rfl rfl) ?_
 refine yN ?_
 refine Qt rfl ?_
 refine Qn ?_
 refine Qc ?_
 refine yR ?_
 refine Qb (Qm rfl) ?_
 refine yM rfl ?_
 refine Qb (QD rfl) ?_
 refine yM rfl ?_
 refine Q7 (Qw rfl rfl) ?_
 refine yS rfl ?_
 refine yN ?_
 refine Qs ?_
 exact QO rfl (QZ rfl) rfl fun w s => ⟨(), rfl, s.res (List.nil_sublist _) (by simp)⟩
end
theorem Qgl (op : ByteArray) (i : Int) : QC Tryz.prog 55 [.string op, .int .i64 i, .int .i64 0].toArray [] [] (fun _ : Unit => .nilIface) (fun _ => []) := by
 refine Qk Tryz.func55 rfl (n := 14) rfl rfl ?_
 intro W
 refine yR ?_
 refine yS rfl ?_
 refine yN ?_
 refine Qd ?_
 refine yR ?_
 refine yM rfl ?_
 refine Qb (QG rfl rfl) ?_
 refine yN ?_
 refine Qz rfl ?_
 refine yR ?_
 refine yS rfl ?_
 refine yN ?_
 refine Qs ?_
 refine Qr ?_
 exact Qu rfl rfl fun w s => ⟨(), rfl, s.res (List.nil_sublist _) (by simp)⟩
theorem QaG (op : ByteArray) (i : Int) (e : Int) (he : e ≠ 0) : QC Tryz.prog 55 [.string op, .int .i64 i, .int .i64 e].toArray [] [] (fun g : Nat => .iface 145 (.pointer (some ⟨g, 0, none⟩))) (fun g => [.blk g (Yf op i e) 284]) := by
 refine Qk Tryz.func55 rfl (n := 14) rfl rfl ?_
 intro W
 refine yR ?_
 refine yS rfl ?_
 refine yN ?_
 refine Qd ?_
 refine yR ?_
 refine yM rfl ?_
 refine Qb (QG rfl rfl) ?_
 refine yN ?_
 refine Ys rfl (he) ?_
 refine Qn ?_
 refine Qc ?_
 refine yR ?_
 refine yM rfl ?_
 refine yM rfl ?_
 refine yM rfl ?_
 refine Qb (qq rfl) ?_
 refine Qh ((ZU op i e).comes) rfl rfl rfl fun g13 => ?_
 refine yS rfl ?_
 refine yN ?_
 refine Qs ?_
 exact Qu rfl rfl fun w s => ⟨g13, rfl, (same (L' := [.blk g13 (Yf op i e) 284]) w s).res (List.Sublist.refl _) (by simp [Fa.wr])⟩
section
variable (h : Zh) (ks : Sl) (kb : List UInt8) [hK : SlZ h ks kb]
theorem Qbi (t0 : Nat) (op : ByteArray) (v : Sl) (he : JP kb.length v.n = 0) : QC Tryz.prog 84 [.pointer (some ⟨t0, 0, none⟩), .string op, .slice ks.A ks.n ks.c, .slice v.A v.n v.c].toArray [.zone false h] [] (fun _ : Unit => .tuple #[.agg (Entry.cells ⟨keyOf kb, v⟩).toArray, .nilIface]) (fun _ => []) := by
 have hE := QbV h ks kb v
 rw [he] at hE
 refine Qk Tryz.func84 rfl (n := 27) rfl rfl ?_
 intro W
 refine yR ?_
 refine Qo (Q0) fun g8 => ?_
 refine yS rfl ?_
 refine yN ?_
 refine Qd ?_
 refine yR ?_
 refine yM rfl ?_
 refine Qb (J2 rfl rfl) ?_
 refine yN ?_
 refine Qt rfl ?_
 refine Qn ?_
 refine Qc ?_
 refine yR ?_
 refine yM rfl ?_
 refine yM rfl ?_
 refine Qh (hE.comes) rfl rfl rfl fun _ => ?_
 refine yM rfl ?_
 refine Qb (Qj rfl rfl) ?_
 refine Qb (Qj rfl rfl) ?_
 refine Qo (Q0) fun g10 => ?_
 refine Q7 (Qw rfl rfl) ?_
 refine yS rfl ?_
 refine yN ?_
 refine Qd ?_
 refine Q1 [.blk g10 (Entry.cells ⟨keyOf kb, v⟩) 89] [] QJ (same) ?_
 refine Qp 0 rfl (Qm rfl) ?_
 refine Qa 1 rfl (Qi rfl) ?_
 refine Qa 2 rfl (Qi rfl) ?_
 refine Qv 3 ?_
 refine QR 3 rfl ((Qgl op 0).comes) rfl rfl rfl (fun xx => same) fun _ => ?_
 refine Qv 4 ?_
 refine Qay 4 rfl (Qw rfl rfl) (same) ?_
 refine Qa 5 rfl (Q6 rfl) ?_
 refine QB (by kernel_rfl) ?_
 refine Qc ?_
 refine Qs ?_
 exact QO rfl (QZ rfl) rfl fun w s => ⟨(), rfl, s.res (List.nil_sublist _) (by simp)⟩
theorem Qaf (t0 : Nat) (op : ByteArray) (v : Sl) (he : JP kb.length v.n ≠ 0) : QC Tryz.prog 84 [.pointer (some ⟨t0, 0, none⟩), .string op, .slice ks.A ks.n ks.c, .slice v.A v.n v.c].toArray [.zone false h] [] (fun g : Nat => .tuple #[.agg (Entry.cells ⟨keyOf kb, v⟩).toArray, .iface 145 (.pointer (some ⟨g, 0, none⟩))]) (fun g => [.blk g (Yf op 0 (JP kb.length v.n)) 284]) := by
 have hE := QbV h ks kb v
 generalize JP kb.length v.n = e at *
 refine Qk Tryz.func84 rfl (n := 27) rfl rfl ?_
 intro W
 refine yR ?_
 refine Qo (Q0) fun g8 => ?_
 refine yS rfl ?_
 refine yN ?_
 refine Qd ?_
 refine yR ?_
 refine yM rfl ?_
 refine Qb (J2 rfl rfl) ?_
 refine yN ?_
 refine Qt rfl ?_
 refine Qn ?_
 refine Qc ?_
 refine yR ?_
 refine yM rfl ?_
 refine yM rfl ?_
 refine Qh (hE.comes) rfl rfl rfl fun _ => ?_
 refine yM rfl ?_
 refine Qb (Qj rfl rfl) ?_
 refine Qb (Qj rfl rfl) ?_
 refine Qo (Q0) fun g10 => ?_
 refine Q7 (Qw rfl rfl) ?_
 refine yS rfl ?_
 refine yN ?_
 refine Qd ?_
 refine Q1 [.blk g10 (Entry.cells ⟨keyOf kb, v⟩) 89] [] QJ (same) ?_
 refine Qp 0 rfl (Qm rfl) ?_
 refine Qa 1 rfl (Qi rfl) ?_
 refine Qa 2 rfl (Qi rfl) ?_
 refine Qv 3 ?_
 refine QR 3 rfl ((QaG op 0 e he).comes) rfl rfl rfl (fun xx => same) fun g26 => ?_
 refine Qv 4 ?_
 refine Qay 4 rfl (Qw rfl rfl) (same) ?_
 refine Qa 5 rfl (Q6 rfl) ?_
 refine QB (by kernel_rfl) ?_
 refine Qc ?_
 refine Qs ?_
 exact QO rfl (QZ rfl) rfl fun w s => ⟨g26, rfl, (same (L' := [.blk g26 (Yf op 0 e) 284]) w s).res (List.Sublist.refl _) (by simp [Fa.wr])⟩
end
end
section
open Go.RowKit
theorem Qdj : ∀ (a b : List UInt8), VM b a = - VM a b
 | [], [] => rfl
 | [], _ :: _ => rfl
 | _ :: _, [] => rfl
 | x :: a, y :: b => by
  unfold VM
  by_cases h : x < y
  ·rw [if_pos h, if_neg (fun h' : y < x => UInt8.lt_asymm h h'), if_pos h]; rfl
  by_cases h' : y < x
  ·rw [if_pos h', if_neg h, if_pos h']
  rw [if_neg h', if_neg h, if_neg h, if_neg h']; exact Qdj a b
theorem QiD (a b : B32) : JS b a = - JS a b := Qdj _ _
theorem Yv (a : B32) : ¬ ltK a a := fun ⟨i, _, _, h3, h4⟩ => by rw [h3] at h4; cases h4
theorem Vl (a b : B32) (h : ¬ JS a b < 0) : a = b ∨ ltK b a := by
 by_cases h0 : JS a b = 0
 ·exact .inl (Qh5.1 h0)
 exact .inr (V4 (by rw [QiD]; omega))
theorem Qej {a b : B32} (h : ltK a b) : JS a b < 0 := by
 by_cases h0 : JS a b < 0
 ·exact h0
 rcases Vl a b h0 with rfl | h1
 ·exact (Yv a h).elim
 exact (Yv a (qF h h1)).elim
def YI (m : List En) : Prop := (m.map En.key).Pairwise ltK
theorem YI.nil : YI [] := List.Pairwise.nil
theorem YI.nodup {m : List En} (h : YI m) : (m.map En.key).Nodup := List.Pairwise.imp (fun {a b} (hab : ltK a b) (e : a = b) => Yv b (e ▸ hab)) h
theorem YI.alike {m : List En} (h : YI m) : Alike m 0 := Alike.start h.nodup
theorem YI.rem {m : List En} (h : YI m) (k : B32) : YI (Js m k) := List.Pairwise.sublist ((List.filter_sublist).map _) h
theorem Qf8 {e : En} : ∀ {l : List En}, YI l → (∀ f ∈ l, f.key ≠ e.key) → YI (qv e l)
 | [], _, _ => List.pairwise_singleton ..
 | g :: l, h, hn => by
  unfold YI at h ⊢
  have h0 := h
  rw [List.map_cons] at h
  obtain ⟨h1, h2⟩ := List.pairwise_cons.1 h
  unfold qv
  by_cases hc : JS e.key g.key < 0
  ·rw [if_pos hc, List.map_cons]
   have he := V4 hc
   refine List.pairwise_cons.2 ⟨fun x hx => ?_, h0⟩
   rw [List.map_cons] at hx
   rcases List.mem_cons.1 hx with rfl | hx
   ·exact he
   exact qF he (h1 x hx)
  rw [if_neg hc, List.map_cons]
  have hg : ltK g.key e.key := (Vl e.key g.key hc).resolve_left fun h0 => hn g (List.mem_cons_self ..) h0.symm
  refine List.pairwise_cons.2 ⟨fun x hx => ?_, Qf8 h2 fun f hf => hn f (List.mem_cons_of_mem _ hf)⟩
  obtain ⟨f, hf, rfl⟩ := List.mem_map.1 hx
  rcases Qct.1 hf with rfl | hf
  ·exact hg
  exact h1 _ (List.mem_map_of_mem hf)
theorem YI.put {m : List En} (h : YI m) (e : En) : YI (qQ m e) := Qf8 (h.rem e.key) fun f hf => by simpa [Js] using (List.mem_filter.1 hf).2
def enU (x : CB) : En := ⟨⟨keyOf x.kb, x.c.value⟩, x.vb⟩
def qs (m : List En) (x : CB) : List En := if x.c.present then Js m (keyOf x.kb) else qQ m (enU x)
def JA (m : List En) (l : List CB) : List En := l.foldl qs m
def chU (x : CB) : Chg := ⟨⟨⟨keyOf x.kb, if x.c.present then ⟨none, 0, 0⟩ else x.c.value⟩, if x.c.present then [] else x.vb⟩, x.c.present⟩
theorem Qbm {m m' : List En} {l l' : List Chg} (hm : m.Perm m') (hl : l.Perm l') : (Jb m l).Perm (Jb m' l') := by
 have hh : ∀ k, Yt l k = Yt l' k := fun k => by
  unfold Yt
  rw [Bool.eq_iff_iff, List.any_eq_true, List.any_eq_true]
  exact ⟨fun ⟨x, h1, h2⟩ => ⟨x, hl.mem_iff.1 h1, h2⟩, fun ⟨x, h1, h2⟩ => ⟨x, hl.mem_iff.2 h1, h2⟩⟩
 unfold Jb
 refine ((hm.filter _).trans (List.Perm.of_eq (List.filter_congr fun e _ => by rw [hh]))).append ((hl.filter _).map _)
theorem Qe3 {m : List En} {x : CB} {l : List Chg} (h : Yt l (keyOf x.kb) = false) : (Jb (qs m x) l).Perm (Jb m (chU x :: l)) := by
 have hrem : (Js m (keyOf x.kb)).filter (fun e => !Yt l e.key) = m.filter fun e => !Yt (chU x :: l) e.key := by
  unfold Js
  rw [List.filter_filter]
  apply List.filter_congr
  intro e _
  show (!Yt l e.key && decide (e.key ≠ keyOf x.kb)) = !(decide (keyOf x.kb = e.key) || Yt l e.key)
  by_cases hk : e.key = keyOf x.kb
  ·rw [show decide (e.key ≠ keyOf x.kb) = false from decide_eq_false fun h => h hk, show decide (keyOf x.kb = e.key) = true from decide_eq_true hk.symm]; simp
  rw [show decide (e.key ≠ keyOf x.kb) = true from decide_eq_true hk, show decide (keyOf x.kb = e.key) = false from decide_eq_false fun h => hk h.symm]; simp
 cases hp : x.c.present
 ·have h1 : qs m x = qQ m (enU x) := by unfold qs; rw [if_neg (by simp [hp])]
  have h2 : (chU x).del = false := hp
  have h3 : (chU x).e = enU x := by unfold chU enU; simp [hp]
  rw [h1]
  refine (Qbm (Z2 m (enU x)) (.refl l)).trans ?_
  unfold Jb
  rw [List.filter_cons_of_pos (by show (!Yt l (keyOf x.kb)) = true; rw [h]; rfl), List.filter_cons_of_pos (by rw [h2]; rfl), List.map_cons, h3, show (enU x).key = keyOf x.kb from rfl, hrem]
  exact List.perm_middle.symm
 have h1 : qs m x = Js m (keyOf x.kb) := by unfold qs; rw [if_pos hp]
 have h2 : (chU x).del = true := hp
 rw [h1]
 unfold Jb
 rw [hrem, List.filter_cons_of_neg (by rw [h2]; decide)]
theorem Qbo : ∀ (l : List CB) (m : List En), (l.map fun x => keyOf x.kb).Nodup → (JA m l).Perm (Jb m (l.map chU))
 | [], m, _ => by rw [List.map_nil, QbX]; exact .refl _
 | x :: l, m, h => by
  rw [List.map_cons, List.nodup_cons] at h
  refine (Qbo l (qs m x) h.2).trans (Qe3 ?_)
  unfold Yt
  rw [Bool.eq_false_iff]
  intro ht
  obtain ⟨c, hc, hk⟩ := List.any_eq_true.1 ht
  obtain ⟨y, hy, rfl⟩ := List.mem_map.1 hc
  exact h.1 (List.mem_map.2 ⟨y, hy, of_decide_eq_true hk⟩)
theorem QjO {m : List En} (h : YI m) (x : CB) : YI (qs m x) := by
 unfold qs
 split
 ·exact h.rem _
 exact h.put _
theorem QjN (m : List En) (x : CB) : (qs m x).length ≤ m.length + 1 := by
 unfold qs
 split
 ·exact Nat.le_trans (QbM m _) (Nat.le_succ _)
 exact QfR m _
theorem QbY : ∀ (l : List CB) {m : List En}, YI m → YI (JA m l)
 | [], _, h => h
 | x :: l, _, h => QbY l (QjO h x)
theorem ZP : ∀ (l : List CB) (m : List En), (JA m l).length ≤ m.length + l.length
 | [], m => Nat.le_refl _
 | x :: l, m => by
  have h1 := ZP l (qs m x)
  have h2 := QjN m x
  show (JA (qs m x) l).length ≤ _
  rw [List.length_cons]
  omega
theorem QdA {h : Zh} {m : List En} {e : En} (hv : Yr h m) (hs : SlZ h e.e.value e.val) (hl : e.val.length ≤ 10000000) : Yr h (qQ m e) := fun f hf => by
 rcases QfS hf with rfl | hf
 ·exact ⟨hs, hl⟩
 exact hv f hf
theorem QdG {h : Zh} {m : List En} (hv : Yr h m) (k : B32) : Yr h (Js m k) := fun f hf => hv f (List.mem_filter.1 hf).1
theorem Qbp {h : Zh} : ∀ (l : List CB) {m : List En}, Yr h m → (∀ x ∈ l, SlZ h x.c.value x.vb ∧ x.vb.length ≤ 10000000) → Yr h (JA m l)
 | [], _, hv, _ => hv
 | x :: l, m, hv, hl => by
  refine Qbp l (m := qs m x) ?_ fun y hy => hl y (List.mem_cons_of_mem _ hy)
  unfold qs
  split
  ·exact QdG hv _
  exact QdA hv (hl x (List.mem_cons_self ..)).1 (hl x (List.mem_cons_self ..)).2
def vlU (x : CB) : Nat := if x.c.present then 0 else x.vb.length
def qU (x : CB) : Int := JP x.kb.length (vlU x)
def YU (l : List CB) (i : Nat) : Int :=
 if qU (l.getD i zCB) = 0 then (if (l.take i).any (fun y => decide (y.kb = (l.getD i zCB).kb)) then 9 else 0) else qU (l.getD i zCB)
def YK (l : List CB) : Option (Nat × Int) := qd (YU l) l.length 0
theorem Qcg {kn vn : Nat} (h : JP kn vn = 0) : kn = 32 := by
 unfold JP at h
 split at h
 ·assumption
 cases h
theorem Qdv {a b : List UInt8} (ha : a.length = 32) (hb : b.length = 32) (h : keyOf a = keyOf b) : a = b := by
 unfold keyOf at h
 rw [dif_pos ha, dif_pos hb] at h
 exact congrArg Subtype.val h
theorem Qas {l : List CB} {i : Nat} (h : YU l i = 0) : (l.getD i zCB).kb.length = 32 := by
 unfold YU at h
 split at h
 ·rename_i h1; exact Qcg h1
 rename_i h1; exact (h1 h).elim
theorem QiP {l : List CB} {i : Nat} (h : YU l i = 0) {y : CB} (hy : y ∈ l.take i) : y.kb ≠ (l.getD i zCB).kb := fun e => by
 unfold YU at h
 split at h
 ·split at h
  ·cases h
  rename_i h2
  exact h2 (List.any_eq_true.2 ⟨y, hy, decide_eq_true e⟩)
 rename_i h1; exact h1 h
theorem QgT {α : Type} {l : List α} {x : α} (h : l.Nodup) (hx : x ∉ l) : (l ++ [x]).Nodup := by
 rw [List.nodup_append]
 refine ⟨h, by simp, fun a ha b hb e => ?_⟩
 rw [List.mem_singleton.1 hb] at e
 exact hx (e ▸ ha)
theorem Qby {l : List CB} : ∀ i, i ≤ l.length → (∀ j, j < i → YU l j = 0) → ((l.take i).map fun x => keyOf x.kb).Nodup
 | 0, _, _ => by simp
 | i + 1, hi, h => by
  have hx := Jz zCB (l := l) (k := i) (by omega)
  rw [JD hx, List.map_append, List.map_cons, List.map_nil]
  refine QgT (Qby i (by omega) fun j hj => h j (by omega)) fun hm => ?_
  obtain ⟨y, hy, hk⟩ := List.mem_map.1 hm
  obtain ⟨j, hj, hyj⟩ := List.getElem_of_mem hy
  rw [List.length_take] at hj
  have hyl : (l.getD j zCB) = y := by
   rw [List.getElem_take] at hyj
   rw [List.getD_eq_getElem?_getD, List.getElem?_eq_getElem (by omega)]
   exact hyj
  have h1 := Qas (h j (by omega))
  rw [hyl] at h1
  exact QiP (h i (by omega)) hy (Qdv h1 (Qas (h i (by omega))) hk)
theorem Qbq {l : List CB} (h : YK l = none) : ∀ j, j < l.length → YU l j = 0 := fun j hj => Za _ _ _ h j (Nat.zero_le _) (by omega)
theorem Qam {l : List CB} (h : YK l = none) : (l.map fun x => keyOf x.kb).Nodup := by
 have := Qby (l := l) l.length (Nat.le_refl _) fun j hj => Qbq h j hj
 rwa [List.take_length] at this
structure OpV where
 kind : Int
 key : Sl
 val : Sl
 batch : Sl
 kb : List UInt8
 vb : List UInt8
 us : List CB
abbrev OpV.cells (o : OpV) : List Value := [.int .i64 o.kind, .slice o.key.A o.key.n o.key.c, .slice o.val.A o.val.n o.val.c, .slice o.batch.A o.batch.n o.batch.c]
theorem OpV.cells_length (o : OpV) : o.cells.length = 4 := rfl
def doM (m : List En) (o : OpV) : List En :=
 if o.kind = 0 then (if JP o.kb.length o.vb.length = 0 then qQ m ⟨⟨keyOf o.kb, o.val⟩, o.vb⟩ else m)
 else if o.kind = 1 then m
 else if o.kind = 2 then (if o.kb.length = 32 then Js m (keyOf o.kb) else m)
 else (match YK o.us with | none => JA m o.us | some _ => m)
structure OpZ (h : Zh) (o : OpV) : Prop where
 key : SlZ h o.key o.kb
 val : SlZ h o.val o.vb
 n : o.batch.n = o.us.length
 cap : o.batch.n ≤ o.batch.c
 rd : RdZ h o.batch.A (cbs o.us)
 us : ZN h o.us
theorem OpZ.mono {h h' : Zh} (hl : LeZ h h') {o : OpV} (x : OpZ h o) : OpZ h' o := ⟨x.key.mono hl, x.val.mono hl, x.n, x.cap, x.rd.mono hl, x.us.mono hl⟩
def Qjx (l : List OpV) : List Value := l.flatMap OpV.cells
def QdQ (h : Zh) (l : List OpV) : Prop := ∀ o ∈ l, OpZ h o
theorem QdQ.mono {h h' : Zh} (hl : LeZ h h') {l : List OpV} (x : QdQ h l) : QdQ h' l := fun o ho => (x o ho).mono hl
def Vz (l : List CB) : Bool := decide (l.length ≤ 20) && (l.all fun x => decide (x.kb.length ≤ 100 ∧ x.vb.length ≤ 70000)) && decide ((l.filter fun x => decide (300 < x.vb.length)).length ≤ 2)
def ZV (o : OpV) : Bool := decide (o.kb.length ≤ 100 ∧ o.vb.length ≤ 70000) && Vz o.us
theorem Qft {l : List CB} (h : Vz l = true) : l.length ≤ 20 := by
 unfold Vz at h
 rw [Bool.and_eq_true, Bool.and_eq_true] at h
 exact of_decide_eq_true h.1.1
theorem Qfu {l : List CB} (h : Vz l = true) {x : CB} (hx : x ∈ l) : x.kb.length ≤ 100 ∧ x.vb.length ≤ 70000 := by
 unfold Vz at h
 rw [Bool.and_eq_true, Bool.and_eq_true, List.all_eq_true] at h
 exact of_decide_eq_true (h.1.2 x hx)
theorem Vp {o : OpV} (h : ZV o = true) : (o.kb.length ≤ 100 ∧ o.vb.length ≤ 70000) ∧ Vz o.us = true := by
 unfold ZV at h
 rw [Bool.and_eq_true] at h
 exact ⟨of_decide_eq_true h.1, h.2⟩
theorem Qn0 {m : List En} (h : YI m) (o : OpV) : YI (doM m o) := by
 unfold doM
 split
 ·split
  ·exact h.put _
  exact h
 split
 ·exact h
 split
 ·split
  ·exact h.rem _
  exact h
 split
 ·exact QbY _ h
 exact h
theorem Qnz {m : List En} {o : OpV} (hf : ZV o = true) : (doM m o).length ≤ m.length + 20 := by
 have h1 := Qft (Vp hf).2
 have h2 := QfR m ⟨⟨keyOf o.kb, o.val⟩, o.vb⟩
 have h3 := QbM m (keyOf o.kb)
 have h4 := ZP o.us m
 unfold doM
 split
 ·split <;> omega
 split
 ·omega
 split
 ·split <;> omega
 split <;> omega
theorem QkM {h : Zh} {m : List En} {o : OpV} (hv : Yr h m) (hz : OpZ h o) (hf : ZV o = true) : Yr h (doM m o) := by
 obtain ⟨⟨_, h1⟩, h2⟩ := Vp hf
 unfold doM
 split
 ·split
  ·exact QdA hv hz.val (by dsimp only; omega)
  exact hv
 split
 ·exact hv
 split
 ·split
  ·exact QdG hv _
  exact hv
 split
 ·exact Qbp _ hv fun x hx => ⟨(hz.us x hx).2, by have := (Qfu h2 hx).2; omega⟩
 exact hv
def doL (l : List OpV) (m : List En) : List En := l.foldl doM m
def Qcx (e : En) : B32 × List UInt8 := (e.key, e.val)
theorem Qer (d : Nat) (b : Bool) : ∀ {m m' : List En}, m.map Qcx = m'.map Qcx → (part m d b).map Qcx = (part m' d b).map Qcx
 | [], [], _ => rfl
 | [], _ :: _, h => by cases h
 | _ :: _, [], h => by cases h
 | e :: m, f :: m', h => by
  rw [List.map_cons, List.map_cons] at h
  injection h with h1 h2
  have hk : e.key = f.key := congrArg Prod.fst h1
  have ih := Qer d b h2
  unfold part at ih ⊢
  by_cases hb : (Q4 e.key d == b) = true
  ·rw [List.filter_cons_of_pos (p := fun e : En => Q4 e.key d == b) hb, List.filter_cons_of_pos (p := fun e : En => Q4 e.key d == b) (by rw [← hk]; exact hb), List.map_cons, List.map_cons, h1, ih]
  rw [List.filter_cons_of_neg (p := fun e : En => Q4 e.key d == b) hb, List.filter_cons_of_neg (p := fun e : En => Q4 e.key d == b) (by rw [← hk]; exact hb), ih]
theorem QgS : ∀ (f : Nat) {m m' : List En} (d : Nat), m.map Qcx = m'.map Qcx → mkF f m d = mkF f m' d
 | 0, _, _, _, _ => rfl
 | f + 1, m, m', d, h => by
  match m, m', h with
  | [], [], _ => rfl
  | [], _ :: _, h => simp at h
  | _ :: _, [], h => simp at h
  | [e], [e'], h =>
   have h1 : Qcx e = Qcx e' := by simpa using h
   show Tr.leaf e.key e.val = Tr.leaf e'.key e'.val
   rw [show e.key = e'.key from congrArg Prod.fst h1, show e.val = e'.val from congrArg Prod.snd h1]
  | [_], _ :: _ :: _, h => simp at h
  | _ :: _ :: _, [_], h => simp at h
  | a :: b :: l, a' :: b' :: l', h =>
   show Tr.node (mkF f (part (a :: b :: l) d false) (d + 1)) (mkF f (part (a :: b :: l) d true) (d + 1)) = Tr.node (mkF f (part (a' :: b' :: l') d false) (d + 1)) (mkF f (part (a' :: b' :: l') d true) (d + 1))
   rw [QgS f (d + 1) (Qer d false h), QgS f (d + 1) (Qer d true h)]
theorem QpU {m m' : List En} (h : m.map Qcx = m'.map Qcx) (d : Nat) : mkT m d = mkT m' d := QgS _ d h
end
section
open Go.RowKit
theorem Qhf {α : Type} {f : α → List Value} {k : Nat} (hk : ∀ x, (f x).length = k) : ∀ {l : List α} {i : Nat} {x : α}, l[i]? = some x → ∀ j v, (f x)[j]? = some v → (l.flatMap f)[i * k + j]? = some v
 | [], _, _, h, _, _, _ => by simp at h
 | y :: l, i, x, h, j, v, hv => by
  rw [List.flatMap_cons]
  cases i with
  | zero =>
   obtain rfl : y = x := by simpa using h
   rw [Nat.zero_mul, Nat.zero_add, List.getElem?_append_left (List.getElem?_eq_some_iff.1 hv).1]
   exact hv
  | succ i =>
   rw [List.getElem?_append_right (by rw [hk, Nat.succ_mul]; omega), hk, show (i + 1) * k + j - k = i * k + j by rw [Nat.succ_mul]; omega]
   exact Qhf hk (by simpa using h) j v hv
theorem VD {α : Type} {f : α → List Value} {k : Nat} (hk : ∀ x, (f x).length = k) : ∀ l : List α, (l.flatMap f).length = l.length * k
 | [] => by simp
 | x :: l => by rw [List.flatMap_cons, List.length_append, hk, VD hk l, List.length_cons, Nat.succ_mul]; omega
theorem Qo8 {α : Type} {f : α → List Value} (h1 : ∀ x, ∀ v ∈ f x, v.oneCell' = true) (l : List α) : ∀ v ∈ l.flatMap f, v.oneCell' = true := fun v hv => by
 obtain ⟨x, -, h⟩ := List.mem_flatMap.1 hv
 exact h1 x v h
theorem Qih {α : Type} {f : α → List Value} {k : Nat} (hk : ∀ x, (f x).length = k) : ∀ {l : List α} {i : Nat} (x : α), i < l.length → (l.flatMap f).take (i * k) ++ f x ++ (l.flatMap f).drop (i * k + k) = (l.set i x).flatMap f
 | [], _, _, h => by simp at h
 | y :: l, 0, x, _ => by
  rw [List.flatMap_cons, List.set_cons_zero, List.flatMap_cons, Nat.zero_mul, List.take_zero, List.nil_append, Nat.zero_add, List.drop_append_of_le_length (by rw [hk]; exact Nat.le_refl _), List.drop_of_length_le (by rw [hk]; exact Nat.le_refl _), List.nil_append]
 | y :: l, i + 1, x, h => by
  rw [List.flatMap_cons, List.set_cons_succ, List.flatMap_cons, ← Qih hk x (show i < l.length by simpa using h)]
  rw [show (i + 1) * k = (f y).length + i * k by rw [hk, Nat.succ_mul]; omega, List.take_length_add_append, show (f y).length + i * k + k = (f y).length + (i * k + k) by omega, List.drop_length_add_append]
  simp [List.append_assoc]
theorem QcH {α : Type} {f : α → List Value} {k : Nat} (hk : ∀ x, (f x).length = k) (l : List α) (i : Nat) : (l.flatMap f).take (i * k) = (l.take i).flatMap f := by
 have e : l.flatMap f = (l.take i).flatMap f ++ (l.drop i).flatMap f := by rw [← List.flatMap_append, List.take_append_drop]
 rcases Nat.lt_or_ge l.length i with h | h
 ·rw [List.take_of_length_le (by rw [VD hk]; exact Nat.mul_le_mul_right _ (by omega)), List.take_of_length_le (by omega)]
 rw [e, List.take_append_of_le_length (by rw [VD hk, List.length_take, Nat.min_eq_left h]; exact Nat.le_refl _), List.take_of_length_le (by rw [VD hk, List.length_take, Nat.min_eq_left h]; exact Nat.le_refl _)]
theorem Qgf {α : Type} {f : α → List Value} {k : Nat} (hk : ∀ x, (f x).length = k) (l : List α) (i : Nat) : (l.flatMap f).drop (i * k) = (l.drop i).flatMap f := by
 have e : l.flatMap f = (l.take i).flatMap f ++ (l.drop i).flatMap f := by rw [← List.flatMap_append, List.take_append_drop]
 rcases Nat.lt_or_ge l.length i with h | h
 ·rw [List.drop_of_length_le (by rw [VD hk]; exact Nat.mul_le_mul_right _ (by omega)), List.drop_of_length_le (by omega)]
  rfl
 have hl : ((l.take i).flatMap f).length = i * k := by rw [VD hk, List.length_take, Nat.min_eq_left h]
 rw [e, ← hl, List.drop_left]
theorem QjH {α : Type} {f : α → List Value} {k : Nat} (hk : ∀ x, (f x).length = k) {h : Zh} {A : Option Addr} {l : List α} (hr : RdZ h A (l.flatMap f)) (m : Nat) : RdZ h A ((l.take m).flatMap f) := by
 refine ⟨fun j v hv => hr.at_ j v ?_⟩
 rw [← QcH hk] at hv
 rw [List.getElem?_take] at hv
 split at hv
 ·exact hv
 cases hv
theorem QjG {α : Type} {f : α → List Value} {k : Nat} (hk : ∀ x, (f x).length = k) {h : Zh} {A : Option Addr} {l : List α} {c m : Nat} (hr : RdZ h A (l.flatMap f)) (hc : l.length ≤ c) : RdZ h (cutA A c m k) ((l.drop m).flatMap f) := by
 unfold cutA
 split
 ·have : l.drop m = [] := List.drop_of_length_le (by omega)
  rw [this]
  exact RdZ.nil _ _
 refine ⟨fun j v hv => ?_⟩
 rw [← Qgf hk, List.getElem?_drop] at hv
 obtain ⟨b, o, rfl, h2⟩ := hr.at_ (m * k + j) v hv
 exact ⟨b, o + m * k, by simp [Addr.add_mid], by rw [Nat.add_assoc]; exact h2⟩
def Chg.st (c : Chg) : Change := ⟨c.e.e.key, c.e.e.value, c.del⟩
def Yp : Chg := ⟨⟨⟨QN, ⟨none, 0, 0⟩⟩, []⟩, false⟩
def Chg.cells (c : Chg) : List Value := c.st.cells
theorem Chg.cells_length (c : Chg) : c.cells.length = 34 := Change.cells_length _
theorem Chg.cells_one (c : Chg) : ∀ v ∈ c.cells, v.oneCell' = true := Change.cells_one _
def Jh (l : List Chg) : List Value := l.flatMap Chg.cells
theorem Y4 (l : List Chg) : (Jh l).length = l.length * 34 := VD Chg.cells_length l
theorem Qcc (l : List Chg) : ∀ v ∈ Jh l, v.oneCell' = true := Qo8 Chg.cells_one l
theorem qf {l : List Chg} {i : Nat} {x : Chg} (h : l[i]? = some x) : ∀ j v, x.st.cells[j]? = some v → (Jh l)[i * 34 + j]? = some v := Qhf Chg.cells_length h
theorem Qk8 {l : List Chg} {i : Nat} {x : Chg} (h : l[i]? = some x) : ∀ j v, x.key.cells[j]? = some v → (Jh l)[i * 34 + j]? = some v := fun j v hv =>
 qf h j v (by
  show (x.e.e.key.cells ++ _)[j]? = some v
  rw [List.getElem?_append_left (List.getElem?_eq_some_iff.1 hv).1]
  exact hv)
theorem Qk9 {l : List Chg} {i : Nat} {x : Chg} (h : l[i]? = some x) : (Jh l)[i * 34 + 32]? = some (.slice x.e.e.value.A x.e.e.value.n x.e.e.value.c) :=
 qf h 32 _ (by
  show (x.e.e.key.cells ++ ([.slice x.e.e.value.A x.e.e.value.n x.e.e.value.c] ++ ([.bool x.del] ++ [])))[32]? = _
  rw [List.getElem?_append_right (by rw [B32.cells_length]; omega), B32.cells_length]
  rfl)
theorem QeZ (l m : List Chg) : Jh l ++ Jh m = Jh (l ++ m) := by unfold Jh; rw [List.flatMap_append]
theorem Qee {l : List Chg} {k : Nat} (h : k < l.length) : l[k]? = some (l.getD k Yp) := by rw [List.getD_eq_getElem?_getD, List.getElem?_eq_getElem h]; rfl
def VQ (l : List Chg) : Prop := (l.map Chg.key).Pairwise ltK
theorem VQ.sub {l l' : List Chg} (h : VQ l) (hs : l'.Sublist l) : VQ l' := List.Pairwise.sublist (hs.map _) h
theorem QnL {l : List Chg} {k : B32} (h : ∀ c ∈ l, c.key ≠ k) : Yt l k = false := by
 unfold Yt
 rw [Bool.eq_false_iff]
 intro ht
 obtain ⟨c, hc, hk⟩ := List.any_eq_true.1 ht
 exact h c hc (of_decide_eq_true hk)
structure AtC (l : List Chg) (k : B32) (a : Nat) : Prop where
 le : a ≤ l.length
 lt : ∀ j, j < l.length → (JS (l.getD j Yp).key k < 0 ↔ j < a)
 has : Yt l k = true ↔ a < l.length ∧ (l.getD a Yp).key = k
 ord : Yt l k = false → ∀ e : En, e.key = k → VQ (l.take a ++ [⟨e, false⟩] ++ l.drop a)
theorem atC : ∀ {l : List Chg} (k : B32), VQ l → ∃ a, AtC l k a
 | [], k, _ => ⟨0, Nat.le_refl _, fun j hj => by simp at hj, by simp [Yt], fun _ e _ => List.pairwise_singleton ..⟩
 | c :: l, k, h => by
  have hh := h
  unfold VQ at h
  rw [List.map_cons] at h
  obtain ⟨h1, h2⟩ := List.pairwise_cons.1 h
  by_cases hc : JS c.key k < 0
  ·obtain ⟨a, a1, a2, a3, a4⟩ := atC (l := l) k h2
   have hne : c.key ≠ k := fun e => by
    have h3 := V4 hc
    rw [e] at h3
    exact Yv k h3
   have hcons : Yt (c :: l) k = Yt l k := by
    show (decide (c.key = k) || Yt l k) = _
    rw [decide_eq_false hne, Bool.false_or]
   refine ⟨a + 1, by simp; omega, fun j hj => ?_, ?_, fun hn e he => ?_⟩
   ·cases j with
    | zero => exact ⟨fun _ => by omega, fun _ => hc⟩
    | succ j =>
     rw [List.getD_cons_succ]
     have := a2 j (by simpa using hj)
     exact ⟨fun h => by have := this.1 h; omega, fun h => this.2 (by omega)⟩
   ·rw [hcons, a3, List.getD_cons_succ, List.length_cons]
    exact ⟨fun ⟨x, y⟩ => ⟨by omega, y⟩, fun ⟨x, y⟩ => ⟨by omega, y⟩⟩
   rw [hcons] at hn
   have ih := a4 hn e he
   rw [List.take_succ_cons, List.drop_succ_cons, List.cons_append, List.cons_append]
   refine List.pairwise_cons.2 ⟨fun x hx => ?_, ih⟩
   obtain ⟨y, hy, rfl⟩ := List.mem_map.1 hx
   rcases List.mem_append.1 hy with hy | hy
   ·rcases List.mem_append.1 hy with hy | hy
    ·exact h1 _ (List.mem_map_of_mem (List.mem_of_mem_take hy))
    rw [List.mem_singleton.1 hy]
    show ltK c.key e.key
    rw [he]; exact V4 hc
   exact h1 _ (List.mem_map_of_mem (List.mem_of_mem_drop hy))
  have hge : ∀ x ∈ l, ltK k x.key := fun x hx => by
   rcases Vl c.key k hc with e | e
   ·exact e ▸ h1 _ (List.mem_map_of_mem hx)
   exact qF e (h1 _ (List.mem_map_of_mem hx))
  have hnl : Yt l k = false := QnL fun x hx e => Yv k (by have := hge x hx; rwa [e] at this)
  have hcons : Yt (c :: l) k = decide (c.key = k) := by
   show (decide (c.key = k) || Yt l k) = _
   rw [hnl, Bool.or_false]
  refine ⟨0, Nat.zero_le _, fun j hj => ⟨fun h3 => ?_, fun h3 => by omega⟩, ?_, fun hn e he => ?_⟩
  ·cases j with
   | zero => exact (hc h3).elim
   | succ j =>
    have hj' : j < l.length := by simpa using hj
    rw [List.getD_cons_succ] at h3
    have hm : l.getD j Yp ∈ l := by rw [List.getD_eq_getElem?_getD, List.getElem?_eq_getElem hj']; exact List.getElem_mem hj'
    exact (Yv k (qF (hge _ hm) (V4 h3))).elim
  ·rw [hcons, decide_eq_true_iff]
   exact ⟨fun h => ⟨by simp, h⟩, fun h => h.2⟩
  rw [hcons] at hn
  have hne : c.key ≠ k := of_decide_eq_false hn
  have hk : ltK k c.key := (Vl c.key k hc).resolve_left hne
  rw [List.take_zero, List.drop_zero, List.nil_append]
  refine List.pairwise_cons.2 ⟨fun x hx => ?_, hh⟩
  obtain ⟨y, hy, rfl⟩ := List.mem_map.1 hx
  show ltK e.key y.key
  rw [he]
  rcases List.mem_cons.1 hy with rfl | hy
  ·exact hk
  exact hge y hy
theorem QdT {e e' : En} {l : List Chg} {a : Nat} (hk : e'.key = e.key) (hv : e'.val = e.val) (h : Yt l e.key = false) (d : Nat) : mkT (Jb [] (l.take a ++ [⟨e', false⟩] ++ l.drop a)) d = mkT (Jb [e] l) d := by
 have h1 : (Jb [] (l.take a ++ [⟨e', false⟩] ++ l.drop a)).Perm (e' :: (l.filter fun c => !c.del).map Chg.e) := by
  unfold Jb
  rw [List.filter_nil, List.nil_append]
  have h2 : (l.take a ++ [(⟨e', false⟩ : Chg)] ++ l.drop a).Perm (⟨e', false⟩ :: l) := by
   have h3 : (l.take a ++ [(⟨e', false⟩ : Chg)] ++ l.drop a).Perm (⟨e', false⟩ :: (l.take a ++ l.drop a)) := by
    rw [List.append_assoc]
    exact List.perm_middle
   rwa [List.take_append_drop] at h3
  refine ((h2.filter _).map _).trans ?_
  rw [List.filter_cons_of_pos (by rfl)]
  exact .refl _
 rw [Zb h1 d]
 have h4 : Jb [e] l = e :: (l.filter fun c => !c.del).map Chg.e := by
  unfold Jb
  rw [List.filter_cons_of_pos (by rw [h]; rfl)]
  rfl
 rw [h4]
 refine QpU ?_ d
 rw [List.map_cons, List.map_cons]
 unfold Qcx
 rw [hk, hv]
theorem Qg2 {e : En} {l : List Chg} (h : Yt l e.key = true) : Jb [e] l = Jb [] l := by
 unfold Jb
 rw [List.filter_cons_of_neg (by rw [h]; decide)]
def JG (l : List Chg) : List Chg := l.filter fun c => !c.del
theorem Qbn (l : List Chg) : Jb [] l = (JG l).map Chg.e := rfl
theorem ZZ {l : List Chg} (h : ∀ c ∈ l, c.del = false) : JG l = l := List.filter_eq_self.2 fun c hc => by rw [h c hc]; rfl
theorem Qj5 {l : List Chg} : ∀ c ∈ JG l, c.del = false := fun c hc => by
 have := (List.mem_filter.1 hc).2
 cases hd : c.del
 ·rfl
 rw [hd] at this; cases this
theorem QdU (l : List Chg) : Jb [] (JG l) = Jb [] l := by rw [Qbn, Qbn, ZZ Qj5]
def AlC (l : List Chg) (m : List En) (d : Nat) : Prop := QaL (l.map Chg.key ++ m.map En.key) d
theorem AlC.keys {l : List Chg} {m : List En} {d : Nat} (h : AlC l m d) : QaL (l.map Chg.key) d := fun a ha b hb => h a (List.mem_append_left _ ha) b (List.mem_append_left _ hb)
theorem AlC.part {l : List Chg} {m : List En} {d : Nat} (h : AlC l m d) (b : Bool) : AlC (Zd l d b) (part m d b) (d + 1) := by
 have hm : ∀ a ∈ (Zd l d b).map Chg.key ++ (Go.Proofs.YtjhlbbgikccclaaGreatDoor.part m d b).map En.key, a ∈ l.map Chg.key ++ m.map En.key ∧ Q4 a d = b := fun a ha => by
  rcases List.mem_append.1 ha with ha | ha
  ·obtain ⟨c, hc, rfl⟩ := List.mem_map.1 ha
   obtain ⟨h1, h2⟩ := List.mem_filter.1 hc
   exact ⟨List.mem_append_left _ (List.mem_map_of_mem h1), eq_of_beq h2⟩
  obtain ⟨c, hc, rfl⟩ := List.mem_map.1 ha
  obtain ⟨h1, h2⟩ := Yh.1 hc
  exact ⟨List.mem_append_right _ (List.mem_map_of_mem h1), h2⟩
 intro a ha a' ha' i hi
 obtain ⟨h1, h2⟩ := hm a ha
 obtain ⟨h3, h4⟩ := hm a' ha'
 rcases Nat.lt_or_ge i d with h5 | h5
 ·exact h a h1 a' h3 i h5
 obtain rfl : i = d := by omega
 rw [h2, h4]
theorem AlC.mono {l l' : List Chg} {m m' : List En} {d : Nat} (h : AlC l m d) (hs : ∀ a ∈ l'.map Chg.key ++ m'.map En.key, a ∈ l.map Chg.key ++ m.map En.key) : AlC l' m' d := fun a ha b hb => h a (hs a ha) b (hs b hb)
theorem QpC {l : List Chg} {d : Nat} (ho : VQ l) (ha : QaL (l.map Chg.key) d) : ∃ m, m ≤ l.length ∧ (∀ j, j < (l.map Chg.key).length → Q4 ((l.map Chg.key).getD j QN) d = decide (m ≤ j)) ∧ l.take m = Zd l d false ∧ l.drop m = Zd l d true := by
 obtain ⟨m, h1, h2, h3, h4⟩ := Qgk ho ha
 rw [List.length_map] at h1
 have hb : ∀ j (hj : j < l.length), Q4 l[j].key d = decide (m ≤ j) := fun j hj => by
  have := h2 j (by rw [List.length_map]; exact hj)
  rwa [List.getD_eq_getElem?_getD, List.getElem?_eq_getElem (by rw [List.length_map]; exact hj), Option.getD_some, List.getElem_map] at this
 have hA : ∀ c ∈ l.take m, Q4 c.key d = false := fun c hc => by
  obtain ⟨j, hj, rfl⟩ := List.getElem_of_mem hc
  rw [List.length_take] at hj
  rw [List.getElem_take, hb j (by omega)]
  exact decide_eq_false (by omega)
 have hB : ∀ c ∈ l.drop m, Q4 c.key d = true := fun c hc => by
  obtain ⟨j, hj, rfl⟩ := List.getElem_of_mem hc
  rw [List.length_drop] at hj
  rw [List.getElem_drop, hb (m + j) (by omega)]
  exact decide_eq_true (by omega)
 refine ⟨m, h1, h2, ?_, ?_⟩
 all_goals
  unfold Zd
  conv => rhs; rw [← List.take_append_drop m l]
  rw [List.filter_append]
 ·rw [List.filter_eq_self.2 fun c hc => by rw [hA c hc]; rfl, List.filter_eq_nil_iff.2 fun c hc => by rw [hB c hc]; decide, List.append_nil]
 rw [List.filter_eq_nil_iff.2 fun c hc => by rw [hA c hc]; decide, List.filter_eq_self.2 fun c hc => by rw [hB c hc]; rfl, List.nil_append]
theorem VQ.last {l : List Chg} {d : Nat} (ho : VQ l) (ha : QaL (l.map Chg.key) d) (hd : 256 ≤ d) : l.length ≤ 1 := by
 match l, ho, ha with
 | [], _, _ => simp
 | [_], _, _ => simp
 | a :: b :: l, ho, ha =>
  have h1 : ltK a.key b.key := (List.pairwise_cons.1 ho).1 _ (by simp)
  have h2 : a.key = b.key := YJ fun i hi => ha a.key (by simp) b.key (by simp) i (by omega)
  exact (Yv b.key (h2 ▸ h1)).elim
def Qb9 (h : Zh) (l : List Chg) : Prop := ∀ c ∈ l, SlZ h c.e.e.value c.e.val ∧ c.e.val.length ≤ 10000000
theorem Qb9.mono {h h' : Zh} (hl : LeZ h h') {l : List Chg} (x : Qb9 h l) : Qb9 h' l := fun c hc => ⟨(x c hc).1.mono hl, (x c hc).2⟩
theorem Qb9.sub {h : Zh} {l l' : List Chg} (x : Qb9 h l) (hs : l' ⊆ l) : Qb9 h l' := fun c hc => x c (hs hc)
def qi (L d : Nat) : Nat := 4 * (L * (257 - d))
theorem Qg9 (L1 L2 d : Nat) (hd : d < 256) (h : 0 < L1 + L2) : qi L1 (d + 1) + qi L2 (d + 1) + 4 ≤ qi (L1 + L2) d := by
 unfold qi
 obtain ⟨q, hq⟩ : ∃ q, 257 - (d + 1) = q := ⟨_, rfl⟩
 rw [hq, show 257 - d = q + 1 by omega, Nat.mul_add, Nat.add_mul]
 omega
theorem QiH (d : Nat) (hd : d ≤ 256) : 4 ≤ qi 1 d := by unfold qi; omega
theorem Qfg (L L' d : Nat) (h : L ≤ L') : qi L d ≤ qi L' d := by unfold qi; exact Nat.mul_le_mul_left _ (Nat.mul_le_mul_right _ h)
theorem QiG (L d : Nat) : qi L d ≤ 1028 * L := by
 unfold qi
 have : L * (257 - d) ≤ L * 257 := Nat.mul_le_mul_left _ (by omega)
 omega
end
section
open Go.RowKit Go.ChangeShapes Go.WideShapes
section
variable {H : Type} {enc : TypeId × Value → H} {w : World} {base : Nat} {spare : Nat → Bool} {held : Bool} {v : Value} {d : DataW H} {ps : List MemPlace} {r : Reach} {b0 : Nat}
instance iCBInhT : Inhabited CB := ⟨zCB⟩
instance iOpInhT : Inhabited OpV := ⟨⟨0, ⟨none, 0, 0⟩, ⟨none, 0, 0⟩, ⟨none, 0, 0⟩, [], [], []⟩⟩
theorem QeV : Tryz.prog.cellsOf 39 = 3 := by kernel_rfl
theorem QqY : Tryz.prog.cellsOf 85 = 4 := by kernel_rfl
theorem Qi7 : Tryz.prog.cellsOf 28 = 1 := by kernel_rfl
theorem QpA : Tryz.prog.cellsOf 3 = 1 := by kernel_rfl
theorem QjR : ∃ f1 f2 f3 : Field, Tryz.prog.underlying 39 = some (.struct #[f1, f2, f3]) ∧ f1.type = 35 ∧ f2.type = 35 ∧ f3.type = 4 ∧ f1.offset = 0 ∧ f2.offset = 1 ∧ f3.offset = 2 :=
 ⟨_, _, _, Tryz.underlying39, rfl, rfl, rfl, rfl, rfl, rfl⟩
theorem Ql7 : ∃ f1 f2 f3 f4 : Field, Tryz.prog.underlying 85 = some (.struct #[f1, f2, f3, f4]) ∧ f1.type = 3 ∧ f2.type = 35 ∧ f3.type = 35 ∧ f4.type = 28 ∧ f1.offset = 0 ∧ f2.offset = 1 ∧ f3.offset = 2 ∧ f4.offset = 3 :=
 ⟨_, _, _, _, Tryz.underlying85, rfl, rfl, rfl, rfl, rfl, rfl, rfl, rfl⟩
set_option maxRecDepth 100000 in
theorem QpG {fuel : Nat} {cs : List Value} {x : DataW H × List MemPlace} (h : DataW.trod enc Tryz.prog w base spare held fuel 39 cs = some x) : ∃ y : CB, cs = y.cells ∧ (SlZ (World.zh w) y.c.key y.kb ∧ SlZ (World.zh w) y.c.value y.vb) := by
 obtain ⟨f1, f2, f3, hT, t1, t2, t3, o1, o2, o3⟩ := QjR
 obtain ⟨xs, n, -, -, hl, hxl, hx⟩ := DataW.trod_struct hT h
 rw [QeV] at hl
 have hxl' : xs.length = 3 := hxl
 have k1 := hx 0 f1 rfl
 have k2 := hx 1 f2 rfl
 have k3 := hx 2 f3 rfl
 rw [List.getElem?_eq_getElem (by omega)] at k1 k2 k3
 rw [o1, t1, Vy, List.drop_zero] at k1
 rw [o2, t2, Vy] at k2
 rw [o3, t3, Qk3] at k3
 obtain ⟨s1, l1, e1, z1⟩ := qc k1
 obtain ⟨s2, l2, e2, z2⟩ := qc k2
 obtain ⟨b, e3, -⟩ := DataW.trod_bool Tryz.underlying4 k3
 refine ⟨⟨⟨s1, s2, b⟩, l1, l2⟩, ?_, z1, z2⟩
 have r1 : cs = cs.take 1 ++ ((cs.drop 1).take 1 ++ (cs.drop 2).take 1) := by
  rw [List.take_of_length_le (l := cs.drop 2) (by simp; omega)]
  rw [show cs.drop 2 = (cs.drop 1).drop 1 by rw [List.drop_drop], List.take_append_drop, List.take_append_drop]
 rw [r1, e1, e2, e3]
 rfl
theorem Qnw {fuel : Nat} {cs : List Value} {x : DataW H × List MemPlace} (h : DataW.trod enc Tryz.prog w base spare held fuel 28 cs = some x) : ∃ (s : Sl) (l : List CB), cs = [.slice s.A s.n s.c] ∧ s.n = l.length ∧ s.n ≤ s.c ∧ RdZ (World.zh w) s.A (cbs l) ∧ ZN (World.zh w) l := by
 obtain ⟨l, A, c, e2, hlc, -, -, hr, hz⟩ := Qbz (f := fun y : CB => y.cells) CB.cells_length (by omega) Tryz.underlying28 QeV (fun y => SlZ (World.zh w) y.c.key y.kb ∧ SlZ (World.zh w) y.c.value y.vb) (fun fuel cs x h => QpG h) h
 exact ⟨⟨A, l.length, c⟩, l, e2, rfl, hlc, RdZ.of hr, hz⟩
set_option maxRecDepth 100000 in
theorem QpF {fuel : Nat} {cs : List Value} {x : DataW H × List MemPlace} (h : DataW.trod enc Tryz.prog w base spare held fuel 85 cs = some x) : ∃ y : OpV, cs = y.cells ∧ OpZ (World.zh w) y := by
 obtain ⟨f1, f2, f3, f4, hT, t1, t2, t3, t4, o1, o2, o3, o4⟩ := Ql7
 obtain ⟨xs, n, -, -, hl, hxl, hx⟩ := DataW.trod_struct hT h
 rw [QqY] at hl
 have hxl' : xs.length = 4 := hxl
 have k1 := hx 0 f1 rfl
 have k2 := hx 1 f2 rfl
 have k3 := hx 2 f3 rfl
 have k4 := hx 3 f4 rfl
 rw [List.getElem?_eq_getElem (by omega)] at k1 k2 k3 k4
 rw [o1, t1, QpA, List.drop_zero] at k1
 rw [o2, t2, Vy] at k2
 rw [o3, t3, Vy] at k3
 rw [o4, t4, Qi7] at k4
 obtain ⟨i, e1, -, -⟩ := DataW.trod_int Tryz.underlying3 k1
 obtain ⟨s1, l1, e2, z1⟩ := qc k2
 obtain ⟨s2, l2, e3, z2⟩ := qc k3
 obtain ⟨s3, l3, e4, y1, y2, y3, y4⟩ := Qnw k4
 refine ⟨⟨i, s1, s2, s3, l1, l2, l3⟩, ?_, z1, z2, y1, y2, y3, y4⟩
 have r1 : cs = cs.take 1 ++ ((cs.drop 1).take 1 ++ ((cs.drop 2).take 1 ++ (cs.drop 3).take 1)) := by
  rw [List.take_of_length_le (l := cs.drop 3) (by simp; omega)]
  rw [show cs.drop 3 = (cs.drop 2).drop 1 by rw [List.drop_drop], List.take_append_drop, show cs.drop 2 = (cs.drop 1).drop 1 by rw [List.drop_drop], List.take_append_drop, List.take_append_drop]
 rw [r1, e1, e2, e3, e4]
 rfl
set_option maxRecDepth 100000 in
theorem QnY (hval : Value.okWide Tryz.prog w r b0 22 v) (hd : DataW.Trod enc Tryz.prog w base spare held 22 v d ps) :
  ∃ (l : List OpV) (A : Option Addr) (cap : Nat), v = .slice A l.length cap ∧ l.length ≤ cap ∧ RdZ (World.zh w) A (Qjx l) ∧ QdQ (World.zh w) l := by
 obtain ⟨l, A, c, h1, h4, -, -, h2, h3⟩ := Qjw (f := fun y : OpV => y.cells) OpV.cells_length (by omega) Tryz.underlying22 QqY (OpZ (World.zh w)) (fun fuel cs x h => QpF h) hval hd
 exact ⟨l, A, c, h1, h4, RdZ.of h2, h3⟩
end
end
section
open Go.RowKit
section
variable {P : Program} {A : List Fa} {W : World} {n : Nat} {D : List Deferred} {E : Env} {L M : List Fa} {T T' : TypeId} {x y : Operand} {K : Act → World → Prop}
theorem QpQ (g m : Nat) {N c e size : Nat} {xs : List Value} [ht : TakeG g L N c e size xs M] (hm : N + m ≤ c) (k : ∀ ys, ys.length = m * size → H A W n D E (.own (.slice (some ⟨g, 0, none⟩) (N + m) c) (N + m) e size (xs ++ ys) :: M) K) : H A W n D E L K := fun a w ka s => by
 have s2 := s.perm ht.perm
 have ho : w.ownsRow 0 e size (.slice (some ⟨g, 0, none⟩) N c) N xs := s2.ok (.own _ _ _ _ _) (List.mem_cons_self ..)
 obtain ⟨cur, hb, h3, h4, h5, h6⟩ := JT ho
 have hNm : (N + m) * size ≤ cur.length := by rw [h5]; exact Nat.mul_le_mul_right _ hm
 have hsp : (N + m) * size = N * size + m * size := Nat.add_mul ..
 have hxs : cur.take ((N + m) * size) = xs ++ (cur.drop (N * size)).take (m * size) := by rw [hsp, List.take_add, h6]
 refine k ((cur.drop (N * size)).take (m * size)) ?_ a w ka (s2.turn rfl (fun k hk => .inl hk) (qC hb ?_ hm h4 h5 hxs) rfl rfl rfl (Nat.le_refl _) fun _ _ _ => rfl)
 ·rw [List.length_take, List.length_drop]; omega
 rw [← hxs, List.length_take]; omega
theorem QoW {t e g o dLen dCap N c i size bytes : Nat} {z : Value} [E' : TS P t e size bytes z] {xs : List Value} (hd : ev E x = some (.slice (some ⟨g, o, none⟩) dLen dCap)) [ht : TakeG g L N c e size xs M] (ho' : o = i * size) (hi : i + dLen = N) (hz1 : ∀ v ∈ z.cells.toList, v.oneCell' = true) :
  JO P A W n D E L (.call { callee := .builtin .clear, args := #[x], argTypes := #[t] }) (fun _ : Unit => .tuple #[]) (fun _ => .own (.slice (some ⟨g, 0, none⟩) i c) i e size (xs.take (i * size)) :: M) := fun a w ka s op hop => by
 subst ho'
 have h2 := s.perm ht.perm
 have ho : w.ownsRow 0 e size (.slice (some ⟨g, 0, none⟩) N c) N xs := h2.ok (.own _ _ _ _ _) (List.mem_cons_self ..)
 obtain ⟨cur, hb, h3, h4, h5, h6⟩ := JT ho
 obtain ⟨ti, hti, htz, hts, htb⟩ := info_parts E'.el.hi
 have hzs := E'.el.hz
 have hN : N * size ≤ cur.length := by rw [h5]; exact Nat.mul_le_mul_right _ h3
 have hsp : N * size = i * size + dLen * size := by rw [← hi, Nat.add_mul]
 have hx1 : xs.take (i * size) = cur.take (i * size) := by rw [← h6, List.take_take, Nat.min_eq_left (by omega)]
 by_cases h0 : dLen = 0
 ·subst h0
  refine ⟨(), w, ?_, h2.turn rfl (fun k hk => .inl hk) (qC hb ?_ (by omega) h4 h5 hx1.symm) rfl rfl rfl (Nat.le_refl _) fun _ _ _ => rfl⟩
  ·unfold execOp
   simp only [hop, resolve, invoke, builtin, ka.ev hd, List.map_toArray, List.map_cons, List.map_nil, Sem.run_bind, Sem.run_pure, Result.andThen_ok]
   simp [Builtin.clear_, run_underlying E'.el.ht]
  rw [hx1, List.length_take]; omega
 obtain ⟨zs, hzs'⟩ : ∃ zs, (Builtin.zeroCells z.cells dLen).toList = zs := ⟨_, rfl⟩
 have hzl : zs.length = dLen * size := by rw [← hzs']; simp [Builtin.zeroCells, hzs]
 have hz2 : ∀ v ∈ zs, v.oneCell' = true := fun v hv => by
  rw [← hzs'] at hv
  simp only [Builtin.zeroCells, Array.toList_map, Array.toList_range, List.mem_map, List.mem_range] at hv
  obtain ⟨j, hj, rfl⟩ := hv
  have hlt : j % z.cells.size < z.cells.size := Nat.mod_lt _ (by rw [hzs]; exact E'.el.h0)
  rw [getElem!_pos z.cells (j % z.cells.size) hlt]
  exact hz1 _ (by simp)
 have hst := run_storeCells_at P g (i * size) e zs 0 cur.toArray w hb (by simp; omega) hz2
 simp only [Nat.add_zero] at hst
 have hbl : Below 0 w (w.setRow g (cur.toArray.toList.take (i * size) ++ zs ++ cur.toArray.toList.drop (i * size + zs.length)).toArray) := below_setRow (Below.refl 0 w) (Nat.zero_le _) _
 refine ⟨(), _, ?_, h2.turn rfl (fun k hk => .inl hk) (qC (setRow_heap w g _ _ e _ hb) ?_ (by omega) h4 ?_ ?_) hbl.os hbl.tape hbl.output hbl.size fun k _ hne => setRow_other w g k _ fun e => hne (show some g = some k by rw [e])⟩
 ·unfold execOp
  simp only [hop, resolve, invoke, builtin, ka.ev hd, List.map_toArray, List.map_cons, List.map_nil, Sem.run_bind, Sem.run_pure, Result.andThen_ok]
  simp [Builtin.clear_, run_underlying E'.el.ht, zeroValue, typeInfo, hti, htz, hzs', hst, h0]
 ·rw [hx1, List.length_take]; omega
 ·simp only [List.length_append, List.length_take, List.length_drop]
  omega
 simp only
 rw [hx1, List.append_assoc, List.take_append_of_le_length (by rw [List.length_take]; omega), List.take_take, Nat.min_self]
theorem QqF {t e xt size bytes : Nat} {z : Value} {k : IntKind} [E' : TS P t e size bytes z] {g N c i q : Nat} {xs : List Value} (hxt : P.underlying xt = some (.int k)) (hs : ev E x = some (.slice (some ⟨g, 0, none⟩) i c)) (hx : ev E y = some (.int .i64 (q : Int))) (hi : i ≤ N) (h0 : 0 < q) (hg : c < i + q) (hb : (i + q) * bytes ≤ 140737488355328) [ht : TakeG g L N c e size xs M] :
  JO P A W n D E L (.call { callee := .builtin .append, args := #[x, y], argTypes := #[t, xt] }) (fun u : Nat × Nat => .slice (some ⟨u.1, 0, none⟩) (i + q) u.2) (fun u => .own (.slice (some ⟨u.1, 0, none⟩) (i + q) u.2) (i + q) e size (xs.take (i * size) ++ (madeCells z.cells (q * size)).toList) :: L) := fun a w ka s op hop => by
 have h2 := s.perm ht.perm
 have ho : w.ownsRow 0 e size (.slice (some ⟨g, 0, none⟩) N c) N xs := h2.ok (.own _ _ _ _ _) (List.mem_cons_self ..)
 obtain ⟨cur, hbk, h3, h4, h5, h6⟩ := JT ho
 obtain ⟨ti, hti, htz, hts, htb⟩ := info_parts E'.el.hi
 have hzs := E'.el.hz
 have hbp := E'.el.hb
 have hN : N * size ≤ cur.length := by rw [h5]; exact Nat.mul_le_mul_right _ h3
 have hiN : i * size ≤ N * size := Nat.mul_le_mul_right _ hi
 have hx1 : xs.take (i * size) = cur.take (i * size) := by rw [← h6, List.take_take, Nat.min_eq_left hiN]
 have hol : (xs.take (i * size)).length = i * size := by rw [hx1, List.length_take]; omega
 have hiq : i + q ≤ (i + q) * bytes := Nat.le_mul_of_pos_right _ hbp
 have hfc : (Builtin.firstCells ti.size i (.slice (some ⟨g, 0, none⟩) i c)).run P w.drew = .ok (xs.take (i * size)).toArray w.drew := by
  have hl := run_loadCells_list (P := P) (w := w.drew) ⟨g, 0, none⟩ (xs.take (i * size)) (fun j v hv => by
   have hc := cell_of_row w g j cur.toArray e (0, 0) hbk
   rw [hx1, List.getElem?_take] at hv
   split at hv
   ·rw [Addr.add_mid, Nat.zero_add]
    show w.cell? ⟨g, j, none⟩ = some v
    rw [hc]
    simpa using hv
   cases hv)
  rw [hol] at hl
  unfold Builtin.firstCells
  rw [hts]
  exact hl
 have hrun := Lib.run_append_grow_zeros (P := P) w t xt op.type e ti z .i64 k E'.el.ht hxt hti htz (some ⟨g, 0, none⟩) i c (xs.take (i * size)) hfc q h0 (by rw [hts]; exact E'.el.h0) hg (by omega) (by rw [htb]; have : q * bytes ≤ (i + q) * bytes := Nat.mul_le_mul_right _ (by omega); omega) (growslice_fits hg (by rw [htb]; exact hb))
 have hge := grownCap_ge w (i + q) c e
 have hcm := grownCap_le_maxLen w (i + q) c e (by unfold maxLen; omega)
 generalize grownCap w (i + q) c e = c' at *
 have hmz : (Builtin.zeroCells z.cells q).toList = (madeCells z.cells (q * size)).toList := by unfold Builtin.zeroCells madeCells; rw [hzs]
 have hml : (madeCells z.cells (q * size)).toList.length = q * size := by simp [madeCells]
 have hrl : (Builtin.zeroCells z.cells (c' - (i + q))).toList.length = (c' - (i + q)) * size := by simp [Builtin.zeroCells, hzs]
 have hS' := (s.drew).alloc (xs.take (i * size) ++ (madeCells z.cells (q * size)).toList ++ (Builtin.zeroCells z.cells (c' - (i + q))).toList) e
 have hcs : (i + q) * size + (c' - (i + q)) * size = c' * size := by rw [← Nat.add_mul]; congr 1; omega
 have hiqs : (i + q) * size = i * size + q * size := Nat.add_mul ..
 refine ⟨(w.heap.size, c'), _, ?_, hS'.blkOwn (m := i + q) (c := c') ?_ hge hcm ?_ ?_⟩
 ·unfold execOp
  simp only [hop, resolve, invoke, builtin, ka.ev hs, ka.ev hx, List.map_toArray, List.map_cons, List.map_nil, Sem.run_bind, Sem.run_pure, Result.andThen_ok]
  have harr : (xs.take (i * size)).toArray ++ Builtin.zeroCells z.cells q ++ Builtin.zeroCells z.cells (c' - (i + q)) = (xs.take (i * size) ++ (madeCells z.cells (q * size)).toList ++ (Builtin.zeroCells z.cells (c' - (i + q))).toList).toArray := by
   rw [← hmz]
   apply Array.ext'
   simp
  rw [hrun, harr]
  rfl
 ·rw [List.length_append, hol, hml, hiqs]
 ·rw [List.length_append, List.length_append, hol, hml, hrl]; omega
 rw [List.take_append_of_le_length (by rw [List.length_append, hol, hml]; omega), List.take_of_length_le (by rw [List.length_append, hol, hml]; omega)]
theorem Qqd {f : FuncId} {l : List Operand} {ts : Array TypeId} {vs : List Value} {v : Value} (hb : ∀ w, Fx w L → (callFunc f vs.toArray).run P w = .ok (.value v) w) (ha : evs E l = some vs) : QM P n D E L (.call ⟨.value (.func f), l.toArray, ts⟩) v := fun a w ka s o ho => QaE ka ho ha (hb w s)
theorem Zl {e size bytes N c l b O : Nat} {z : Value} {p : Operand} {k : IntKind} {i : Int} [E' : TS P T e size bytes z] (hx : ev E x = some (.slice (some ⟨b, O, none⟩) N c)) (hp : ev E p = some (.int k i)) [hi : NatOf i l] (hl : l ≤ N := by omega) (hlt : l < c := by omega) : QM P n D E L (.slice T x (some p) none none) (.slice (some ⟨b, O + l * size, none⟩) (N - l) (c - l)) := by
 have := Qb5 (P := P) (n := n) (D := D) (L := L) (E' := E') hx hp (hi := hi) hl
 rwa [Qan hlt] at this
theorem Qrq {a b : ByteArray} (hx : ev E x = some (.string a)) (hy : ev E y = some (.string b)) : QM P n D E L (.binOp .neq T x y T') (.bool !(a.toList == b.toList)) := fun act w ka s o ho => J7 ho (ka.ev hx) (ka.ev hy) rfl (by rw [binOp_string_neq]; rfl)
end
end
end Go.Proofs.YtjhlbbgikccclaaGreatDoor
