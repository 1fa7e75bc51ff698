/- joined texts -/
import Derived.Test.YtjhlbbgikccclaaGreatDoorF14
import Derived.Laws.IdiomStrings
import Derived.Laws.BytesString
set_option linter.all false
namespace Go.Proofs.YtjhlbbgikccclaaGreatDoor
section
open Go.RowKit
def Qpx (f : FuncId) : Prop := ∀ x : Change, QC Tryz.prog f [.agg x.cells.toArray].toArray [] [] (fun _ : Unit => .agg x.key.cells.toArray) (fun _ => [])
theorem Qrk : Qpx 167 := fun x => by
 refine Qk Tryz.func167 rfl (n := 5) rfl rfl ?_
 intro W
 refine yR ?_
 refine Qo (Q9 rfl) fun g1 => ?_
 refine Qo (Q0) fun g2 => ?_
 refine yN ?_
 refine yR ?_
 refine Qb (Qe rfl) ?_
 refine Qb (Qm rfl) ?_
 refine Q7 (Qw rfl rfl) ?_
 refine yN ?_
 refine Qs ?_
 exact Qu rfl (QZ rfl) fun w s => ⟨(), rfl, s.res (List.nil_sublist _) (by simp)⟩
theorem Qrl : Qpx 174 := fun x => by
 refine Qk Tryz.func174 rfl (n := 5) rfl rfl ?_
 intro W
 refine yR ?_
 refine Qo (Q9 rfl) fun g1 => ?_
 refine Qo (Q0) fun g2 => ?_
 refine yN ?_
 refine yR ?_
 refine Qb (Qe rfl) ?_
 refine Qb (Qm rfl) ?_
 refine Q7 (Qw rfl rfl) ?_
 refine yN ?_
 refine Qs ?_
 exact Qu rfl (QZ rfl) fun w s => ⟨(), rfl, s.res (List.nil_sublist _) (by simp)⟩
def ksI (l : List Chg) (k : Nat) : List B32 := (l.take k).map Chg.key ++ List.replicate (l.length - k) QN
theorem QhO {l : List Chg} {k : Nat} (hk : k ≤ l.length) : (ksI l k).length = l.length := by simp [ksI]; omega
theorem Qlx (l : List Chg) : List.replicate l.length QN = ksI l 0 := by simp [ksI]
theorem QnR (l : List Chg) : ksI l l.length = l.map Chg.key := by simp [ksI]
theorem QnS {l : List Chg} {k : Nat} (hk : k < l.length) : (ksI l k).set k (l.getD k Yp).key = ksI l (k + 1) := by
 have hx := Qee hk
 have hl : ((l.take k).map Chg.key).length = k := by rw [List.length_map, List.length_take]; omega
 unfold ksI
 rw [List.set_append_right _ _ (by omega), hl, Nat.sub_self, show l.length - k = (l.length - (k + 1)) + 1 by omega, List.replicate_succ, List.set_cons_zero, List.take_add_one, hx, List.map_append, List.append_assoc]
 rfl
theorem Qlv (f : FuncId) [Ent Tryz.prog f] (hF : Qpx f) (l : List Chg) (B : Option Addr) (c : Nat) (hl : l.length ≤ 1000000) : QC Tryz.prog 166 [.slice B l.length c, .func (.func f) #[] #[]].toArray [.rd B (Jh l)] [] (fun g : Nat => .slice (some ⟨g, 0, none⟩) l.length l.length) (fun g => [.own (.slice (some ⟨g, 0, none⟩) l.length l.length) l.length 34 32 (dgs (l.map Chg.key))]) := by
 refine Qk Tryz.func166 rfl (n := 26) rfl rfl ?_
 intro W
 refine yR ?_
 refine yS rfl ?_
 refine yN ?_
 refine yR ?_
 refine yM rfl ?_
 refine Qb (QF rfl) ?_
 refine Qo (Qhs rfl rfl) fun g10 => ?_
 refine yS rfl ?_
 refine yN ?_
 refine Qd ?_
 refine yR ?_
 refine yM rfl ?_
 refine Qb (QF rfl) ?_
 refine yM rfl ?_
 refine yN ?_
 refine Qq ?_
 rw [QfG, Qlx]
 refine QS (fun (k : Nat) => k ≤ l.length) (fun (k : Nat) => [(13, .int .i64 (k : Int)), (12, .int .i64 (l.length : Int)), (11, .slice B l.length c), (5, .slice (some ⟨g10, 0, none⟩) l.length l.length), (1, .func (.func f) #[] #[])]) (fun (k : Nat) => [.own (.slice (some ⟨g10, 0, none⟩) l.length l.length) l.length 34 32 (dgs (ksI l k)), .rd B (Jh l)]) (fun (k : Nat) => l.length - k) 0 ((show 0 ≤ _ from Nat.zero_le _)) ⟨rfl, rfl, rfl, rfl, rfl, trivial⟩ (same) ?_
 rintro k hk
 refine yR ?_
 refine Qb (QT rfl rfl) ?_
 refine yN ?_
 refine Qd ?_
 refine QU rfl (fun hlt => ?_) (fun hlt => ?_)
 ·have hk2 : k < l.length := by omega
  have hx := Qee hk2
  have hset := QhD (ksI l k) k (l.getD k Yp).key (by rw [QhO (by omega)]; exact hk2)
  rw [QnS hk2] at hset
  refine Jq (φ := ∃ b o, B = some ⟨b, o, none⟩) (fun w s => Rd.some (s.ok (.rd B (Jh l)) (by simp)) (by rw [Y4]; omega)) ?_
  rintro ⟨b, o, rfl⟩
  generalize l.getD k Yp = x at *
  have hFx := hF x.st
  refine Qn ?_
  refine Qc ?_
  refine Qd ?_
  refine Qq ?_
  refine yR ?_
  refine yM rfl ?_
  refine Qb (QQ rfl rfl) ?_
  refine Qb (Jm rfl (out := x.st.cells) (Change.cells_length _) (qf hx)) ?_
  refine Qo (Q0) fun g7 => ?_
  refine yS rfl ?_
  refine Q7 (Qw rfl rfl) ?_
  refine yN ?_
  refine Q5 ?_
  refine yM rfl ?_
  refine yM rfl ?_
  refine yM rfl ?_
  refine Qb (Qm rfl) ?_
  refine Qh (hFx.comes) rfl rfl rfl fun _ => ?_
  refine Qb (QQ rfl rfl) ?_
  refine Q7 (Qe2 rfl rfl (by rw [JI, QhO (by omega)]; omega) hset) ?_
  refine QE ?_
  refine Q2 ?_
  refine Qc ?_
  refine Q5 ?_
  refine Qb (QI rfl rfl) ?_
  refine yM rfl ?_
  refine QE ?_
  exact QH (k + 1) ((show k + 1 ≤ _ from hk2)) ((show l.length - (k + 1) < l.length - k by omega)) ⟨rfl, rfl, rfl, rfl, rfl, trivial⟩ (same)
 obtain rfl : k = l.length := by omega
 rw [QnR]
 refine QK ?_
 refine Qx ?_
 refine Qx ?_
 refine Q8 ?_
 refine Qc ?_
 refine yR ?_
 refine yM rfl ?_
 refine yS rfl ?_
 refine yN ?_
 refine Qs ?_
 exact Qu rfl rfl fun w s => ⟨g10, rfl, (same (L' := [.own (.slice (some ⟨g10, 0, none⟩) l.length l.length) l.length 34 32 (dgs (l.map Chg.key))]) w s).res (List.Sublist.refl _) (by simp [Fa.wr])⟩
theorem Qnt (l : List Chg) (B : Option Addr) (c : Nat) (hl : l.length ≤ 1000000) : QC Tryz.prog 111 [.slice B l.length c].toArray [.rd B (Jh l)] [] (fun _ : Unit => .int .i64 (QdZ (l.map Chg.key))) (fun _ => []) := by
 have hk := fun g => Qlu (l.map Chg.key) (some ⟨g, 0, none⟩) l.length (by rw [List.length_map]; omega)
 rw [List.length_map] at hk
 refine Qk Tryz.func111 rfl (n := 6) rfl rfl ?_
 intro W
 refine yR ?_
 refine yS rfl ?_
 refine yN ?_
 refine yR ?_
 refine yM rfl ?_
 refine Qh ((Qlv 167 Qrk l B c hl).comes) rfl rfl rfl fun g4 => ?_
 refine Qh ((hk g4).comes) rfl rfl rfl fun _ => ?_
 refine yS rfl ?_
 refine yN ?_
 refine Qs ?_
 exact Qu rfl rfl fun w s => ⟨(), rfl, s.res (List.nil_sublist _) (by simp)⟩
theorem QkK (x : Change) : QC Tryz.prog 171 [.agg x.cells.toArray].toArray [] [] (fun _ : Unit => .bool x.del) (fun _ => []) := by
 refine Qk Tryz.func171 rfl (n := 5) rfl rfl ?_
 intro W
 refine yR ?_
 refine Qo (Q9 rfl) fun g1 => ?_
 refine yS rfl ?_
 refine yN ?_
 refine yR ?_
 refine Qb (Qe rfl) ?_
 refine Qb (Qf rfl) ?_
 refine yS rfl ?_
 refine yN ?_
 refine Qs ?_
 exact Qu rfl rfl fun w s => ⟨(), rfl, s.res (List.nil_sublist _) (by simp)⟩
def QpM (l : List Chg) (k : Nat) : Prop := ∀ j, j < k → (l.getD j Yp).del = false
theorem Qkg (l : List Chg) (B : Option Addr) (c : Nat) (hl : l.length ≤ 1000000) (k : Nat) (hk : k ≤ l.length) (hf : QpM l k) (hd : k < l.length → (l.getD k Yp).del = true) : QC Tryz.prog 243 [.slice B l.length c, .func (.func 171) #[] #[]].toArray [.rd B (Jh l)] [] (fun _ : Unit => .int .i64 (if k < l.length then (k : Int) else -1)) (fun _ => []) := by
 refine Qk Tryz.func243 rfl (n := 19) rfl rfl ?_
 intro W
 refine yR ?_
 refine yS rfl ?_
 refine yN ?_
 refine Qd ?_
 refine yR ?_
 refine yM rfl ?_
 refine Qb (QF rfl) ?_
 refine yM rfl ?_
 refine yN ?_
 refine Qq ?_
 refine QS (fun (i : Nat) => i ≤ k) (fun (i : Nat) => [(8, .int .i64 (i : Int)), (7, .int .i64 (l.length : Int)), (0, .slice B l.length c), (1, .func (.func 171) #[] #[])]) (fun (i : Nat) => [.rd B (Jh l)]) (fun (i : Nat) => k + 1 - i) 0 ((show 0 ≤ _ from Nat.zero_le _)) ⟨rfl, rfl, rfl, rfl, trivial⟩ (same) ?_
 rintro i hi
 refine yR ?_
 refine Qb (QT rfl rfl) ?_
 refine yN ?_
 refine Qd ?_
 by_cases hlt : i < l.length
 ·refine Yz rfl ((by omega)) ?_
  have hx := Qee hlt
  refine Jq (φ := ∃ b o, B = some ⟨b, o, none⟩) (fun w s => Rd.some (s.ok (.rd B (Jh l)) (by simp)) (by rw [Y4]; omega)) ?_
  rintro ⟨b, o, rfl⟩
  have hfi := hf i
  have hdi : ¬ i < k → (l.getD i Yp).del = true := fun e => by
   obtain rfl : i = k := by omega
   exact hd hlt
  have hF := QkK (l.getD i Yp).st
  rw [show (l.getD i Yp).st.del = (l.getD i Yp).del from rfl] at hF
  generalize l.getD i Yp = x at *
  by_cases hik : i < k
  ·rw [hfi hik] at hF
   refine Qn ?_
   refine Qc ?_
   refine Qd ?_
   refine Qq ?_
   refine yR ?_
   refine yM rfl ?_
   refine yS rfl ?_
   refine yN ?_
   refine yR ?_
   refine yM rfl ?_
   refine yM rfl ?_
   refine yM rfl ?_
   refine Qb (QQ rfl rfl) ?_
   refine Qb (Jm rfl (out := x.st.cells) (Change.cells_length _) (qf hx)) ?_
   refine Qh (hF.comes) rfl rfl rfl fun _ => ?_
   refine yN ?_
   refine Qt rfl ?_
   refine Qn ?_
   refine Q2 ?_
   refine Qc ?_
   refine Q5 ?_
   refine Qb (QI rfl rfl) ?_
   refine yM rfl ?_
   refine QE ?_
   exact QH (i + 1) ((show i + 1 ≤ k from hik)) ((show k + 1 - (i + 1) < k + 1 - i by omega)) ⟨rfl, rfl, rfl, rfl, trivial⟩ (same)
  rw [hdi hik] at hF
  obtain rfl : i = k := by omega
  rw [if_pos hlt]
  refine Qn ?_
  refine Qc ?_
  refine Qd ?_
  refine Qq ?_
  refine yR ?_
  refine yM rfl ?_
  refine yS rfl ?_
  refine yN ?_
  refine yR ?_
  refine yM rfl ?_
  refine yM rfl ?_
  refine yM rfl ?_
  refine Qb (QQ rfl rfl) ?_
  refine Qb (Jm rfl (out := x.st.cells) (Change.cells_length _) (qf hx)) ?_
  refine Qh (hF.comes) rfl rfl rfl fun _ => ?_
  refine yN ?_
  refine Qz rfl ?_
  refine yR ?_
  refine yM rfl ?_
  refine yS rfl ?_
  refine yN ?_
  refine Qs ?_
  refine Q3 ?_
  refine Qr ?_
  refine Qr ?_
  refine Q3 ?_
  refine Qr ?_
  exact Qu rfl rfl fun w s => ⟨(), rfl, s.res (List.nil_sublist _) (by simp)⟩
 obtain rfl : i = l.length := by omega
 obtain rfl : k = l.length := by omega
 rw [if_neg (by omega)]
 refine Ys rfl ((by omega)) ?_
 refine QK ?_
 refine Qx ?_
 refine Qx ?_
 refine Q8 ?_
 refine Qc ?_
 refine yR ?_
 refine yS rfl ?_
 refine yN ?_
 refine Qs ?_
 exact Qu rfl rfl fun w s => ⟨(), rfl, s.res (List.nil_sublist _) (by simp)⟩
theorem Qaa {l : List Chg} {j : Nat} {x : Chg} (h : l[j]? = some x) : JG (l.take (j + 1)) = if x.del then JG (l.take j) else JG (l.take j) ++ [x] := by
 unfold JG
 cases hd : x.del
 ·rw [if_neg (by simp)]
  exact Qfz h (by rw [hd]; rfl)
 rw [if_pos rfl]
 exact QhK h (by rw [hd]; decide)
structure DelR (l : List Chg) (i j : Nat) (r : List Chg) : Prop where
 len : r.length = l.length
 lt : i < j
 ct : i = (JG (l.take j)).length
 head : r.take i = JG (l.take j)
 tail : r.drop j = l.drop j
theorem DelR.get {l : List Chg} {i j : Nat} {r : List Chg} (h : DelR l i j r) (hj : j < l.length) : r[j]? = some (l.getD j Yp) := by
 have h1 := congrArg (fun q => q[0]?) h.tail
 simp only [List.getElem?_drop, Nat.add_zero] at h1
 rw [h1, Qee hj]
theorem DelR.skip {l : List Chg} {i j : Nat} {r : List Chg} (h : DelR l i j r) (hj : j < l.length) (hd : (l.getD j Yp).del = true) : DelR l i (j + 1) r := by
 have e := Qaa (Qee hj)
 rw [if_pos hd] at e
 refine ⟨h.len, Nat.lt_succ_of_lt h.lt, by rw [e]; exact h.ct, by rw [e]; exact h.head, ?_⟩
 have := congrArg (fun q => q.drop 1) h.tail
 simpa [List.drop_drop] using this
theorem DelR.keep {l : List Chg} {i j : Nat} {r : List Chg} (h : DelR l i j r) (hj : j < l.length) (hd : (l.getD j Yp).del = false) : DelR l (i + 1) (j + 1) (r.set i (l.getD j Yp)) := by
 have e := Qaa (Qee hj)
 rw [if_neg (by rw [hd]; decide)] at e
 have hle := h.lt
 have hl := h.len
 refine ⟨by rw [List.length_set]; exact h.len, Nat.succ_lt_succ h.lt, by rw [e, List.length_append, ← h.ct]; rfl, ?_, ?_⟩
 ·rw [e, ← h.head, List.take_add_one, List.getElem?_set_self (by omega), List.take_set_of_le (Nat.le_refl _)]
  rfl
 rw [List.drop_set_of_lt (by omega)]
 have := congrArg (fun q => q.drop 1) h.tail
 simpa [List.drop_drop] using this
theorem DelR.start {l : List Chg} {k : Nat} (hk : k < l.length) (hf : QpM l k) (hd : (l.getD k Yp).del = true) : DelR l k (k + 1) l := by
 have h1 : JG (l.take k) = l.take k := ZZ fun c hc => by
  obtain ⟨j, hj, hcj⟩ := List.getElem_of_mem hc
  rw [List.length_take] at hj
  rw [List.getElem_take] at hcj
  have := hf j (by omega)
  rw [List.getD_eq_getElem?_getD, List.getElem?_eq_getElem (by omega)] at this
  rw [← hcj]; exact this
 have e := Qaa (Qee hk)
 rw [if_pos hd, h1] at e
 exact ⟨rfl, Nat.lt_succ_self k, by rw [e, List.length_take]; omega, e.symm, rfl⟩
theorem DelR.end_ {l : List Chg} {i : Nat} {r : List Chg} (h : DelR l i l.length r) : i = (JG l).length ∧ r.take i = JG l := by
 have h1 := h.ct
 have h2 := h.head
 rw [List.take_length] at h1 h2
 exact ⟨h1, h2⟩
theorem QhJ : ∀ l : List Chg, ∃ k, k ≤ l.length ∧ QpM l k ∧ (k < l.length → (l.getD k Yp).del = true)
 | [] => ⟨0, Nat.le_refl _, fun j hj => by omega, fun h => by simp at h⟩
 | c :: l => by
  cases hd : c.del
  ·obtain ⟨k, h1, h2, h3⟩ := QhJ l
   refine ⟨k + 1, by simp; omega, fun j hj => ?_, fun h => ?_⟩
   ·cases j with
    | zero => exact hd
    | succ j => rw [List.getD_cons_succ]; exact h2 j (by omega)
   rw [List.getD_cons_succ]
   exact h3 (by simpa using h)
  exact ⟨0, Nat.zero_le _, fun j hj => by omega, fun _ => hd⟩
theorem Qiw (l : List Chg) (g c : Nat) (hl : l.length ≤ 1000000) : QC Tryz.prog 169 [.slice (some ⟨g, 0, none⟩) l.length c, .func (.func 171) #[] #[]].toArray [] [.own (.slice (some ⟨g, 0, none⟩) l.length c) l.length 37 34 (Jh l)] (fun _ : Unit => .slice (some ⟨g, 0, none⟩) (JG l).length c) (fun _ => [.own (.slice (some ⟨g, 0, none⟩) (JG l).length c) (JG l).length 37 34 (Jh (JG l))]) := by
 obtain ⟨k, hk, hf, hd⟩ := QhJ l
 have hI := Qkg l (some ⟨g, 0, none⟩) c hl k hk hf hd
 have hz1 : ∀ v ∈ (Value.agg VI.cells.toArray).cells.toList, v.oneCell' = true := fun v hv => Change.cells_one VI v (by simpa [Value.cells] using hv)
 refine Qk Tryz.func169 rfl (n := 42) rfl rfl ?_
 intro W
 refine yR ?_
 refine yS rfl ?_
 refine yN ?_
 refine yR ?_
 refine yM rfl ?_
 refine yM rfl ?_
 refine Qh (hI.comes) rfl rfl rfl fun _ => ?_
 by_cases hkl : k < l.length
 ·rw [if_pos hkl]
  have hS := DelR.start hkl hf (hd hkl)
  refine yS rfl ?_
  refine yN ?_
  refine Qd ?_
  refine yR ?_
  refine yM rfl ?_
  refine Qb (QG rfl rfl) ?_
  refine yN ?_
  refine Ys rfl ((by omega)) ?_
  refine Qn ?_
  refine Qc ?_
  refine Qd ?_
  refine yR ?_
  refine yM rfl ?_
  refine Qb (Jv (QI rfl rfl) (show _ = ((k + 1 : Nat) : Int) by omega)) ?_
  refine yS rfl ?_
  refine yN ?_
  refine Qq ?_
  refine QS (fun (s : Nat × Nat × List Chg) => s.2.1 ≤ l.length ∧ DelR l s.1 s.2.1 s.2.2) (fun (s : Nat × Nat × List Chg) => [(5, .int .i64 (s.1 : Int)), (6, .int .i64 (s.2.1 : Int)), (0, .slice (some ⟨g, 0, none⟩) l.length c), (1, .func (.func 171) #[] #[])]) (fun (s : Nat × Nat × List Chg) => [.own (.slice (some ⟨g, 0, none⟩) l.length c) l.length 37 34 (Jh s.2.2)]) (fun (s : Nat × Nat × List Chg) => l.length - s.2.1) (k, k + 1, l) (⟨hkl, hS⟩) ⟨rfl, rfl, rfl, rfl, trivial⟩ (same) ?_
  rintro ⟨i, j, r⟩ ⟨hj, hR⟩
  dsimp only at hj hR ⊢
  have hij := hR.lt
  have hrl := hR.len
  refine Qd ?_
  refine yR ?_
  refine yM rfl ?_
  refine yM rfl ?_
  refine Qb (QF rfl) ?_
  refine Qb (QT rfl rfl) ?_
  refine yN ?_
  by_cases hjl : j < l.length
  ·refine Yz rfl ((by omega)) ?_
   have hx := hR.get hjl
   have hF := QkK (l.getD j Yp).st
   have hsk := hR.skip hjl
   have hke := hR.keep hjl
   have hset : (Jh r).take (i * 34) ++ (l.getD j Yp).st.cells ++ (Jh r).drop (i * 34 + 34) = Jh (r.set i (l.getD j Yp)) := Qih Chg.cells_length (l.getD j Yp) (show i < r.length by omega)
   rw [show (l.getD j Yp).st.del = (l.getD j Yp).del from rfl] at hF
   generalize l.getD j Yp = x at *
   cases hxd : x.del
   ·rw [hxd] at hF
    refine Qn ?_
    refine Qc ?_
    refine Qd ?_
    refine Qq ?_
    refine yR ?_
    refine yM rfl ?_
    refine yM rfl ?_
    refine Qb (QQ rfl rfl) ?_
    refine Qb (Jm rfl (out := x.st.cells) (Change.cells_length _) (qf hx)) ?_
    refine Qo (Q0) fun g7 => ?_
    refine Q7 (Qw rfl rfl) ?_
    refine yN ?_
    refine yR ?_
    refine yM rfl ?_
    refine Qb (Qm rfl) ?_
    refine Qh (hF.comes) rfl rfl rfl fun _ => ?_
    refine Qb (Ji rfl) ?_
    refine yN ?_
    refine Qz rfl ?_
    refine yR ?_
    refine yM rfl ?_
    refine yM rfl ?_
    refine Qb (Qm rfl) ?_
    refine Qb (QQ rfl rfl) ?_
    refine Q7 (Qe2 rfl rfl (by rw [Y4]; omega) hset) ?_
    refine yN ?_
    refine Q5 ?_
    refine yM rfl ?_
    refine Qb (QI rfl rfl) ?_
    refine yS rfl ?_
    refine QE ?_
    refine Q2 ?_
    refine Qc ?_
    refine Q5 ?_
    refine yM rfl ?_
    refine Qb (QI rfl rfl) ?_
    refine yS rfl ?_
    refine QE ?_
    exact QH (i + 1, j + 1, r.set i x) (⟨hjl, hke hxd⟩) ((show l.length - (j + 1) < l.length - j by omega)) ⟨rfl, rfl, rfl, rfl, trivial⟩ (same)
   rw [hxd] at hF
   refine Qn ?_
   refine Qc ?_
   refine Qd ?_
   refine Qq ?_
   refine yR ?_
   refine yM rfl ?_
   refine yM rfl ?_
   refine Qb (QQ rfl rfl) ?_
   refine Qb (Jm rfl (out := x.st.cells) (Change.cells_length _) (qf hx)) ?_
   refine Qo (Q0) fun g7 => ?_
   refine Q7 (Qw rfl rfl) ?_
   refine yN ?_
   refine yR ?_
   refine yM rfl ?_
   refine Qb (Qm rfl) ?_
   refine Qh (hF.comes) rfl rfl rfl fun _ => ?_
   refine Qb (Ji rfl) ?_
   refine yN ?_
   refine Qt rfl ?_
   refine Qn ?_
   refine Q2 ?_
   refine Qc ?_
   refine Q5 ?_
   refine yM rfl ?_
   refine Qb (QI rfl rfl) ?_
   refine yS rfl ?_
   refine QE ?_
   exact QH (i, j + 1, r) (⟨hjl, hsk hxd⟩) ((show l.length - (j + 1) < l.length - j by omega)) ⟨rfl, rfl, rfl, rfl, trivial⟩ (same)
  obtain rfl : j = l.length := by omega
  obtain ⟨hi, ht⟩ := hR.end_
  have hcg : (Jh r).take (i * 34) = Jh (JG l) := by rw [← ht]; exact QcH Chg.cells_length r i
  refine Jq (φ := l.length ≤ c) (fun w s => (s.ownLe (B := some ⟨g, 0, none⟩) (N := l.length) (c := c)).1) fun hc => ?_
  refine Ys rfl ((by omega)) ?_
  refine QK ?_
  refine Qx ?_
  refine Qx ?_
  refine Q8 ?_
  refine Qc ?_
  refine yR ?_
  refine yM rfl ?_
  refine yM rfl ?_
  refine Qb (Zl rfl rfl) ?_
  refine QpP (QoW (N := l.length) (i := i) rfl (Nat.zero_add _) (by omega) hz1) fun g903 => ?_
  refine yN ?_
  refine yR ?_
  refine yM rfl ?_
  refine yM rfl ?_
  refine Qb (Qhd rfl rfl) ?_
  refine yS rfl ?_
  refine yN ?_
  refine Qs ?_
  rw [hcg]
  subst hi
  exact Qu rfl rfl fun w s => ⟨(), rfl, (same (L' := [.own (.slice (some ⟨g, 0, none⟩) (JG l).length c) (JG l).length 37 34 (Jh (JG l))]) w s).res (List.Sublist.refl _) (by simp [Fa.wr])⟩
 obtain rfl : k = l.length := by omega
 have hp : JG l = l := by
  have := ZZ (l := l) fun c hc => by
   obtain ⟨j, hj, hcj⟩ := List.getElem_of_mem hc
   have := hf j hj
   rw [List.getD_eq_getElem?_getD, List.getElem?_eq_getElem hj] at this
   rw [← hcj]; exact this
  exact this
 rw [if_neg hkl, hp]
 refine yS rfl ?_
 refine yN ?_
 refine Qd ?_
 refine yR ?_
 refine yM rfl ?_
 refine Qb (QG rfl rfl) ?_
 refine yN ?_
 refine Qz rfl ?_
 refine yR ?_
 refine yM rfl ?_
 refine yS rfl ?_
 refine yN ?_
 refine Qs ?_
 refine Qr ?_
 exact Qu rfl rfl fun w s => ⟨(), rfl, (same (L' := [.own (.slice (some ⟨g, 0, none⟩) l.length c) l.length 37 34 (Jh l)]) w s).res (List.Sublist.refl _) (by simp [Fa.wr])⟩
end
section
open Go.RowKit
class TBS (P : Program) (T T' : TypeId) : Prop where
 ok : ∃ e, P.underlying T = some (.slice e) ∧ P.underlying e = some (.int .u8) ∧ P.underlying T' = some .string
theorem QlZ {P : Program} {n : Nat} {D : List Deferred} {E : Env} {L : List Fa} {T T' : TypeId} {x : Operand} {A : Option Addr} {l : List UInt8} {c : Nat} [h : TBS P T T'] (hx : ev E x = some (.slice A l.length c)) [hA : Rd1 L (.rd A (bc l))] : QM P n D E L (.convert T T' x) (.string ⟨l.toArray⟩) := fun act w ka s o ho => by
 obtain ⟨e, h1, h2, h3⟩ := h.ok
 have hr := (hA.ok s).2.1
 have hrun : (convert T T' (.slice A l.length c)).run P w = .ok (.string ⟨l.toArray⟩) w := by
  cases A with
  | none =>
   have : l = [] := by
    cases l with
    | nil => rfl
    | cons x l => obtain ⟨b, o, e, _⟩ := hr 0 (.int .u8 x.toNat) rfl; cases e
   subst this
   rw [run_convert_bytes_string w T T' e none [].length c h1 h2 h3]
   rfl
  | some a =>
   refine run_convert_bytes_back w T T' e a c l h1 h2 h3 fun j hj => ?_
   have hj' : (bc l)[j]? = some (.int .u8 (l[j].toNat : Int)) := by simp [bc, hj]
   obtain ⟨b, o, e, h2⟩ := hr j _ hj'
   injection e with e
   subst e
   rw [Addr.add_mid]
   exact h2
 unfold execOp
 simp only [ho, ka.ev hx, Sem.run_bind, hrun, Result.andThen_ok]
 rfl
instance iU140_1 : TBS Tryz.prog 35 9 := ⟨⟨_, Tryz.underlying35, Tryz.underlying5, Tryz.underlying9⟩⟩
theorem Qnp (a b : List UInt8) : ((⟨a.toArray⟩ : ByteArray).toList == (⟨b.toArray⟩ : ByteArray).toList) = decide (a = b) := by
 rw [ByteArray.toList_eq, ByteArray.toList_eq]
 by_cases h : a = b
 ·subst h; simp
 rw [decide_eq_false h]; simpa using h
theorem Qca (a b : List UInt8) (A B : Option Addr) (c c' : Nat) : QC Tryz.prog 103 [.slice A a.length c, .slice B b.length c'].toArray [.rd A (bc a), .rd B (bc b)] [] (fun _ : Unit => .bool (decide (a = b))) (fun _ => []) := by
 refine Qk Tryz.func103 rfl (n := 10) rfl rfl ?_
 intro W
 refine yR ?_
 refine yS rfl ?_
 refine yN ?_
 refine yR ?_
 refine yM rfl ?_
 refine Qb (QlZ rfl) ?_
 refine yM rfl ?_
 refine Qb (QlZ rfl) ?_
 refine Qb (Ql (Qrp rfl rfl) (Qnp a b)) ?_
 refine yS rfl ?_
 refine yN ?_
 refine Qs ?_
 exact Qu rfl rfl fun w s => ⟨(), rfl, s.res (List.nil_sublist _) (by simp)⟩
theorem QdN (n : Nat) (h : Zh) (kk : B32) (b : List UInt8) (hb : b.length ≤ 1000000000) (p : Option Addr) [ht : TrZ n h (.leaf kk b) p] : QC Tryz.prog 105 [.pointer p].toArray [.zone false h] [] (fun u : Option Addr × Nat => .agg (Entry.cells ⟨kk, ⟨u.1, b.length, u.2⟩⟩).toArray) (fun u => [.own (.slice u.1 b.length u.2) b.length 5 1 (bc b)]) := by
 refine Qk Tryz.func105 rfl (n := 13) rfl rfl ?_
 intro W
 refine yR ?_
 refine Qo (Q0) fun g2 => ?_
 refine yN ?_
 refine yR ?_
 refine yM rfl ?_
 refine Qh ((Ql1 n h kk b p).comes) rfl rfl rfl fun ⟨⟨sA, sn, sc⟩, hs⟩ => ?_
 dsimp only at hs ⊢
 have hsn := hs.len
 have hsr : RdZ h sA (bc b) := hs.rd
 have hnil := hs.nil
 dsimp only at hsn hnil
 subst hsn
 refine Qo (Q0) fun g3 => ?_
 refine Q7 (Qw rfl rfl) ?_
 refine yN ?_
 refine Qd ?_
 refine Q1 [.blk g3 (NLeaf.cells ⟨Y0 n kk b, ⟨sA, b.length, sc⟩⟩) 281] [] QJ (same) ?_
 refine Qa 0 rfl (Qe rfl) ?_
 refine Qa 1 rfl (Qe rfl) ?_
 refine Qp 2 rfl (Qm rfl) ?_
 refine Qa 3 rfl (Qe rfl) ?_
 refine Qp 4 rfl (Qf rfl) ?_
 refine Qv 5 ?_
 refine QR 5 rfl ((Qhv b sA sc hnil hb).comes) rfl rfl rfl (fun xx => same) fun ⟨A11, c11⟩ => ?_
 refine Qa 6 rfl (QD rfl) ?_
 refine Qv 7 ?_
 refine J4 7 rfl (Qw rfl rfl) ?_
 refine Qc ?_
 refine Qs ?_
 exact Qu rfl (QZ rfl) fun w s => ⟨(A11, c11), rfl, (same (L' := [.own (.slice A11 b.length c11) b.length 5 1 (bc b)]) w s).res (List.Sublist.refl _) (by simp [Fa.wr])⟩
section
variable (n : Nat) (h : Zh) (m : List En) (p : Option Addr) [ht : TrZ n h (mkT m 0) p] (key : B32) (D : Nat) (w : WayM key m D) (hvl : ∀ e ∈ m, e.val.length ≤ 1000000000)
include ht w hvl
theorem Qgx : QC Tryz.prog 86 [.pointer p, .agg key.cells.toArray].toArray [.zone false h] [] (fun u : Option Addr × Nat => .tuple #[.slice u.1 (JQ (Ja m key)).length u.2, .bool (Ja m key).isSome]) (fun u => [.own (.slice u.1 (JQ (Ja m key)).length u.2) (JQ (Ja m key)).length 5 1 (bc (JQ (Ja m key)))]) := by
 have hL := QeK n h (mkT m 0) p key D w.way
 have hon := w.on D (Nat.le_refl _)
 have hD := w.way.le
 have htD : TrZ n h (Jg key (mkT m 0) D) (JY h key p D) := inferInstance
 generalize JY h key p D = q at *
 rcases Qaq w.last with ⟨h1, h2⟩ | ⟨e, h1, hb, ⟨hk, h2⟩ | ⟨hk, h2⟩⟩
 ·rw [h2]
  rw [hon, h1, Jx] at htD
  have hK := J3 n h .nil q
  refine Qk Tryz.func86 rfl (n := 27) rfl rfl ?_
  intro W
  refine yR ?_
  refine Qo (Q9 rfl) fun g3 => ?_
  refine yS rfl ?_
  refine yS rfl ?_
  refine yN ?_
  refine yR ?_
  refine yM rfl ?_
  refine Qb (Qm rfl) ?_
  refine Qh (hL.comes) rfl rfl rfl fun _ => ?_
  refine yM rfl ?_
  refine Qb (Qj rfl rfl) ?_
  refine Qb (Qj rfl rfl) ?_
  refine yS rfl ?_
  refine yS rfl ?_
  refine yN ?_
  refine Qd ?_
  refine Qd ?_
  refine Q1 [.blk g3 key.cells 34] [] QJ (same) ?_
  refine Qa 0 rfl (Qi rfl) ?_
  refine Qv 1 ?_
  refine QR 1 rfl (hK.comes) rfl rfl rfl (fun xx => same) fun _ => ?_
  refine Qa 2 rfl (Ql (QL rfl rfl) (show _ = true from rfl)) ?_
  refine Qa 3 rfl (Qi rfl) ?_
  refine QW 4 rfl ?_
  refine QW 5 rfl ?_
  refine QW 6 rfl ?_
  refine QW 7 rfl ?_
  refine QW 8 rfl ?_
  refine Qa 9 rfl (Qy rfl rfl) ?_
  refine QB (by kernel_rfl) ?_
  refine Qc ?_
  refine Qz rfl ?_
  refine yR ?_
  refine yS rfl ?_
  refine yS rfl ?_
  refine yN ?_
  refine Qs ?_
  refine Qr ?_
  refine Ju 5 1 (xs := bc []) rfl ?_
  exact QO rfl rfl rfl fun w s => ⟨(none, 0), rfl, (same (L' := [.own (.slice none 0 0) 0 5 1 (bc [])]) w s).res (List.Sublist.refl _) (by simp [Fa.wr])⟩
 ·rw [h2]
  have hem := (Qaj (key := key) (m := m) (D := D) (e := e) (by rw [h1]; exact List.mem_singleton.2 rfl)).1
  rw [hon, h1, J0 e hD, hk] at htD
  have hK := J3 n h (.leaf key e.val) q
  have hLf := Vv n h (.leaf key e.val) q
  have hEn := QdN n h key e.val (hvl e hem) q
  refine Qk Tryz.func86 rfl (n := 27) rfl rfl ?_
  intro W
  refine yR ?_
  refine Qo (Q9 rfl) fun g3 => ?_
  refine yS rfl ?_
  refine yS rfl ?_
  refine yN ?_
  refine yR ?_
  refine yM rfl ?_
  refine Qb (Qm rfl) ?_
  refine Qh (hL.comes) rfl rfl rfl fun _ => ?_
  refine yM rfl ?_
  refine Qb (Qj rfl rfl) ?_
  refine Qb (Qj rfl rfl) ?_
  refine yS rfl ?_
  refine yS rfl ?_
  refine yN ?_
  refine Qd ?_
  refine Qd ?_
  refine Q1 [.blk g3 key.cells 34] [] QJ (same) ?_
  refine Qa 0 rfl (Qi rfl) ?_
  refine Qv 1 ?_
  refine QR 1 rfl (hK.comes) rfl rfl rfl (fun xx => same) fun _ => ?_
  refine Qa 2 rfl (Ql (QL rfl rfl) (show _ = false from rfl)) ?_
  refine Qa 3 rfl (Qi rfl) ?_
  refine Qa 4 rfl (Qi rfl) ?_
  refine Qp 7 rfl (Qm rfl) ?_
  refine Qv 5 ?_
  refine QR 5 rfl (hLf.comes) rfl rfl rfl (fun xx => same) fun _ => ?_
  refine Qa 6 rfl (YC rfl) ?_
  refine Qa 8 rfl (Ql (QdD rfl rfl) (decide_eq_false (fun h => h rfl))) ?_
  refine Qa 9 rfl (Qy rfl rfl) ?_
  refine QB (by kernel_rfl) ?_
  refine Qc ?_
  refine Qt rfl ?_
  refine Qn ?_
  refine Qc ?_
  refine yR ?_
  refine yM rfl ?_
  refine Qh (hEn.comes) rfl rfl rfl fun ⟨A25, c25⟩ => ?_
  dsimp only
  refine Qb (Qhc rfl) ?_
  refine yS rfl ?_
  refine yS rfl ?_
  refine yN ?_
  refine Qs ?_
  exact QO rfl rfl rfl fun w s => ⟨(A25, c25), rfl, (same (L' := [.own (.slice A25 e.val.length c25) e.val.length 5 1 (bc e.val)]) w s).res (List.Sublist.refl _) (by simp [Fa.wr])⟩
 rw [h2]
 rw [hon, h1, J0 e hD] at htD
 have hK := J3 n h (.leaf e.key e.val) q
 have hLf := Vv n h (.leaf e.key e.val) q
 refine Qk Tryz.func86 rfl (n := 27) rfl rfl ?_
 intro W
 refine yR ?_
 refine Qo (Q9 rfl) fun g3 => ?_
 refine yS rfl ?_
 refine yS rfl ?_
 refine yN ?_
 refine yR ?_
 refine yM rfl ?_
 refine Qb (Qm rfl) ?_
 refine Qh (hL.comes) rfl rfl rfl fun _ => ?_
 refine yM rfl ?_
 refine Qb (Qj rfl rfl) ?_
 refine Qb (Qj rfl rfl) ?_
 refine yS rfl ?_
 refine yS rfl ?_
 refine yN ?_
 refine Qd ?_
 refine Qd ?_
 refine Q1 [.blk g3 key.cells 34] [] QJ (same) ?_
 refine Qa 0 rfl (Qi rfl) ?_
 refine Qv 1 ?_
 refine QR 1 rfl (hK.comes) rfl rfl rfl (fun xx => same) fun _ => ?_
 refine Qa 2 rfl (Ql (QL rfl rfl) (show _ = false from rfl)) ?_
 refine Qa 3 rfl (Qi rfl) ?_
 refine Qa 4 rfl (Qi rfl) ?_
 refine Qp 7 rfl (Qm rfl) ?_
 refine Qv 5 ?_
 refine QR 5 rfl (hLf.comes) rfl rfl rfl (fun xx => same) fun _ => ?_
 refine Qa 6 rfl (YC rfl) ?_
 refine Qa 8 rfl (Ql (QdD rfl rfl) (decide_eq_true hk)) ?_
 refine Qa 9 rfl (Qy rfl rfl) ?_
 refine QB (by kernel_rfl) ?_
 refine Qc ?_
 refine Qz rfl ?_
 refine yR ?_
 refine yS rfl ?_
 refine yS rfl ?_
 refine yN ?_
 refine Qs ?_
 refine Qr ?_
 refine Ju 5 1 (xs := bc []) rfl ?_
 exact QO rfl rfl rfl fun w s => ⟨(none, 0), rfl, (same (L' := [.own (.slice none 0 0) 0 5 1 (bc [])]) w s).res (List.Sublist.refl _) (by simp [Fa.wr])⟩
end
def qz (m : List En) (c : Claim) (kb vb : List UInt8) : Bool := decide (Jy c = 0) && ((Ja m (keyOf kb)).isSome == c.present && (!(Ja m (keyOf kb)).isSome || decide (JQ (Ja m (keyOf kb)) = vb)))
section
variable (n : Nat) (h : Zh) (m : List En) (hal : Alike m 0) (p : Option Addr) [ht : TrZ n h (mkT m 0) p] (c : Claim) (kb vb : List UInt8) [hK : SlZ h c.key kb] [hV : SlZ h c.value vb] (hvl : ∀ e ∈ m, e.val.length ≤ 1000000000)
include ht hal hvl
theorem QoS : QC Tryz.prog 66 [.pointer p, .agg c.cells.toArray].toArray [.zone false h] [] (fun _ : Unit => .bool (qz m c kb vb)) (fun _ => []) := by
 have hC := Qhu c
 have hkn := hK.len
 have hvn := hV.len
 have hVr : RdZ h c.value.A (bc vb) := hV.rd
 by_cases h1 : Jy c = 0
 ·have hk32 : kb.length = 32 := by
   unfold Jy at h1
   split at h1
   ·omega
   cases h1
  obtain ⟨D, w⟩ := QmH (key := keyOf kb) hal
  have hG := Qgx n h m p (keyOf kb) D w hvl
  rw [h1] at hC
  have ht : qz m c kb vb = ((Ja m (keyOf kb)).isSome == c.present && (!(Ja m (keyOf kb)).isSome || decide (JQ (Ja m (keyOf kb)) = vb))) := by unfold qz; rw [decide_eq_true h1]; exact Bool.true_and _
  rw [ht]
  have hKr : RdZ h c.key.A (keyOf kb).cells := by rw [Yu hk32]; exact hK.rd
  obtain ⟨⟨kA, kn, kc⟩, ⟨vA, vn, vc⟩, pr⟩ := c
  dsimp only at hkn hvn hKr hVr ⊢
  subst hkn hvn
  obtain ⟨bK, oK, rfl, -⟩ := hKr.at_ 0 _ (List.getElem?_eq_getElem (by rw [B32.cells_length]; decide))
  generalize Ja m (keyOf kb) = g at *
  generalize JQ g = v at *
  have hB := fun A c' => Qca v vb A vA c' vc
  cases hg : g.isSome
  ·rw [hg] at hG
   cases pr
   ·refine Qk Tryz.func66 rfl (n := 33) rfl rfl ?_
    intro W
    refine yR ?_
    refine Qo (Q9 rfl) fun g3 => ?_
    refine yS rfl ?_
    refine yN ?_
    refine Qd ?_
    refine yR ?_
    refine Qb (Qm rfl) ?_
    refine Qh (hC.comes) rfl rfl rfl fun _ => ?_
    refine Qb (QL rfl rfl) ?_
    refine yN ?_
    refine Ys rfl ((fun h => h rfl)) ?_
    refine Qn ?_
    refine Qc ?_
    refine yR ?_
    refine yM rfl ?_
    refine Qb (Qe rfl) ?_
    refine Qb (Qf rfl) ?_
    refine Qb (VJ rfl (hm := show 32 ≤ kb.length by omega)) ?_
    refine Qb (Qm rfl) ?_
    refine Qh (hG.comes) rfl rfl rfl fun ⟨A16, c16⟩ => ?_
    refine yM rfl ?_
    refine Qb (Qj rfl rfl) ?_
    refine Qb (Qj rfl rfl) ?_
    refine yS rfl ?_
    refine yS rfl ?_
    refine yN ?_
    refine yR ?_
    refine yM rfl ?_
    refine Qb (Qe rfl) ?_
    refine Qb (Qf rfl) ?_
    refine Qb (Ql (Qb2 rfl rfl) (show _ = true from rfl)) ?_
    refine yM rfl ?_
    refine yM rfl ?_
    refine Qb (Ji rfl) ?_
    refine yM rfl ?_
    refine Qg ?_
    refine Qg ?_
    refine Qg ?_
    refine Qg ?_
    refine Qb (Qy rfl rfl) ?_
    refine Qb (Qy rfl rfl) ?_
    refine yS rfl ?_
    refine yN ?_
    refine Qs ?_
    exact Qu rfl rfl fun w s => ⟨(), rfl, s.res (List.nil_sublist _) (by simp)⟩
   refine Qk Tryz.func66 rfl (n := 33) rfl rfl ?_
   intro W
   refine yR ?_
   refine Qo (Q9 rfl) fun g3 => ?_
   refine yS rfl ?_
   refine yN ?_
   refine Qd ?_
   refine yR ?_
   refine Qb (Qm rfl) ?_
   refine Qh (hC.comes) rfl rfl rfl fun _ => ?_
   refine Qb (QL rfl rfl) ?_
   refine yN ?_
   refine Ys rfl ((fun h => h rfl)) ?_
   refine Qn ?_
   refine Qc ?_
   refine yR ?_
   refine yM rfl ?_
   refine Qb (Qe rfl) ?_
   refine Qb (Qf rfl) ?_
   refine Qb (VJ rfl (hm := show 32 ≤ kb.length by omega)) ?_
   refine Qb (Qm rfl) ?_
   refine Qh (hG.comes) rfl rfl rfl fun ⟨A16, c16⟩ => ?_
   refine yM rfl ?_
   refine Qb (Qj rfl rfl) ?_
   refine Qb (Qj rfl rfl) ?_
   refine yS rfl ?_
   refine yS rfl ?_
   refine yN ?_
   refine yR ?_
   refine yM rfl ?_
   refine Qb (Qe rfl) ?_
   refine Qb (Qf rfl) ?_
   refine Qb (Ql (Qb2 rfl rfl) (show _ = false from rfl)) ?_
   refine yM rfl ?_
   refine Qg ?_
   refine Qg ?_
   refine Qg ?_
   refine Qg ?_
   refine Qg ?_
   refine Qg ?_
   refine Qg ?_
   refine Qg ?_
   refine Qb (Qy rfl rfl) ?_
   refine yS rfl ?_
   refine yN ?_
   refine Qs ?_
   exact Qu rfl rfl fun w s => ⟨(), rfl, s.res (List.nil_sublist _) (by simp)⟩
  rw [hg] at hG
  cases pr
  ·refine Qk Tryz.func66 rfl (n := 33) rfl rfl ?_
   intro W
   refine yR ?_
   refine Qo (Q9 rfl) fun g3 => ?_
   refine yS rfl ?_
   refine yN ?_
   refine Qd ?_
   refine yR ?_
   refine Qb (Qm rfl) ?_
   refine Qh (hC.comes) rfl rfl rfl fun _ => ?_
   refine Qb (QL rfl rfl) ?_
   refine yN ?_
   refine Ys rfl ((fun h => h rfl)) ?_
   refine Qn ?_
   refine Qc ?_
   refine yR ?_
   refine yM rfl ?_
   refine Qb (Qe rfl) ?_
   refine Qb (Qf rfl) ?_
   refine Qb (VJ rfl (hm := show 32 ≤ kb.length by omega)) ?_
   refine Qb (Qm rfl) ?_
   refine Qh (hG.comes) rfl rfl rfl fun ⟨A16, c16⟩ => ?_
   refine yM rfl ?_
   refine Qb (Qj rfl rfl) ?_
   refine Qb (Qj rfl rfl) ?_
   refine yS rfl ?_
   refine yS rfl ?_
   refine yN ?_
   refine yR ?_
   refine yM rfl ?_
   refine Qb (Qe rfl) ?_
   refine Qb (Qf rfl) ?_
   refine Qb (Ql (Qb2 rfl rfl) (show _ = false from rfl)) ?_
   refine yM rfl ?_
   refine Qg ?_
   refine Qg ?_
   refine Qg ?_
   refine Qg ?_
   refine Qg ?_
   refine Qg ?_
   refine Qg ?_
   refine Qg ?_
   refine Qb (Qy rfl rfl) ?_
   refine yS rfl ?_
   refine yN ?_
   refine Qs ?_
   exact Qu rfl rfl fun w s => ⟨(), rfl, s.res (List.nil_sublist _) (by simp)⟩
  refine Qk Tryz.func66 rfl (n := 33) rfl rfl ?_
  intro W
  refine yR ?_
  refine Qo (Q9 rfl) fun g3 => ?_
  refine yS rfl ?_
  refine yN ?_
  refine Qd ?_
  refine yR ?_
  refine Qb (Qm rfl) ?_
  refine Qh (hC.comes) rfl rfl rfl fun _ => ?_
  refine Qb (QL rfl rfl) ?_
  refine yN ?_
  refine Ys rfl ((fun h => h rfl)) ?_
  refine Qn ?_
  refine Qc ?_
  refine yR ?_
  refine yM rfl ?_
  refine Qb (Qe rfl) ?_
  refine Qb (Qf rfl) ?_
  refine Qb (VJ rfl (hm := show 32 ≤ kb.length by omega)) ?_
  refine Qb (Qm rfl) ?_
  refine Qh (hG.comes) rfl rfl rfl fun ⟨A16, c16⟩ => ?_
  dsimp only
  refine yM rfl ?_
  refine Qb (Qj rfl rfl) ?_
  refine Qb (Qj rfl rfl) ?_
  refine yS rfl ?_
  refine yS rfl ?_
  refine yN ?_
  refine yR ?_
  refine yM rfl ?_
  refine Qb (Qe rfl) ?_
  refine Qb (Qf rfl) ?_
  refine Qb (Ql (Qb2 rfl rfl) (show _ = true from rfl)) ?_
  refine yM rfl ?_
  refine yM rfl ?_
  refine Qb (Ji rfl) ?_
  refine yM rfl ?_
  refine yM rfl ?_
  refine Qb (Qe rfl) ?_
  refine Qb (Qf rfl) ?_
  refine Qh ((hB A16 c16).comes) rfl rfl rfl fun _ => ?_
  refine Qb (Qy rfl rfl) ?_
  refine Qb (Qy rfl rfl) ?_
  refine yS rfl ?_
  refine yN ?_
  refine Qs ?_
  exact Qu rfl rfl fun w s => ⟨(), rfl, s.res (List.nil_sublist _) (by simp)⟩
 rw [show qz m c kb vb = false by unfold qz; rw [decide_eq_false h1]; rfl]
 refine Qk Tryz.func66 rfl (n := 33) rfl rfl ?_
 intro W
 refine yR ?_
 refine Qo (Q9 rfl) fun g3 => ?_
 refine yS rfl ?_
 refine yN ?_
 refine Qd ?_
 refine yR ?_
 refine Qb (Qm rfl) ?_
 refine Qh (hC.comes) rfl rfl rfl fun _ => ?_
 refine Qb (QL rfl rfl) ?_
 refine yN ?_
 refine Yz rfl (h1) ?_
 refine yR ?_
 refine yS rfl ?_
 refine yN ?_
 refine Qs ?_
 refine Qr ?_
 exact Qu rfl rfl fun w s => ⟨(), rfl, s.res (List.nil_sublist _) (by simp)⟩
end
end
section
open Go.RowKit
theorem QhT (x : Change) (k : B32) : QC Tryz.prog 241 [.agg x.cells.toArray, .agg k.cells.toArray].toArray [] [] (fun _ : Unit => .int .i64 (JS x.key k)) (fun _ => []) := by
 refine Qk Tryz.func241 rfl (n := 9) rfl rfl ?_
 intro W
 refine yR ?_
 refine Qo (Q9 rfl) fun g2 => ?_
 refine Qo (Q9 rfl) fun g3 => ?_
 refine yS rfl ?_
 refine yN ?_
 refine yR ?_
 refine Qb (Qe rfl) ?_
 refine Qb (Qm rfl) ?_
 refine Qb (Qm rfl) ?_
 refine Qh ((Qcw x.key k).comes) rfl rfl rfl fun _ => ?_
 refine yS rfl ?_
 refine yN ?_
 refine Qs ?_
 exact Qu rfl rfl fun w s => ⟨(), rfl, s.res (List.nil_sublist _) (by simp)⟩
theorem QcW (l : List Chg) (B : Option Addr) (c : Nat) (k : B32) (a : Nat) (ha : AtC l k a) (hl : l.length ≤ 1000000) : QC Tryz.prog 240 [.slice B l.length c, .agg k.cells.toArray, .func (.func 241) #[] #[]].toArray [.rd B (Jh l)] [] (fun _ : Unit => .tuple #[.int .i64 (a : Int), .bool (Yt l k)]) (fun _ => []) := by
 have hle := ha.le
 refine Qk Tryz.func240 rfl (n := 49) rfl rfl ?_
 intro W
 refine yR ?_
 refine Qo (Q9 rfl) fun g4 => ?_
 refine yS rfl ?_
 refine yS rfl ?_
 refine yN ?_
 refine yR ?_
 refine yM rfl ?_
 refine Qb (QF rfl) ?_
 refine yS rfl ?_
 refine yN ?_
 refine yR ?_
 refine yM rfl ?_
 refine yS rfl ?_
 refine yS rfl ?_
 refine yN ?_
 refine Qd ?_
 refine Qq ?_
 refine QS (fun (s : Nat × Nat) => s.1 ≤ a ∧ a ≤ s.2 ∧ s.2 ≤ l.length) (fun (s : Nat × Nat) => [(9, .int .i64 (s.1 : Int)), (10, .int .i64 (s.2 : Int)), (8, .int .i64 (l.length : Int)), (0, .slice B l.length c), (2, .func (.func 241) #[] #[]), (4, .pointer (some ⟨g4, 0, none⟩))]) (fun (s : Nat × Nat) => [.blk g4 k.cells 34, .rd B (Jh l)]) (fun (s : Nat × Nat) => s.2 - s.1) (0, l.length) (⟨Nat.zero_le _, hle, Nat.le_refl _⟩) ⟨rfl, rfl, rfl, rfl, rfl, rfl, trivial⟩ (same) ?_
 rintro ⟨i, j⟩ ⟨h1, h2, h3⟩
 dsimp only at h1 h2 h3 ⊢
 refine Qd ?_
 refine yR ?_
 refine yM rfl ?_
 refine yM rfl ?_
 refine Qb (QT rfl rfl) ?_
 refine yN ?_
 by_cases hij : i < j
 ·refine Yz rfl ((by omega)) ?_
  have hh : (i + j) / 2 < l.length := by omega
  have hx := Qee hh
  have hlt := ha.lt _ hh
  refine Jq (φ := ∃ b o, B = some ⟨b, o, none⟩) (fun w s => Rd.some (s.ok (.rd B (Jh l)) (by simp)) (by rw [Y4]; omega)) ?_
  rintro ⟨b, o, rfl⟩
  have hF := QhT (l.getD ((i + j) / 2) Yp).st k
  rw [show (l.getD ((i + j) / 2) Yp).st.key = (l.getD ((i + j) / 2) Yp).key from rfl] at hF
  generalize l.getD ((i + j) / 2) Yp = x at *
  refine Qn ?_
  refine Qc ?_
  refine Qq ?_
  refine yR ?_
  refine yM rfl ?_
  refine yM rfl ?_
  refine Qb (Jv (QI rfl rfl) (show _ = ((i + j : Nat) : Int) by omega)) ?_
  refine Qb (Zi rfl) ?_
  refine Qb (Jv (YW rfl rfl) (Qrg (i + j) (by omega))) ?_
  refine Qb (QlX rfl (IntWalk.i64_in _ (by omega))) ?_
  refine yS rfl ?_
  refine yN ?_
  refine Qd ?_
  by_cases hc : (i + j) / 2 < a
  ·refine Q1 [.blk g4 k.cells 34, .rd (some ⟨b, o, none⟩) (Jh l)] [] QJ (same) ?_
   refine Qa 0 rfl (Qi rfl) ?_
   refine Qa 1 rfl (Qi rfl) ?_
   refine Qa 2 rfl (Qi rfl) ?_
   refine Qa 3 rfl (QQ rfl rfl) ?_
   refine Qp 4 rfl (Jm rfl (out := x.st.cells) (Change.cells_length _) (qf hx)) ?_
   refine Qp 5 rfl (Qm rfl) ?_
   refine Qv 6 ?_
   refine QR 6 rfl (hF.comes) rfl rfl rfl (fun xx => same) fun _ => ?_
   refine Qa 7 rfl (Ql (QT rfl rfl) (decide_eq_true (hlt.2 hc))) ?_
   refine QB (by kernel_rfl) ?_
   refine Qc ?_
   refine Qz rfl ?_
   refine Q5 ?_
   refine yM rfl ?_
   refine Qb (QI rfl rfl) ?_
   refine yS rfl ?_
   refine QE ?_
   refine Q2 ?_
   exact QH ((i + j) / 2 + 1, j) (⟨by dsimp only; omega, h2, h3⟩) ((show j - ((i + j) / 2 + 1) < j - i by omega)) ⟨aI rfl (by omega), rfl, rfl, rfl, rfl, rfl, trivial⟩ (same)
  refine Q1 [.blk g4 k.cells 34, .rd (some ⟨b, o, none⟩) (Jh l)] [] QJ (same) ?_
  refine Qa 0 rfl (Qi rfl) ?_
  refine Qa 1 rfl (Qi rfl) ?_
  refine Qa 2 rfl (Qi rfl) ?_
  refine Qa 3 rfl (QQ rfl rfl) ?_
  refine Qp 4 rfl (Jm rfl (out := x.st.cells) (Change.cells_length _) (qf hx)) ?_
  refine Qp 5 rfl (Qm rfl) ?_
  refine Qv 6 ?_
  refine QR 6 rfl (hF.comes) rfl rfl rfl (fun xx => same) fun _ => ?_
  refine Qa 7 rfl (Ql (QT rfl rfl) (decide_eq_false (fun hn => hc (hlt.1 hn)))) ?_
  refine QB (by kernel_rfl) ?_
  refine Qc ?_
  refine Qt rfl ?_
  refine Q5 ?_
  refine yM rfl ?_
  refine yS rfl ?_
  refine QE ?_
  refine Q2 ?_
  exact QH (i, (i + j) / 2) (⟨h1, by dsimp only; omega, by dsimp only; omega⟩) ((show (i + j) / 2 - i < j - i by omega)) ⟨rfl, rfl, rfl, rfl, rfl, rfl, trivial⟩ (same)
 obtain rfl : i = a := by omega
 refine Ys rfl ((by omega)) ?_
 by_cases hil : i < l.length
 ·have hx := Qee hil
  have hhas := ha.has
  refine Jq (φ := ∃ b o, B = some ⟨b, o, none⟩) (fun w s => Rd.some (s.ok (.rd B (Jh l)) (by simp)) (by rw [Y4]; omega)) ?_
  rintro ⟨b, o, rfl⟩
  have hF := QhT (l.getD i Yp).st k
  rw [show (l.getD i Yp).st.key = (l.getD i Yp).key from rfl] at hF
  generalize l.getD i Yp = x at *
  have hb : decide (JS x.key k = 0) = Yt l k := by
   rw [Bool.eq_iff_iff, decide_eq_true_iff, hhas, Qh5]
   exact ⟨fun h => ⟨hil, h⟩, fun h => h.2⟩
  refine QK ?_
  refine Qx ?_
  refine Qx ?_
  refine Q8 ?_
  refine Qc ?_
  refine Qd ?_
  refine Q1 [.blk g4 k.cells 34, .rd (some ⟨b, o, none⟩) (Jh l)] [] QJ (same) ?_
  refine Qa 0 rfl (Qi rfl) ?_
  refine Qa 1 rfl (Qi rfl) ?_
  refine Qa 2 rfl (Qi rfl) ?_
  refine Qa 3 rfl (Ql (QT rfl rfl) (decide_eq_true (by omega))) ?_
  refine Qa 4 rfl (Qi rfl) ?_
  refine Qa 5 rfl (Qi rfl) ?_
  refine Qa 6 rfl (Qi rfl) ?_
  refine Qa 7 rfl (Qi rfl) ?_
  refine Qa 8 rfl (QQ rfl rfl) ?_
  refine Qp 9 rfl (Jm rfl (out := x.st.cells) (Change.cells_length _) (qf hx)) ?_
  refine Qp 10 rfl (Qm rfl) ?_
  refine Qv 11 ?_
  refine QR 11 rfl (hF.comes) rfl rfl rfl (fun xx => same) fun _ => ?_
  refine Qa 12 rfl (Ql (QG rfl rfl) hb) ?_
  refine Qa 13 rfl (Qy rfl rfl) ?_
  refine Qa 14 rfl (Q6 rfl) ?_
  refine Qa 15 rfl (Q6 rfl) ?_
  refine QB (by kernel_rfl) ?_
  refine Qc ?_
  refine Qs ?_
  exact QO rfl rfl rfl fun w s => ⟨(), rfl, s.res (List.nil_sublist _) (by simp)⟩
 have hno : Yt l k = false := by
  rw [Bool.eq_false_iff]
  intro h
  exact hil (ha.has.1 h).1
 rw [hno]
 refine QK ?_
 refine Qx ?_
 refine Qx ?_
 refine Q8 ?_
 refine Qc ?_
 refine Qd ?_
 refine Q1 [.blk g4 k.cells 34, .rd B (Jh l)] [] QJ (same) ?_
 refine Qa 0 rfl (Qi rfl) ?_
 refine Qa 1 rfl (Qi rfl) ?_
 refine Qa 2 rfl (Qi rfl) ?_
 refine Qa 3 rfl (Ql (QT rfl rfl) (decide_eq_false (by omega))) ?_
 refine Qa 4 rfl (Qi rfl) ?_
 refine QW 5 rfl ?_
 refine QW 6 rfl ?_
 refine QW 7 rfl ?_
 refine QW 8 rfl ?_
 refine QW 9 rfl ?_
 refine QW 10 rfl ?_
 refine QW 11 rfl ?_
 refine QW 12 rfl ?_
 refine Qa 13 rfl (Qy rfl rfl) ?_
 refine Qa 14 rfl (Q6 rfl) ?_
 refine Qa 15 rfl (Q6 rfl) ?_
 refine QB (by kernel_rfl) ?_
 refine Qc ?_
 refine Qs ?_
 exact QO rfl rfl rfl fun w s => ⟨(), rfl, s.res (List.nil_sublist _) (by simp)⟩
theorem Qjy {w : World} {L M M' : List Fa} {g g' N N' c c' e e' size size' : Nat} {xs xs' : List Value} (s : Fx w L) [ht : TakeG g L N c e size xs M] [ht' : TakeG g' M N' c' e' size' xs' M'] : g ≠ g' := fun he => by
 have s3 := (s.perm ht.perm).perm ((ht'.perm).cons _)
 exact (List.pairwise_cons.1 s3.sep).1 _ (List.mem_cons_self ..) rfl g (show some g = some g from rfl) (show some g' = some g by rw [he])
theorem QgV {w : World} {L M M' : List Fa} {g g' N N' c c' e e' size size' o lb cb : Nat} {xs xs' : List Value} (s : Fx w L) [ht : TakeG g L N c e size xs M] [ht' : TakeG g' M N' c' e' size' xs' M'] (h0 : xs ≠ []) : (callFunc 266 [.slice (some ⟨g', 0, none⟩) 1 1, .slice (some ⟨g, o, none⟩) lb cb].toArray).run Tryz.prog w = .ok (.value (.bool false)) w := by
 have hne := Qjy (g := g) (g' := g') s
 have s2 := s.perm ht.perm
 have s3 := s2.perm ((ht'.perm).cons _)
 obtain ⟨cur, hb, h3, h4, h5, h6⟩ := JT (s2.ok (.own _ _ _ _ _) (List.mem_cons_self ..))
 obtain ⟨cur', hb', h3', h4', h5', h6'⟩ := JT (s3.ok (.own (.slice (some ⟨g', 0, none⟩) N' c') N' e' size' xs') (List.mem_cons_of_mem _ (List.mem_cons_self ..)))
 have hk : cur.length ≠ 0 := fun h => h0 (by rw [← h6, List.eq_nil_of_length_eq_zero h, List.take_nil])
 rw [run_callFunc_extern Tryz.func266 (by kernel_rfl) (by kernel_rfl) (by kernel_rfl) (e := Extern.SlicesOverlaps.overlaps #[29, 29] #[4]) (by kernel_rfl),
  Lib.run_overlaps_apart w 29 4 37 Tryz.underlying29 34 Tryz.sizeOf37 ⟨g', 0, none⟩ ⟨g, o, none⟩ 1 1 lb cb (fun h => hne h.symm) e' e cur'.length cur.length (by simp [World.shape?, hb']) (by simp [World.shape?, hb]) hk (by simp [World.frozen?, hb']) (by simp [World.frozen?, hb'])]
 rfl
theorem QnN {X V Z : List Value} {a N : Nat} (hX : X.length = N * 34) (hV : V.length = 34) (hZ : Z.length = (N + 1 - a) * 34) (ha : a < N) : (X.take (a * 34) ++ Z).take (a * 34) ++ V ++ (X.take (a * 34) ++ Z).drop (a * 34 + V.length) = X.take (a * 34) ++ V ++ Z.drop 34 := by
 have h1 : (X.take (a * 34)).length = a * 34 := by rw [List.length_take]; omega
 rw [List.take_append_of_le_length (by omega), List.take_take, Nat.min_self, hV, List.drop_append, List.drop_of_length_le (by omega), h1, List.nil_append, show a * 34 + 34 - a * 34 = 34 by omega]
theorem Qlr {X V Z : List Value} {a N : Nat} (hX : X.length = N * 34) (hV : V.length = 34) (hZ : Z.length = (N + 1 - a) * 34) (ha : a < N) : (X.take (a * 34) ++ V ++ Z.drop 34).take ((a + 1) * 34) ++ X.drop (a * 34) ++ (X.take (a * 34) ++ V ++ Z.drop 34).drop ((a + 1) * 34 + (X.drop (a * 34)).length) = X.take (a * 34) ++ V ++ X.drop (a * 34) := by
 have h1 : (X.take (a * 34)).length = a * 34 := by rw [List.length_take]; omega
 have h2 : (X.take (a * 34) ++ V).length = (a + 1) * 34 := by rw [List.length_append]; omega
 have h3 : (X.drop (a * 34)).length = (N - a) * 34 := by rw [List.length_drop]; omega
 rw [List.take_append_of_le_length (by omega), List.take_of_length_le (l := X.take (a * 34) ++ V) (by omega), List.drop_of_length_le (l := X.take (a * 34) ++ V ++ Z.drop 34) (by rw [List.length_append, List.length_drop]; omega), List.append_nil]
theorem QnO {X Y : List Value} {a N : Nat} (hX : X.length = N * 34) (hY : Y.length = 34) (ha : a < N) : (X ++ Y).take ((a + 1) * 34) ++ X.drop (a * 34) ++ (X ++ Y).drop ((a + 1) * 34 + (X.drop (a * 34)).length) = X.take ((a + 1) * 34) ++ X.drop (a * 34) := by
 have h3 : (X.drop (a * 34)).length = (N - a) * 34 := by rw [List.length_drop]; omega
 rw [List.take_append_of_le_length (by omega), List.drop_of_length_le (l := X ++ Y) (by rw [List.length_append]; omega), List.append_nil]
theorem Qls {X V : List Value} {a N : Nat} (hX : X.length = N * 34) (hV : V.length = 34) (ha : a < N) : (X.take ((a + 1) * 34) ++ X.drop (a * 34)).take (a * 34) ++ V ++ (X.take ((a + 1) * 34) ++ X.drop (a * 34)).drop (a * 34 + V.length) = X.take (a * 34) ++ V ++ X.drop (a * 34) := by
 have h1 : (X.take ((a + 1) * 34)).length = (a + 1) * 34 := by rw [List.length_take]; omega
 rw [List.take_append_of_le_length (by omega), List.take_take, Nat.min_eq_left (by omega), hV, show a * 34 + 34 = (X.take ((a + 1) * 34)).length by omega, List.drop_left]
theorem Qk7 (l : List Chg) (x : Chg) (a : Nat) : (Jh l).take (a * 34) ++ Jh [x] ++ (Jh l).drop (a * 34) = Jh (l.take a ++ [x] ++ l.drop a) := by
 have h1 : (Jh l).take (a * 34) = Jh (l.take a) := QcH Chg.cells_length l a
 have h2 : (Jh l).drop (a * 34) = Jh (l.drop a) := Qgf Chg.cells_length l a
 rw [h1, h2, QeZ, QeZ]
theorem Qen {w : World} {L M : List Fa} {g N c e size : Nat} {xs : List Value} (s : Fx w L) [ht : TakeG g L N c e size xs M] (o : Nat) : Rd w (some ⟨g, o, none⟩) (xs.drop o) := fun j v hv => by
 have ho := (s.perm ht.perm).ok (.own (.slice (some ⟨g, 0, none⟩) N c) N e size xs) (List.mem_cons_self ..)
 rw [List.getElem?_drop] at hv
 exact ⟨g, o, rfl, Qa5 ho hv⟩
theorem Qiy (l : List Chg) (g gv c a : Nat) (x : Chg) (ha : a ≤ l.length) (h0 : 0 < l.length) (hl : l.length ≤ 1000000) : QC Tryz.prog 242 [.slice (some ⟨g, 0, none⟩) l.length c, .int .i64 (a : Int), .slice (some ⟨gv, 0, none⟩) 1 1].toArray [] [.own (.slice (some ⟨g, 0, none⟩) l.length c) l.length 37 34 (Jh l), .own (.slice (some ⟨gv, 0, none⟩) 1 1) 1 37 34 x.st.cells] (fun u : Nat × Nat => .slice (some ⟨u.1, 0, none⟩) (l.length + 1) u.2) (fun u => [.own (.slice (some ⟨u.1, 0, none⟩) (l.length + 1) u.2) (l.length + 1) 37 34 (Jh (l.take a ++ [x] ++ l.drop a))]) := by
 have hX := Y4 l
 have hV : x.st.cells.length = 34 := Change.cells_length _
 have hins := Qk7 l x a
 have hxc : Jh [x] = x.st.cells := by unfold Jh; simp [Chg.cells]
 rw [hxc] at hins
 refine Qk Tryz.func242 rfl (n := 95) rfl rfl ?_
 intro W
 refine Jq (φ := l.length ≤ c) (fun w s => (s.ownLe (B := some ⟨g, 0, none⟩) (N := l.length) (c := c)).1) fun hc => ?_
 refine yR ?_
 refine yS rfl ?_
 refine yN ?_
 refine yR ?_
 refine yM rfl ?_
 refine yM rfl ?_
 refine Qb (Qb5 rfl rfl) ?_
 refine yN ?_
 refine yR ?_
 refine yM rfl ?_
 refine Qb (QF rfl) ?_
 refine yS rfl ?_
 refine yN ?_
 refine Qd ?_
 refine yR ?_
 refine yM rfl ?_
 refine Qb (Ql (QG rfl rfl) (show _ = false from rfl)) ?_
 refine yN ?_
 refine Qt rfl ?_
 refine Qn ?_
 refine Qc ?_
 refine yR ?_
 refine yM rfl ?_
 refine Qb (QF rfl) ?_
 refine yS rfl ?_
 refine yN ?_
 refine Qd ?_
 refine yR ?_
 refine yM rfl ?_
 refine yM rfl ?_
 refine Qb (QG rfl rfl) ?_
 refine yN ?_
 by_cases hal : a = l.length
 ·refine Yz rfl ((by omega)) ?_
  refine yR ?_
  refine yM rfl ?_
  refine yM rfl ?_
  refine Qo (Yo rfl rfl (k := 34)) fun ⟨g25, c25⟩ => ?_
  refine yS rfl ?_
  refine yN ?_
  refine Qs ?_
  refine Qr ?_
  have e : Jh l ++ x.st.cells = Jh (l.take a ++ [x] ++ l.drop a) := by
   rw [← hins, List.take_of_length_le (by rw [hX]; omega), List.drop_of_length_le (by rw [hX]; omega), List.append_nil]
  rw [e]
  exact Qu rfl rfl fun w s => ⟨(g25, c25), rfl, (same (L' := [.own (.slice (some ⟨g25, 0, none⟩) (l.length + 1) c25) (l.length + 1) 37 34 (Jh (l.take a ++ [x] ++ l.drop a))]) w s).res (List.Sublist.refl _) (by simp [Fa.wr])⟩
 have hlt : a < l.length := by omega
 refine Ys rfl ((by omega)) ?_
 refine Qn ?_
 refine Qc ?_
 refine Qd ?_
 refine yR ?_
 refine yM rfl ?_
 refine yM rfl ?_
 refine Qb (Jv (QI rfl rfl) (show _ = ((l.length + 1 : Nat) : Int) by omega)) ?_
 refine yM rfl ?_
 refine Qb (QlY rfl) ?_
 refine Qb (Jo rfl rfl) ?_
 refine yN ?_
 by_cases hr : c < l.length + 1
 ·refine Yz rfl ((by omega)) ?_
  refine yR ?_
  refine yM rfl ?_
  refine yM rfl ?_
  refine Qb (Qhd rfl rfl) ?_
  refine yM rfl ?_
  refine yM rfl ?_
  refine Qb (Jv (QI rfl rfl) (show _ = ((l.length + 1 : Nat) : Int) by omega)) ?_
  refine yM rfl ?_
  refine Qb (Jv (YQ rfl rfl) (show _ = ((l.length + 1 - a : Nat) : Int) by omega)) ?_
  refine Qo (QqF (N := l.length) (i := a) (q := l.length + 1 - a) Tryz.underlying3 rfl rfl ha (by omega) (by omega) (by omega)) fun ⟨g40, c40⟩ => ?_
  rw [show a + (l.length + 1 - a) = l.length + 1 by omega]
  generalize hZ : (madeCells _ ((l.length + 1 - a) * 34)).toList = Z
  have hZl : Z.length = (l.length + 1 - a) * 34 := by rw [← hZ]; simp [madeCells]
  have hg1 := QnN hX hV hZl hlt
  have hg2 := Qlr hX hV hZl hlt
  have hdl : ((Jh l).drop (a * 34)).length = (l.length - a) * 34 := by rw [List.length_drop]; omega
  have hx1 : ((Jh l).take (a * 34) ++ Z).length = (l.length + 1) * 34 := by rw [List.length_append, List.length_take]; omega
  have hx2 : ((Jh l).take (a * 34) ++ x.st.cells ++ Z.drop 34).length = (l.length + 1) * 34 := by rw [List.length_append, List.length_append, List.length_take, List.length_drop]; omega
  refine Jq (φ := l.length + 1 ≤ c40) (fun w s => (s.ownLe (B := some ⟨g40, 0, none⟩) (N := l.length + 1) (c := c40)).1) fun hc4 => ?_
  refine yS rfl ?_
  refine yN ?_
  refine yR ?_
  refine yM rfl ?_
  refine yM rfl ?_
  refine Qb (Zl rfl rfl) ?_
  refine yM rfl ?_
  refine Qo (Vu (xs' := (Jh l).take (a * 34) ++ x.st.cells ++ Z.drop 34) (cs := x.st.cells) (q := 1) rfl rfl (fun w s => by have := Qen (g := gv) s 0; simpa using this) (Nat.min_eq_left (by omega)) hV (by rw [hx1]; omega) (Change.cells_one _) (by rw [Nat.zero_add]; exact hg1)) fun _ => ?_
  refine yN ?_
  refine Qd ?_
  refine Q1 [] [] QJ (same) ?_
  refine Qa 0 rfl (Qi rfl) ?_
  refine Qa 1 rfl (Qi rfl) ?_
  refine Qa 2 rfl (Qi rfl) ?_
  refine Qa 3 rfl (Jv (QI rfl rfl) (show _ = ((a + 1 : Nat) : Int) by omega)) ?_
  refine Qa 4 rfl (Zl rfl rfl) ?_
  refine Qa 5 rfl (Qi rfl) ?_
  refine Qa 6 rfl (Qi rfl) ?_
  refine Qa 7 rfl (Zl rfl rfl) ?_
  refine Qv 8 ?_
  refine JB 8 rfl (rk (Vu (xs' := (Jh l).take (a * 34) ++ x.st.cells ++ (Jh l).drop (a * 34)) (cs := (Jh l).drop (a * 34)) (q := l.length - a) rfl rfl (fun w s => by rw [Nat.zero_add]; exact Qen (g := g) s (a * 34)) (Nat.min_eq_left (by omega)) hdl (by rw [hx2, hdl]; omega) (fun v hv => Qcc l v (List.mem_of_mem_drop hv)) (by rw [Nat.zero_add]; exact hg2))) (fun _ => same) fun _ => ?_
  refine QB (by kernel_rfl) ?_
  refine Qc ?_
  rw [hins]
  refine yR ?_
  refine yM rfl ?_
  refine yS rfl ?_
  refine yN ?_
  refine Qs ?_
  refine Qr ?_
  exact Qu rfl rfl fun w s => ⟨(g40, c40), rfl, (same (L' := [.own (.slice (some ⟨g40, 0, none⟩) (l.length + 1) c40) (l.length + 1) 37 34 (Jh (l.take a ++ [x] ++ l.drop a))]) w s).res (List.Sublist.refl _) (by simp [Fa.wr])⟩
 refine Ys rfl ((by omega)) ?_
 refine QpQ g 1 (by omega) fun Y hY => ?_
 have hg1 := QnO hX (by omega : Y.length = 34) hlt
 have hg2 := Qls hX hV hlt
 have hdl : ((Jh l).drop (a * 34)).length = (l.length - a) * 34 := by rw [List.length_drop]; omega
 have hx1 : (Jh l ++ Y).length = (l.length + 1) * 34 := by rw [List.length_append]; omega
 have hx2 : ((Jh l).take ((a + 1) * 34) ++ (Jh l).drop (a * 34)).length = (l.length + 1) * 34 := by rw [List.length_append, List.length_take, hdl]; omega
 have hne : Jh l ++ Y ≠ [] := fun h => by rw [h] at hx1; simp at hx1
 refine Qn ?_
 refine Qc ?_
 refine yR ?_
 refine yM rfl ?_
 refine yM rfl ?_
 refine yM rfl ?_
 refine Qb (Jv (QI rfl rfl) (show _ = ((l.length + 1 : Nat) : Int) by omega)) ?_
 refine Qb (Qhd rfl rfl) ?_
 refine yS rfl ?_
 refine yN ?_
 refine Qd ?_
 refine yR ?_
 refine yM rfl ?_
 refine yM rfl ?_
 refine yM rfl ?_
 refine yM rfl ?_
 refine Qb (Jv (QI rfl rfl) (show _ = ((a + 1 : Nat) : Int) by omega)) ?_
 refine Qb (Zl rfl rfl) ?_
 refine Qb (Qqd (fun w s => QgV (g := g) (g' := gv) s hne) rfl) ?_
 refine Qb (Ji rfl) ?_
 refine yN ?_
 refine Qz rfl ?_
 refine Qd ?_
 refine Q1 [] [] QJ (same) ?_
 refine Qa 0 rfl (Qi rfl) ?_
 refine Qa 1 rfl (Qi rfl) ?_
 refine Qa 2 rfl (Qi rfl) ?_
 refine Qa 3 rfl (Jv (QI rfl rfl) (show _ = ((a + 1 : Nat) : Int) by omega)) ?_
 refine Qa 4 rfl (Zl rfl rfl) ?_
 refine Qa 5 rfl (Qi rfl) ?_
 refine Qa 6 rfl (Qi rfl) ?_
 refine Qa 7 rfl (Zl rfl rfl) ?_
 refine Qv 8 ?_
 refine JB 8 rfl (rk (Vu (xs' := (Jh l).take ((a + 1) * 34) ++ (Jh l).drop (a * 34)) (cs := (Jh l).drop (a * 34)) (q := l.length - a) rfl rfl (fun w s j v hv => Qen (g := g) s (0 + a * 34) j v (by rw [Nat.zero_add, List.drop_append_of_le_length (by omega), List.getElem?_append_left (List.getElem?_eq_some_iff.1 hv).1]; exact hv)) ((Nat.min_eq_right (by omega)).trans (by omega)) hdl (by rw [hx1, hdl]; omega) (fun v hv => Qcc l v (List.mem_of_mem_drop hv)) (by rw [Nat.zero_add]; exact hg1))) (fun _ => same) fun _ => ?_
 refine QB (by kernel_rfl) ?_
 refine Qc ?_
 refine yR ?_
 refine yM rfl ?_
 refine yM rfl ?_
 refine Qb (Zl rfl rfl) ?_
 refine yM rfl ?_
 refine Qo (Vu (xs' := (Jh l).take (a * 34) ++ x.st.cells ++ (Jh l).drop (a * 34)) (cs := x.st.cells) (q := 1) rfl rfl (fun w s => by have := Qen (g := gv) s 0; simpa using this) (Nat.min_eq_left (by omega)) hV (by rw [hx2]; omega) (Change.cells_one _) (by rw [Nat.zero_add]; exact hg2)) fun _ => ?_
 refine yN ?_
 refine yR ?_
 refine yM rfl ?_
 refine yS rfl ?_
 refine yN ?_
 refine Qs ?_
 refine Qr ?_
 rw [hins]
 exact Qu rfl rfl fun w s => ⟨(g, c), rfl, (same (L' := [.own (.slice (some ⟨g, 0, none⟩) (l.length + 1) c) (l.length + 1) 37 34 (Jh (l.take a ++ [x] ++ l.drop a))]) w s).res (List.Sublist.refl _) (by simp [Fa.wr])⟩
end
section
open Go.RowKit
theorem VO (l : List Chg) (b o c : Nat) (h0 : 0 < l.length) (hl : l.length ≤ 1000000) : QC Tryz.prog 170 [.slice (some ⟨b, o, none⟩) l.length c].toArray [.rd (some ⟨b, o, none⟩) (Jh l)] [] (fun u : Nat × Nat => .slice (some ⟨u.1, 0, none⟩) l.length u.2) (fun u => [.own (.slice (some ⟨u.1, 0, none⟩) l.length u.2) l.length 37 34 (Jh l)]) := by
 refine Qk Tryz.func170 rfl (n := 8) rfl rfl ?_
 intro W
 refine yR ?_
 refine yS rfl ?_
 refine yN ?_
 refine Qd ?_
 refine yR ?_
 refine yM rfl ?_
 refine Qb (Qe0 rfl rfl) ?_
 refine yN ?_
 refine Qt rfl ?_
 refine Qn ?_
 refine Qc ?_
 refine yR ?_
 refine Qo (Qhr) fun g5 => ?_
 refine yM rfl ?_
 refine Qo (QmT rfl rfl (fun h => by cases h) (Y4 l) (Qcc l)) fun ⟨A7, c7⟩ => ?_
 refine yS rfl ?_
 refine yN ?_
 refine Qs ?_
 rw [Nat.zero_add, List.nil_append]
 refine Jq (φ := ∃ g, A7 = some ⟨g, 0, none⟩) (fun w s => s.ownSome (N := l.length) (c := c7) h0) ?_
 rintro ⟨g7, rfl⟩
 exact Qu rfl rfl fun w s => ⟨(g7, c7), rfl, (same (L' := [.own (.slice (some ⟨g7, 0, none⟩) l.length c7) l.length 37 34 (Jh l)]) w s).res (List.Sublist.refl _) (by simp [Fa.wr])⟩
theorem QcY (l : List Chg) (g gv c a : Nat) (k : B32) (sl : Sl) (v : List UInt8) (ha : a ≤ l.length) (h0 : 0 < l.length) (hl : l.length ≤ 1000000) : QC Tryz.prog 242 [.slice (some ⟨g, 0, none⟩) l.length c, .int .i64 (a : Int), .slice (some ⟨gv, 0, none⟩) 1 1].toArray [] [.own (.slice (some ⟨g, 0, none⟩) l.length c) l.length 37 34 (Jh l), .own (.slice (some ⟨gv, 0, none⟩) 1 1) 1 37 34 (Change.cells ⟨k, sl, false⟩)] (fun u : Nat × Nat => .slice (some ⟨u.1, 0, none⟩) (l.length + 1) u.2) (fun u => [.own (.slice (some ⟨u.1, 0, none⟩) (l.length + 1) u.2) (l.length + 1) 37 34 (Jh (l.take a ++ [⟨⟨⟨k, sl⟩, v⟩, false⟩] ++ l.drop a))]) := Qiy l g gv c a ⟨⟨⟨k, sl⟩, v⟩, false⟩ ha h0 hl
section
variable (n : Nat) (h : Zh) (k : B32) (v : List UInt8) (hvl : v.length ≤ 1000000000) (p : Option Addr) [ht : TrZ n h (.leaf k v) p] (l : List Chg) (b o c : Nat) [hB : RdZ h (some ⟨b, o, none⟩) (Jh l)] (h0 : 0 < l.length) (hl : l.length ≤ 1000000) (a : Nat) (ha : AtC l k a)
include ht hvl hl ha
theorem Qiz (hh : Yt l k = true) : QC Tryz.prog 168 [.pointer p, .slice (some ⟨b, o, none⟩) l.length c].toArray [.zone false h] [] (fun _ : Unit => .slice (some ⟨b, o, none⟩) l.length c) (fun _ => []) := by
 have hEn := QdN n h k v hvl p
 have hBS := QcW l (some ⟨b, o, none⟩) c k a ha hl
 rw [hh] at hBS
 refine Qk Tryz.func168 rfl (n := 29) rfl rfl ?_
 intro W
 refine yR ?_
 refine yS rfl ?_
 refine yN ?_
 refine yR ?_
 refine yM rfl ?_
 refine Qh (hEn.comes) rfl rfl rfl fun ⟨A9, c9⟩ => ?_
 refine Qo (Q0) fun g5 => ?_
 refine Q7 (Qw rfl rfl) ?_
 refine yN ?_
 refine yR ?_
 refine yM rfl ?_
 refine Qb (Qe rfl) ?_
 refine Qb (Qm rfl) ?_
 refine Qh (hBS.comes) rfl rfl rfl fun _ => ?_
 refine yM rfl ?_
 refine Qb (Qj rfl rfl) ?_
 refine Qb (Qj rfl rfl) ?_
 refine yS rfl ?_
 refine yS rfl ?_
 refine yN ?_
 refine Qd ?_
 refine yR ?_
 refine yM rfl ?_
 refine yN ?_
 refine Qz rfl ?_
 refine yR ?_
 refine yM rfl ?_
 refine yS rfl ?_
 refine yN ?_
 refine Qs ?_
 refine Qr ?_
 exact Qu rfl rfl fun w s => ⟨(), rfl, s.res (List.nil_sublist _) (by simp)⟩
include h0
theorem Qkj (hh : Yt l k = false) : QC Tryz.prog 168 [.pointer p, .slice (some ⟨b, o, none⟩) l.length c].toArray [.zone false h] [] (fun u : (Nat × Nat) × Option Addr × Nat => .slice (some ⟨u.1.1, 0, none⟩) (l.length + 1) u.1.2) (fun u => [.own (.slice (some ⟨u.1.1, 0, none⟩) (l.length + 1) u.1.2) (l.length + 1) 37 34 (Jh (l.take a ++ [⟨⟨⟨k, ⟨u.2.1, v.length, u.2.2⟩⟩, v⟩, false⟩] ++ l.drop a)), .own (.slice u.2.1 v.length u.2.2) v.length 5 1 (bc v)]) := by
 have hEn := QdN n h k v hvl p
 have hBS := QcW l (some ⟨b, o, none⟩) c k a ha hl
 have hle := ha.le
 rw [hh] at hBS
 refine Qk Tryz.func168 rfl (n := 29) rfl rfl ?_
 intro W
 refine yR ?_
 refine yS rfl ?_
 refine yN ?_
 refine yR ?_
 refine yM rfl ?_
 refine Qh (hEn.comes) rfl rfl rfl fun ⟨A9, c9⟩ => ?_
 refine Qo (Q0) fun g5 => ?_
 refine Q7 (Qw rfl rfl) ?_
 refine yN ?_
 refine yR ?_
 refine yM rfl ?_
 refine Qb (Qe rfl) ?_
 refine Qb (Qm rfl) ?_
 refine Qh (hBS.comes) rfl rfl rfl fun _ => ?_
 refine yM rfl ?_
 refine Qb (Qj rfl rfl) ?_
 refine Qb (Qj rfl rfl) ?_
 refine yS rfl ?_
 refine yS rfl ?_
 refine yN ?_
 refine Qd ?_
 refine yR ?_
 refine yM rfl ?_
 refine yN ?_
 refine Qt rfl ?_
 refine Qn ?_
 refine Qc ?_
 refine Qd ?_
 refine QaY (fun (u : Nat × Nat) => [(4, .slice (some ⟨u.1, 0, none⟩) (l.length + 1) u.2)]) (fun (u : Nat × Nat) => [.own (.slice (some ⟨u.1, 0, none⟩) (l.length + 1) u.2) (l.length + 1) 37 34 (Jh (l.take a ++ [⟨⟨⟨k, ⟨A9, v.length, c9⟩⟩, v⟩, false⟩] ++ l.drop a)), .own (.slice A9 v.length c9) v.length 5 1 (bc v)]) (fun kk => ?_) ?_
 ·refine Q1 [.blk g5 (Entry.cells ⟨k, ⟨A9, v.length, c9⟩⟩) 89] [] QJ (same) ?_
  refine Qa 0 rfl (Qi rfl) ?_
  refine Qa 2 rfl (Qi rfl) ?_
  refine Qa 3 rfl (Qe rfl) ?_
  refine Qp 4 rfl (Qm rfl) ?_
  refine Qa 5 rfl (Qe rfl) ?_
  refine Qp 6 rfl (Qf rfl) ?_
  refine Qa 7 rfl (QD (out := Change.cells ⟨k, ⟨A9, v.length, c9⟩, false⟩) rfl) ?_
  refine V1 1 8 ?_ ?_
  ·refine QR 1 rfl ((VO l b o c h0 hl).comes) rfl rfl rfl (fun xx => same) fun ⟨g20, c20⟩ => ?_
   refine Qv 8 ?_
   refine JB 8 rfl (rk (J8 rfl rfl)) (fun _ => same) fun g27 => ?_
   refine Qv 9 ?_
   refine QR 9 rfl ((QcY l g20 g27 c20 a k ⟨A9, v.length, c9⟩ v hle h0 hl).comes) rfl rfl rfl (fun xx => same) fun ⟨g28, c28⟩ => ?_
   refine Qa 10 rfl (Q6 rfl) ?_
   exact QB (by kernel_rfl) (h_K (kk (g28, c28)) (⟨rfl, trivial⟩) same)
  refine JB 8 rfl (rk (J8 rfl rfl)) (fun _ => same) fun g27 => ?_
  refine Qv 1 ?_
  refine QR 1 rfl ((VO l b o c h0 hl).comes) rfl rfl rfl (fun xx => same) fun ⟨g20, c20⟩ => ?_
  refine Qv 9 ?_
  refine QR 9 rfl ((QcY l g20 g27 c20 a k ⟨A9, v.length, c9⟩ v hle h0 hl).comes) rfl rfl rfl (fun xx => same) fun ⟨g28, c28⟩ => ?_
  refine Qa 10 rfl (Q6 rfl) ?_
  exact QB (by kernel_rfl) (h_K (kk (g28, c28)) (⟨rfl, trivial⟩) same)
 rintro ⟨g28, c28⟩
 refine Qc ?_
 dsimp only
 refine Qs ?_
 exact Qu rfl rfl fun w s => ⟨((g28, c28), A9, c9), rfl, (same (L' := [.own (.slice (some ⟨g28, 0, none⟩) (l.length + 1) c28) (l.length + 1) 37 34 (Jh (l.take a ++ [⟨⟨⟨k, ⟨A9, v.length, c9⟩⟩, v⟩, false⟩] ++ l.drop a)), .own (.slice A9 v.length c9) v.length 5 1 (bc v)]) w s).res (List.Sublist.refl _) (by simp [Fa.wr])⟩
end
end
section
open Go.RowKit
theorem Qln {A : List Fa} {W : World} {n : Nat} {D : List Deferred} {E : Env} {L : List Fa} {P : Program} {Q : Exit → Act → World → Prop} {ro : Option Nat} {τ : Type} {x y : Code} (Es : τ → Env) (Ls : τ → List Fa) (h : (∀ u, H A W n D (Es u) (Ls u) (y.wpIn (FR ro) 0 P Q)) → H A W n D E L (x.wpIn (FR ro) 0 P (Exit.then (y.wpIn (FR ro) 0 P Q) Q))) (k : ∀ u, H A W n D (Es u) (Ls u) (y.wpIn (FR ro) 0 P Q)) : H A W n D E L ((Code.seq x y).wpIn (FR ro) 0 P Q) := Qd (h k)
theorem zbK {A : List Fa} {W : World} {z z' : Zh} (hl : LeZ z z') {Cs : List Fa} {L M M' : List Fa} [tz : TakeZ L z' M] [tc : Take Cs M M'] : ∀ w, Sx A W w L → Sx A W w (.zone false z :: Cs) := fun w s => by
 have s2 : Sx A W w (.zone true z' :: (Cs ++ M')) := (s.perm tz.perm).perm (tc.perm.cons _)
 have s3 : Sx A W w (.zone true z' :: Cs) := s2.sub (List.Sublist.cons_cons _ (List.sublist_append_left _ _))
 have hz := s3.ok (.zone true z') (List.mem_cons_self ..)
 have hC := s3.sub (List.sublist_cons_self _ _)
 refine hC.cons (fun k o ho => hz k o (hl.le k o ho)) (fun g hg hw k hk1 hk2 => ?_) (fun h => by cases h)
 obtain ⟨h1, h2⟩ := List.pairwise_cons.1 s3.sep
 obtain ⟨o, ho⟩ := hk1
 exact h1 g hg (by rw [Bool.or_eq_true]; exact .inl rfl) k ⟨o, hl.le k o ho⟩ hk2
end
end Go.Proofs.YtjhlbbgikccclaaGreatDoor
