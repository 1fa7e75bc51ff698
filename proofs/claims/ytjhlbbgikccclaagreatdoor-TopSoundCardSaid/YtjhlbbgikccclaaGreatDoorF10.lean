/- joined texts -/
import Derived.Test.YtjhlbbgikccclaaGreatDoorF9
set_option linter.all false
namespace Go.Proofs.YtjhlbbgikccclaaGreatDoor
section
open Go.RowKit
theorem Y5 {p : Proof} (h : Jk p = 0) : 0 ≤ p.depth ∧ p.depth ≤ 256 := by simpa [okJ] using qh h 1 (by omega)
theorem QnX {p : Proof} (h : Jk p = 0) : Yl p.bitmap 256 = p.depth - 1 := by simpa [okJ] using qh h 3 (by omega)
theorem QbI {p : Proof} (h : Jk p = 0) : (Jl p.bitmap).length = p.sibs.n := by
 have := qh h 4 (by omega)
 simp only [okJ, decide_eq_true_eq] at this
 omega
theorem QeI (p : Proof) (hc : Jk p = 0) (ss : List B32) (hs : p.sibs.n = ss.length) (n : Nat) (hn : n ≤ 256) (gh gc k : Nat) (hk : k ≤ 1000000000000) (d : Nat) (hd : p.depth = (d : Int)) : QC Tryz.prog 124 [.pointer (some ⟨gh, 0, none⟩), .agg p.cells.toArray].toArray [.rd (some ⟨gh, 0, none⟩) [.pointer (some ⟨gc, 0, none⟩), .int .i64 (n : Int)], .rd p.sibs.A (dgs ss), .rd (some ⟨1, 0, none⟩) Jd] [.blk gc [.int .i64 (k : Int)] 272] (fun g : Nat => .tuple #[.slice (some ⟨g, 0, none⟩) d d, .int .i64 0]) (fun g => [.own (.slice (some ⟨g, 0, none⟩) d d) d 45 32 (dgs (Vo (Jj n Yw) p.bitmap ss d)), .blk gc [.int .i64 ((k + 1 : Nat) : Int)] 272]) := by
 have hd2 := Y5 hc
 have hl := QnX hc
 have hsb := QbI hc
 have hd256 : d ≤ 256 := by omega
 have hl256 : (Jl p.bitmap).length ≤ 256 := QhA p.bitmap 256
 refine Qk Tryz.func124 rfl (n := 40) rfl rfl ?_
 intro W
 refine yR ?_
 refine Qo (Q9 rfl) fun g3 => ?_
 refine yS rfl ?_
 refine yS rfl ?_
 refine yN ?_
 refine Qd ?_
 refine yR ?_
 refine Qb (Qm rfl) ?_
 refine Qh ((Zs p).comes) rfl rfl rfl fun _ => ?_
 rw [hc]
 refine yS rfl ?_
 refine yN ?_
 refine yR ?_
 refine yM rfl ?_
 refine Qb (QL rfl rfl) ?_
 refine yN ?_
 refine Ys rfl ((fun h => h rfl)) ?_
 refine Qn ?_
 refine Qc ?_
 refine Qd ?_
 refine Q1 [.blk g3 p.cells 63] [] QJ (same) ?_
 refine Qa 0 rfl (Qi rfl) ?_
 refine Qa 3 rfl (Qe rfl) ?_
 refine Qp 4 rfl (Jv (Qf rfl) hd) ?_
 refine Qv 1 ?_
 refine QR 1 rfl ((QfI n hn gh gc k hk).comes) rfl rfl rfl (fun xx => same) fun _ => ?_
 refine Qv 2 ?_
 refine JB 2 rfl (rk (J8 rfl rfl)) (fun _ => same) fun g17 => ?_
 refine Qv 5 ?_
 refine QR 5 rfl ((Qkl (Jj n Yw) d g17 0 1 hd256).comes) rfl rfl rfl (fun xx => same) fun g20 => ?_
 refine Qa 6 rfl (Q6 rfl) ?_
 refine QB (by kernel_rfl) ?_
 refine Qc ?_
 rw [← QpL (Jj n Yw) p.bitmap ss d]
 generalize Jj n Yw = e at *
 refine Qd ?_
 refine yR ?_
 refine Qb (Qe rfl) ?_
 refine Qb (Qm rfl) ?_
 refine Qh ((Qp0 p.bitmap).comes) rfl rfl rfl fun ⟨A23, c23⟩ => ?_
 dsimp only
 refine Qb (QF rfl) ?_
 refine yM rfl ?_
 refine yN ?_
 refine Qq ?_
 refine QS (fun (j : Nat) => j ≤ (Jl p.bitmap).length) (fun (j : Nat) => [(25, .int .i64 (j : Int)), (24, .int .i64 ((Jl p.bitmap).length : Int)), (23, .slice A23 (Jl p.bitmap).length c23), (7, .slice (some ⟨g20, 0, none⟩) d d), (3, .pointer (some ⟨g3, 0, none⟩))]) (fun (j : Nat) => [.own (.slice A23 (Jl p.bitmap).length c23) (Jl p.bitmap).length 3 1 (ic (Jl p.bitmap)), .own (.slice (some ⟨g20, 0, none⟩) d d) d 45 32 (dgs (Qcj e p.bitmap ss d j)), .blk gc [.int .i64 ((k + 1 : Nat) : Int)] 272, .blk g3 p.cells 63, .rd p.sibs.A (dgs ss)]) (fun (j : Nat) => (Jl p.bitmap).length - j) 0 (Nat.zero_le _) ⟨rfl, rfl, rfl, rfl, rfl, trivial⟩ (same) ?_
 intro j hj
 refine yR ?_
 refine Qb (QT rfl rfl) ?_
 refine yN ?_
 refine Qd ?_
 refine QU rfl (fun h => ?_) (fun h => ?_)
 ·have hlt : j < (Jl p.bitmap).length := by omega
  obtain ⟨i, hi⟩ : ∃ i, (Jl p.bitmap)[j]? = some i := ⟨_, List.getElem?_eq_getElem hlt⟩
  obtain ⟨h1, h2, h3⟩ := QhB hi
  have hmx := Qdy p.bitmap 256 i h1 h2
  have hid : i < d := by omega
  have hgi : (Jl p.bitmap).getD j 0 = i := by rw [List.getD, hi]; rfl
  have hset := QkZ e p.bitmap ss d j hi hd256 hid
  have hdl := Qfq e p.bitmap ss d j
  have hds := QhD (Qcj e p.bitmap ss d j) i (ss.getD j QN) (by omega)
  rw [hset] at hds
  have hjs : j < ss.length := by omega
  refine Jq (φ := (∃ g, A23 = some ⟨g, 0, none⟩) ∧ ∃ b o, p.sibs.A = some ⟨b, o, none⟩) (fun w s => ⟨s.ownSome (N := (Jl p.bitmap).length) (c := c23) (by omega), Rd.some (s.ok (.rd p.sibs.A (dgs ss)) (by simp)) (by rw [JI]; omega)⟩) ?_
  rintro ⟨⟨g23, rfl⟩, b, o, hA⟩
  refine Qn ?_
  refine Qc ?_
  refine Qd ?_
  refine Qq ?_
  refine yR ?_
  refine yM rfl ?_
  refine Qb (QQ rfl rfl) ?_
  refine Qb (QX rfl (Qpd (by omega))) ?_
  refine yS rfl ?_
  refine yS rfl ?_
  refine yN ?_
  refine Q5 ?_
  rw [hgi]
  refine yM rfl ?_
  refine yM rfl ?_
  refine Qb (Qe rfl) ?_
  refine Qb (Qf rfl) ?_
  rw [hA]
  refine yM rfl ?_
  refine Qb (QQ rfl rfl) ?_
  refine Qb (Jm rfl (out := (ss.getD j QN).cells) (B32.cells_length _) (VV hjs)) ?_
  refine Qb (QQ rfl rfl) ?_
  refine Q7 (Qe2 rfl rfl (by rw [JI, hdl]; omega) hds) ?_
  refine QE ?_
  refine Q2 ?_
  refine Qc ?_
  refine Q5 ?_
  refine Qb (QI rfl rfl) ?_
  refine yM rfl ?_
  refine QE ?_
  exact QH (j + 1) (by omega) (by omega) ⟨rfl, rfl, rfl, rfl, rfl, trivial⟩ (same)
 obtain rfl : j = (Jl p.bitmap).length := by omega
 rw [QkY e p.bitmap ss d _ hd256 (Nat.le_refl _)]
 refine QK ?_
 refine Qx ?_
 refine Qx ?_
 refine Q8 ?_
 refine Qc ?_
 refine yR ?_
 refine yM rfl ?_
 refine yS rfl ?_
 refine yS rfl ?_
 refine yN ?_
 refine Qs ?_
 exact QO rfl rfl rfl fun w s => ⟨g20, rfl, (same w s).res (List.Sublist.refl _) (by simp [Fa.wr])⟩
end
section
open Go.RowKit
def J9 (p : Proof) : List UInt8 := if p.kind = 1 then YO p.leaf else Yw
theorem Qfl (p : Proof) : (J9 p).length ≤ 65 := by
 unfold J9
 split
 ·rw [Qc5]; exact Nat.le_refl _
 decide
theorem Qre (p : Proof) : QC Tryz.prog 197 [.agg p.cells.toArray].toArray [] [] (fun u : Nat × Nat => .slice (some ⟨u.1, 0, none⟩) (J9 p).length u.2) (fun u => [.own (.slice (some ⟨u.1, 0, none⟩) (J9 p).length u.2) (J9 p).length 5 1 (bc (J9 p))]) := by
 refine Qk Tryz.func197 rfl (n := 10) rfl rfl ?_
 intro W
 refine yR ?_
 refine Qo (Q9 rfl) fun g1 => ?_
 refine yS rfl ?_
 refine yN ?_
 refine Qd ?_
 refine yR ?_
 refine Qb (Qe rfl) ?_
 refine Qb (Qf rfl) ?_
 refine Qb (QG rfl rfl) ?_
 refine yN ?_
 refine QU rfl (fun h => ?_) (fun h => ?_)
 ·rw [show J9 p = YO p.leaf from if_pos h]
  refine yR ?_
  refine Qb (Qe rfl) ?_
  refine Qb (Qm rfl) ?_
  refine Qh ((Qeo p.leaf).comes) rfl rfl rfl fun ⟨g, c⟩ => ?_
  dsimp only
  refine yS rfl ?_
  refine yN ?_
  refine Qs ?_
  refine Qr ?_
  exact Qu rfl rfl fun w s => ⟨(g, c), rfl, s.res ((List.nil_sublist _).cons_cons _) (by simp [Fa.wr])⟩
 rw [show J9 p = Yw from if_neg h]
 refine Qn ?_
 refine Qc ?_
 refine yR ?_
 refine Qh (Qa6.comes) rfl rfl rfl fun ⟨g, c⟩ => ?_
 dsimp only
 refine yS rfl ?_
 refine yN ?_
 refine Qs ?_
 exact Qu rfl rfl fun w s => ⟨(g, c), rfl, s.res ((List.nil_sublist _).cons_cons _) (by simp [Fa.wr])⟩
theorem Qgu (A : Option Addr) (N c : Nat) : QC Tryz.prog 198 [.slice A N c].toArray [] [] (fun g : Nat => .func (.func 253) #[] [.pointer (some ⟨g, 0, none⟩)].toArray) (fun g => [.blk g [.slice A N c] 61]) := by
 refine Qk Tryz.func198 rfl (n := 4) rfl rfl ?_
 intro W
 refine yR ?_
 refine Qo (JW rfl) fun g1 => ?_
 refine yS rfl ?_
 refine yN ?_
 refine yR ?_
 refine Qb (Y1 rfl rfl) ?_
 refine yS rfl ?_
 refine yN ?_
 refine Qs ?_
 exact Qu rfl rfl fun w s => ⟨g1, rfl, s.res (List.Sublist.refl _) (by simp [Fa.wr])⟩
theorem QeE (ds : List B32) (b o c g1 : Nat) (hl : ds.length ≤ 1000000) : QeJ Tryz.prog 253 [.pointer (some ⟨g1, 0, none⟩)] [.rd (some ⟨g1, 0, none⟩) [.slice (some ⟨b, o, none⟩) ds.length c], .rd (some ⟨b, o, none⟩) (dgs ds)] [] ds.length (fun k (_ : Unit) => [.int .i64 ((ds.length - 1 - k : Nat) : Int), .agg (ds.getD (ds.length - 1 - k) QN).cells.toArray]) (fun _ _ => []) [] := by
 refine Qcv Tryz.func253 rfl (n := 19) rfl rfl ?_
 intro l J Rm m0 W hJw hRm hy h0
 refine yR ?_
 refine Qb (Qf rfl) ?_
 refine Qb (QF rfl) ?_
 refine Qb (YQ rfl rfl) ?_
 refine yS rfl ?_
 refine yN ?_
 refine Qq ?_
 refine QS (fun (s : Nat × List Fa) => s.1 ≤ ds.length ∧ J s.1 s.2) (fun (s : Nat × List Fa) => [(3, .int .i64 ((ds.length : Int) - 1 - (s.1 : Int))), (0, .func (.yield l) #[] #[]), (1, .pointer (some ⟨g1, 0, none⟩))]) (fun (s : Nat × List Fa) => .rd (some ⟨g1, 0, none⟩) [.slice (some ⟨b, o, none⟩) ds.length c] :: .rd (some ⟨b, o, none⟩) (dgs ds) :: (s.2 ++ Rm)) (fun (s : Nat × List Fa) => ds.length - s.1) (0, m0) ((show 0 ≤ ds.length ∧ J 0 m0 from ⟨by omega, h0⟩)) ⟨aI rfl (by dsimp only; omega), rfl, rfl, trivial⟩ (fun _ s => s) ?_
 rintro ⟨k, mm⟩ ⟨hk, hJ⟩
 dsimp only at hk hJ ⊢
 refine Qd ?_
 refine yR ?_
 refine yM rfl ?_
 refine Qb (Vb rfl rfl) ?_
 refine yN ?_
 refine QU rfl (fun h => ?_) (fun h => ?_)
 ·have hk2 : k < ds.length := by omega
  refine h_E (E' := [(3, .int .i64 ((ds.length - 1 - k : Nat) : Int)), (0, .func (.yield l) #[] #[]), (1, .pointer (some ⟨g1, 0, none⟩))]) ⟨aI rfl (by omega), rfl, rfl, trivial⟩ ?_
  refine Qn ?_
  refine Qc ?_
  refine Qd ?_
  refine Qq ?_
  refine yR ?_
  refine yM rfl ?_
  refine yM rfl ?_
  refine Qb (Qf rfl) ?_
  refine yM rfl ?_
  refine Qb (QQ rfl rfl) ?_
  refine Qb (Jm rfl (out := (ds.getD (ds.length - 1 - k) QN).cells) (B32.cells_length _) (VV (by omega))) ?_
  refine Zz (hy k () mm hk2 hJ) hRm rfl rfl fun m' hJ' => ?_
  refine Qb (Ji rfl) ?_
  refine yN ?_
  refine Qt rfl ?_
  refine Qn ?_
  refine Q2 ?_
  refine Qc ?_
  refine Q5 ?_
  refine yM rfl ?_
  refine Qb (YQ rfl rfl) ?_
  refine yS rfl ?_
  refine QE ?_
  exact QH (k + 1, m') ((show k + 1 ≤ ds.length ∧ J (k + 1) m' from ⟨by omega, hJ'⟩)) ((show ds.length - (k + 1) < ds.length - k by omega)) ⟨aI rfl (by omega), rfl, rfl, trivial⟩ (fun _ s => s)
 obtain rfl : k = ds.length := by omega
 refine QK ?_
 refine Qx ?_
 refine Qx ?_
 refine Q8 ?_
 refine ZJ ?_
 exact Vg rfl fun w s => ⟨_, mm, rfl, hJ, s.res (((List.sublist_append_left _ _).cons _).cons _) (hJw _ _ hJ)⟩
theorem QmJ (gh : Value) (p : Proof) (A : Option Addr) (N c : Nat) (key : B32) (hg : gh.cells = #[gh]) : QC Tryz.prog 125 [gh, .agg p.cells.toArray, .slice A N c, .agg key.cells.toArray].toArray [] [] (fun u : Nat × Nat × Nat × Nat => .func (.func 196) #[] [.pointer (some ⟨u.1, 0, none⟩), .pointer (some ⟨u.2.1, 0, none⟩), .pointer (some ⟨u.2.2.1, 0, none⟩), .pointer (some ⟨u.2.2.2, 0, none⟩)].toArray) (fun u => [.blk u.1 p.cells 63, .blk u.2.1 [gh] 56, .blk u.2.2.1 [.slice A N c] 61, .blk u.2.2.2 key.cells 34]) := by
 refine Qk Tryz.func125 rfl (n := 10) rfl rfl ?_
 intro W
 refine yR ?_
 refine Qo (JW rfl hg) fun g4 => ?_
 refine Qo (Q9 rfl) fun g5 => ?_
 refine Qo (JW rfl) fun g6 => ?_
 refine Qo (Q9 rfl) fun g7 => ?_
 refine yS rfl ?_
 refine yN ?_
 refine yR ?_
 refine Qb (Y1 rfl rfl) ?_
 refine yS rfl ?_
 refine yN ?_
 refine Qs ?_
 exact Qu rfl rfl fun w s => ⟨(g5, g4, g6, g7), rfl, (same w s).res (List.Sublist.refl _) (by simp [Fa.wr])⟩
end
section
open Go.RowKit
def Jw (n : Nat) (key : B32) (ds : List B32) (pre : List UInt8) : Nat → List UInt8
 | 0 => pre
 | k + 1 => if Q4 key (ds.length - 1 - k) then YB (ds.getD (ds.length - 1 - k) QN) (Jj n (Jw n key ds pre k)) else YB (Jj n (Jw n key ds pre k)) (ds.getD (ds.length - 1 - k) QN)
theorem Qgp (n : Nat) (key : B32) (ds : List B32) (pre : List UInt8) (h : pre.length ≤ 65) : ∀ k, (Jw n key ds pre k).length ≤ 65
 | 0 => h
 | k + 1 => by
  rw [Jw]
  split <;> rw [Zg] <;> exact Nat.le_refl _
theorem QqJ (b : B32) (i : Nat) (hi : i < 256) (h : Q4 b i = true) : QC Tryz.prog 140 [.agg b.cells.toArray, .int .i64 (i : Int)].toArray [] [] (fun _ : Unit => .int .i64 1) (fun _ => []) := by
 have := ZH b i hi
 rwa [show Y2 b i = 1 by unfold Y2; rw [h]; rfl] at this
theorem QqI (b : B32) (i : Nat) (hi : i < 256) (h : ¬ Q4 b i = true) : QC Tryz.prog 140 [.agg b.cells.toArray, .int .i64 (i : Int)].toArray [] [] (fun _ : Unit => .int .i64 0) (fun _ => []) := by
 have := ZH b i hi
 rwa [show Y2 b i = 0 by unfold Y2; rw [if_neg h]] at this
instance (a b : B32) : RowAt (a.cells ++ b.cells) 0 32 a.cells := ⟨fun j v hv => by rw [Nat.zero_add, List.getElem?_append_left (List.getElem?_eq_some_iff.1 hv).1]; exact hv, B32.cells_length a⟩
instance (a b : B32) : RowAt (a.cells ++ b.cells) 32 32 b.cells := ⟨fun j v hv => by rw [List.getElem?_append_right (by rw [B32.cells_length]; omega), B32.cells_length, Nat.add_sub_cancel_left]; exact hv, B32.cells_length b⟩
class TakeTl (m L : List Fa) (M : outParam (List Fa)) : Prop where
 perm : L.Perm (m ++ M)
instance (m R : List Fa) : TakeTl m (m ++ R) R := ⟨List.Perm.refl _⟩
instance (priority := 100) (m : List Fa) (f : Fa) (L M : List Fa) [h : TakeTl m L M] : TakeTl m (f :: L) (f :: M) := ⟨(h.perm.cons f).trans List.perm_middle.symm⟩
instance (priority := 5) (m L M : List Fa) [h : TakeTl m L M] : Take m L M := ⟨h.perm⟩
class RmOk (Rm : List Fa) : Prop where
 ok : ∀ r ∈ Rm, r.wr = false
instance (Rm : List Fa) [h : RmOk Rm] : Rds Rm Rm := ⟨fun hw r hr => ⟨h.ok r hr, hw.ok r hr, fun k hk => ⟨r, hr, hk⟩⟩⟩
instance (priority := 5) (Rm : List Fa) (f : Fa) (L : List Fa) [RmOk Rm] [h : Rds L Rm] : Rds (f :: L) Rm := ⟨fun hw r hr => by
 obtain ⟨h1, h2, h3⟩ := h.ok hw.tail r hr
 exact ⟨h1, h2, fun k hk => let ⟨g, hg, hgk⟩ := h3 k hk; ⟨g, List.mem_cons_of_mem _ hg, hgk⟩⟩⟩
theorem Sx.mid {A : List Fa} {W w : World} {pre m l R : List Fa} (s : Sx A W w (pre ++ (m ++ (l ++ R)))) : Sx A W w (pre ++ (l ++ (m ++ R))) := s.perm (List.Perm.append_left _ (by
 rw [← List.append_assoc, ← List.append_assoc]
 exact List.Perm.append_right _ List.perm_append_comm))
def QmF (n : Nat) (key : B32) (ds : List B32) (pre : List UInt8) (gc k0 g6 g7 k : Nat) (m : List Fa) (u : Nat × Nat) : List Fa :=
 .blk g6 [.slice (some ⟨u.1, 0, none⟩) (Jw n key ds pre k).length u.2] 35 :: .blk g7 (Jj n (Jw n key ds pre k)).cells 45 :: .own (.slice (some ⟨u.1, 0, none⟩) (Jw n key ds pre k).length u.2) (Jw n key ds pre k).length 5 1 (bc (Jw n key ds pre k)) :: .blk gc [.int .i64 ((k0 + k + 1 : Nat) : Int)] 272 :: m
theorem QoN {n : Nat} {key : B32} {ds : List B32} {pre : List UInt8} {gc k0 g6 g7 k : Nat} {m : List Fa} {u : Nat × Nat} (h : ∀ f ∈ m, f.wr = true) : ∀ f ∈ QmF n key ds pre gc k0 g6 g7 k m u, f.wr = true := by
 intro f hf
 unfold QmF at hf
 simp only [List.mem_cons] at hf
 rcases hf with rfl | rfl | rfl | rfl | hf
 ·rfl
 ·rfl
 ·rfl
 ·rfl
 exact h f hf
theorem Qis (p : Proof) (n : Nat) (hn : n ≤ 256) (key : B32) (ds : List B32) (hds : ds.length ≤ 256) (gh gc k0 b o c a1 a2 a3 a4 : Nat) (hk0 : k0 ≤ 900000000000) : QeJ Tryz.prog 196 [.pointer (some ⟨a1, 0, none⟩), .pointer (some ⟨a2, 0, none⟩), .pointer (some ⟨a3, 0, none⟩), .pointer (some ⟨a4, 0, none⟩)] [.rd (some ⟨a1, 0, none⟩) p.cells, .rd (some ⟨a2, 0, none⟩) [.pointer (some ⟨gh, 0, none⟩)], .rd (some ⟨a3, 0, none⟩) [.slice (some ⟨b, o, none⟩) ds.length c], .rd (some ⟨a4, 0, none⟩) key.cells, .rd (some ⟨gh, 0, none⟩) [.pointer (some ⟨gc, 0, none⟩), .int .i64 (n : Int)], .rd (some ⟨b, o, none⟩) (dgs ds), .rd (some ⟨1, 0, none⟩) Jd] [.blk gc [.int .i64 (k0 : Int)] 272] (ds.length + 1)
  (fun k (u : Nat × Nat) => [.slice (some ⟨u.1, 0, none⟩) (Jw n key ds (J9 p) k).length u.2, .agg (Jj n (Jw n key ds (J9 p) k)).cells.toArray])
  (fun k (u : Nat × Nat) => [.own (.slice (some ⟨u.1, 0, none⟩) (Jw n key ds (J9 p) k).length u.2) (Jw n key ds (J9 p) k).length 5 1 (bc (Jw n key ds (J9 p) k))])
  [.blk gc [.int .i64 ((k0 + ds.length + 1 : Nat) : Int)] 272] := by
 have hel := Qfl p
 have hE := Qre p
 generalize hpre : J9 p = pre at *
 have hwl := Qgp n key ds pre hel
 refine Qcv Tryz.func196 rfl (n := 45) rfl rfl ?_
 intro l J Rm m0 W hJw hRm hy h0
 have hRI : RmOk Rm := ⟨hRm⟩
 refine yR ?_
 refine Qo (JW rfl) fun g5 => ?_
 refine yN ?_
 refine yR ?_
 refine Qb (Qm rfl) ?_
 refine Qh (hE.comes) rfl rfl rfl fun ⟨gP, cP⟩ => ?_
 dsimp only
 refine Qo (Q0) fun g6 => ?_
 refine Q7 (QV rfl rfl rfl) ?_
 refine yN ?_
 refine yR ?_
 refine Qb (Qf rfl) ?_
 refine Qb (Qf rfl) ?_
 refine Qh ((VP n hn gh gc k0 (by omega) pre (some ⟨gP, 0, none⟩) cP (fun h => by cases h) (by omega)).comes) rfl rfl rfl fun _ => ?_
 refine Qo (Q0) fun g7 => ?_
 refine Q7 (Qw rfl rfl) ?_
 refine yN ?_
 refine Qd ?_
 refine yR ?_
 refine Qb (Qf rfl) ?_
 refine Qh ((Qgu (some ⟨b, o, none⟩) ds.length c).comes) rfl rfl rfl fun g17 => ?_
 refine yN ?_
 refine Qq ?_
 change H _ _ _ _ _ (_ :: .blk g7 (Jj n (Jw n key ds pre 0)).cells _ :: .blk gc [.int .i64 ((k0 + 0 + 1 : Nat) : Int)] _ :: .blk g6 [.slice (some ⟨gP, 0, none⟩) (Jw n key ds pre 0).length cP] _ :: .own (.slice (some ⟨gP, 0, none⟩) (Jw n key ds pre 0).length cP) (Jw n key ds pre 0).length _ _ (bc (Jw n key ds pre 0)) :: _) _
 refine Qax (QeE ds b o c g17 (by omega)) rfl (fun k mm => ∃ (u : Nat × Nat) (m1 : List Fa), mm = QmF n key ds pre gc k0 g6 g7 k m1 u ∧ J k m1) (.blk g6 [.slice (some ⟨gP, 0, none⟩) (Jw n key ds pre 0).length cP] 35 :: .blk g7 (Jj n (Jw n key ds pre 0)).cells 45 :: .own (.slice (some ⟨gP, 0, none⟩) (Jw n key ds pre 0).length cP) (Jw n key ds pre 0).length 5 1 (bc (Jw n key ds pre 0)) :: .blk gc [.int .i64 ((k0 + 0 + 1 : Nat) : Int)] 272 :: m0) (.rd (some ⟨g5, 0, none⟩) [.func (.yield l) #[] #[]] :: .rd (some ⟨a2, 0, none⟩) [.pointer (some ⟨gh, 0, none⟩)] :: .rd (some ⟨a4, 0, none⟩) key.cells :: .rd (some ⟨gh, 0, none⟩) [.pointer (some ⟨gc, 0, none⟩), .int .i64 (n : Int)] :: .rd (some ⟨1, 0, none⟩) Jd :: Rm) (by rintro k mm ⟨u, m1, rfl, hJ⟩; exact QoN (hJw _ _ hJ)) ⟨(gP, cP), m0, rfl, h0⟩ rfl (fun _ _ => rfl) ?_ ?_
 ·intro ll rr k _ mm W1 hr hrp hkN hJ2
  obtain ⟨⟨g, c'⟩, m1, rfl, hJ⟩ := hJ2
  unfold QmF
  simp only [List.nil_append, List.cons_append]
  refine h_L (fun w s => Sx.mid (pre := [_, _, _, _, _]) (m := m1) (l := [.rd (some ⟨g5, 0, none⟩) [.func (.yield l) #[] #[]], .rd (some ⟨a2, 0, none⟩) [.pointer (some ⟨gh, 0, none⟩)], .rd (some ⟨a4, 0, none⟩) key.cells, .rd (some ⟨gh, 0, none⟩) [.pointer (some ⟨gc, 0, none⟩), .int .i64 (n : Int)], .rd (some ⟨1, 0, none⟩) Jd]) (R := Rm) s) ?_
  simp only [List.nil_append, List.cons_append]
  refine yR ?_
  refine yS rfl ?_
  refine yN ?_
  refine Q5 ?_
  refine Qo (Q0) fun g9 => ?_
  refine Q7 (Qw rfl rfl) ?_
  refine yN ?_
  refine YN hr ?_
  refine Qq ?_
  refine Qd ?_
  refine yR ?_
  refine Qb (Qf rfl) ?_
  refine Qb (Qf rfl) ?_
  refine Qb (Qm rfl) ?_
  refine Zz (hy k (g, c') m1 (by omega) hJ) hRm rfl rfl fun m' hJ' => ?_
  refine Qb (Ji rfl) ?_
  refine yN ?_
  refine Qt rfl ?_
  refine Qn ?_
  refine Qc ?_
  refine yR ?_
  refine Qb (Qm rfl) ?_
  refine Qb (Qm rfl) ?_
  refine Qb (QD rfl) ?_
  refine Qo (Q0) fun g10 => ?_
  refine Q7 (Qw rfl rfl) ?_
  refine yN ?_
  refine Qd ?_
  have hwr2 : ∀ (g37 c37 : Nat), ∀ f ∈ (.blk g6 [.slice (some ⟨g37, 0, none⟩) (Jw n key ds pre (k + 1)).length c37] 35 :: .blk g7 (Jj n (Jw n key ds pre (k + 1))).cells 45 :: .own (.slice (some ⟨g37, 0, none⟩) (Jw n key ds pre (k + 1)).length c37) (Jw n key ds pre (k + 1)).length 5 1 (bc (Jw n key ds pre (k + 1))) :: .blk gc [.int .i64 ((k0 + k + 1 + 1 : Nat) : Int)] 272 :: m'), f.wr = true := fun g37 c37 f hf => by
   simp only [List.mem_cons] at hf
   rcases hf with rfl | rfl | rfl | rfl | hf
   ·rfl
   ·rfl
   ·rfl
   ·rfl
   exact hJw _ _ hJ' f hf
  by_cases hb : Q4 key (ds.length - 1 - k) = true
  ·have hw1 : Jw n key ds pre (k + 1) = YB (ds.getD (ds.length - 1 - k) QN) (Jj n (Jw n key ds pre k)) := by rw [Jw, if_pos hb]
   refine Q1 [.rd (some ⟨a4, 0, none⟩) key.cells, .blk g7 (Jj n (Jw n key ds pre k)).cells 45] [] QJ (same) ?_
   refine Qp 0 rfl (Qm rfl) ?_
   refine Qa 1 rfl (Qi rfl) ?_
   refine Qp 3 rfl (Qm rfl) ?_
   refine Qv 2 ?_
   refine QR 2 rfl ((QqJ key (ds.length - 1 - k) (by omega) hb).comes) rfl rfl rfl (fun xx => same) fun _ => ?_
   refine Qa 4 rfl (QP rfl rfl) ?_
   refine Qv 5 ?_
   refine J4 5 rfl (Qw rfl rfl) ?_
   refine Qc ?_
   refine yR ?_
   refine Qb (QP rfl rfl) ?_
   refine Qb (Qm rfl) ?_
   refine Qb (QP rfl rfl) ?_
   refine Qb (Qm rfl) ?_
   refine Qh ((QbJ (ds.getD (ds.length - 1 - k) QN) (Jj n (Jw n key ds pre k))).comes) rfl rfl rfl fun ⟨g37, c37⟩ => ?_
   dsimp only
   rw [← hw1]
   have hl1 := hwl (k + 1)
   refine Q7 (QV rfl rfl rfl) ?_
   refine yN ?_
   refine Q5 ?_
   refine Qb (Qf rfl) ?_
   refine Qb (Qf rfl) ?_
   refine Qh ((VP n hn gh gc (k0 + k + 1) (by omega) (Jw n key ds pre (k + 1)) (some ⟨g37, 0, none⟩) c37 (fun h => by cases h) (by omega)).comes) rfl rfl rfl fun _ => ?_
   refine Q7 (Qw rfl rfl) ?_
   refine QE ?_
   refine Q2 ?_
   exact JH (.blk g6 [.slice (some ⟨g37, 0, none⟩) (Jw n key ds pre (k + 1)).length c37] 35 :: .blk g7 (Jj n (Jw n key ds pre (k + 1))).cells 45 :: .own (.slice (some ⟨g37, 0, none⟩) (Jw n key ds pre (k + 1)).length c37) (Jw n key ds pre (k + 1)).length 5 1 (bc (Jw n key ds pre (k + 1))) :: .blk gc [.int .i64 ((k0 + k + 1 + 1 : Nat) : Int)] 272 :: m') hr hrp ⟨(g37, c37), m', by rw [show k0 + (k + 1) + 1 = k0 + k + 1 + 1 by omega], hJ'⟩ (hwr2 g37 c37)
  have hw1 : Jw n key ds pre (k + 1) = YB (Jj n (Jw n key ds pre k)) (ds.getD (ds.length - 1 - k) QN) := by rw [Jw, if_neg hb]
  refine Q1 [.rd (some ⟨a4, 0, none⟩) key.cells, .blk g7 (Jj n (Jw n key ds pre k)).cells 45] [] QJ (same) ?_
  refine Qp 0 rfl (Qm rfl) ?_
  refine Qa 1 rfl (Qi rfl) ?_
  refine Qp 3 rfl (Qm rfl) ?_
  refine Qv 2 ?_
  refine QR 2 rfl ((QqI key (ds.length - 1 - k) (by omega) hb).comes) rfl rfl rfl (fun xx => same) fun _ => ?_
  refine Qa 4 rfl (QP rfl rfl) ?_
  refine Qv 5 ?_
  refine J4 5 rfl (Qw rfl rfl) ?_
  refine Qc ?_
  refine yR ?_
  refine Qb (QP rfl rfl) ?_
  refine Qb (Qm rfl) ?_
  refine Qb (QP rfl rfl) ?_
  refine Qb (Qm rfl) ?_
  refine Qh ((QbJ (Jj n (Jw n key ds pre k)) (ds.getD (ds.length - 1 - k) QN)).comes) rfl rfl rfl fun ⟨g37, c37⟩ => ?_
  dsimp only
  rw [← hw1]
  have hl1 := hwl (k + 1)
  refine Q7 (QV rfl rfl rfl) ?_
  refine yN ?_
  refine Q5 ?_
  refine Qb (Qf rfl) ?_
  refine Qb (Qf rfl) ?_
  refine Qh ((VP n hn gh gc (k0 + k + 1) (by omega) (Jw n key ds pre (k + 1)) (some ⟨g37, 0, none⟩) c37 (fun h => by cases h) (by omega)).comes) rfl rfl rfl fun _ => ?_
  refine Q7 (Qw rfl rfl) ?_
  refine QE ?_
  refine Q2 ?_
  exact JH (.blk g6 [.slice (some ⟨g37, 0, none⟩) (Jw n key ds pre (k + 1)).length c37] 35 :: .blk g7 (Jj n (Jw n key ds pre (k + 1))).cells 45 :: .own (.slice (some ⟨g37, 0, none⟩) (Jw n key ds pre (k + 1)).length c37) (Jw n key ds pre (k + 1)).length 5 1 (bc (Jw n key ds pre (k + 1))) :: .blk gc [.int .i64 ((k0 + k + 1 + 1 : Nat) : Int)] 272 :: m') hr hrp ⟨(g37, c37), m', by rw [show k0 + (k + 1) + 1 = k0 + k + 1 + 1 by omega], hJ'⟩ (hwr2 g37 c37)
 intro bb mm hJ2
 obtain ⟨⟨g, c'⟩, m1, rfl, hJ⟩ := hJ2
 unfold QmF
 refine Q2 ?_
 refine Qc ?_
 simp only [List.nil_append, List.cons_append]
 refine h_L (fun w s => Sx.mid (pre := [_, _, _, _]) (m := m1) (l := [.obj bb (.deferred (some [])), .blk g17 [.slice (some ⟨b, o, none⟩) ds.length c] 61, .blk g5 [.func (.yield l) #[] #[]] 331, .rd (some ⟨a1, 0, none⟩) p.cells, .rd (some ⟨a2, 0, none⟩) [.pointer (some ⟨gh, 0, none⟩)], .rd (some ⟨a3, 0, none⟩) [.slice (some ⟨b, o, none⟩) ds.length c], .rd (some ⟨a4, 0, none⟩) key.cells, .rd (some ⟨gh, 0, none⟩) [.pointer (some ⟨gc, 0, none⟩), .int .i64 (n : Int)], .rd (some ⟨b, o, none⟩) (dgs ds), .rd (some ⟨1, 0, none⟩) Jd]) (R := Rm) s) ?_
 simp only [List.nil_append, List.cons_append]
 refine Q5 ?_
 refine Qb (Qf rfl) ?_
 refine Qb (Qf rfl) ?_
 refine Qb (Qm rfl) ?_
 refine Zz (hy ds.length (g, c') m1 (by omega) hJ) hRm rfl rfl fun m' hJ' => ?_
 refine QE ?_
 refine ZJ ?_
 refine Vf ?_
 exact Vg rfl fun w s => ⟨_, m', rfl, hJ', (same w s).res (List.Sublist.refl _) (by intro f hf; simp only [List.mem_cons, List.cons_append, List.nil_append] at hf; exact hf.elim (fun h => by rw [h]; rfl) (hJw _ _ hJ' f))⟩
end
section
open Go.RowKit
def Vt (n : Nat) (key : B32) (ds : List B32) (pre : List UInt8) (N : Nat) : List B32 := (List.range N).map fun k => Jj n (Jw n key ds pre k)
theorem QjM (n : Nat) (key : B32) (ds : List B32) (pre : List UInt8) (N : Nat) : (Vt n key ds pre N).length = N := by simp [Vt]
theorem Qhj (n : Nat) (key : B32) (ds : List B32) (pre : List UInt8) (N : Nat) : dgs (Vt n key ds pre N) ++ (Jj n (Jw n key ds pre N)).cells = dgs (Vt n key ds pre (N + 1)) := by
 unfold Vt
 rw [List.range_succ, List.map_append, Yb]
 simp [dgs]
theorem Qnj (p : Proof) (hc : Jk p = 0) (ss : List B32) (hs : p.sibs.n = ss.length) (key : B32) (n : Nat) (hn : n ≤ 256) (gh gc k0 : Nat) (hk : k0 ≤ 800000000000) (d : Nat) (hd : p.depth = (d : Int)) : QC Tryz.prog 251 [.pointer (some ⟨gh, 0, none⟩), .agg p.cells.toArray, .agg key.cells.toArray].toArray [.rd (some ⟨gh, 0, none⟩) [.pointer (some ⟨gc, 0, none⟩), .int .i64 (n : Int)], .rd p.sibs.A (dgs ss), .rd (some ⟨1, 0, none⟩) Jd] [.blk gc [.int .i64 (k0 : Int)] 272] (fun u : Nat × Nat => .tuple #[.slice (some ⟨u.1, 0, none⟩) (d + 1) u.2, .int .i64 0]) (fun u => [.own (.slice (some ⟨u.1, 0, none⟩) (d + 1) u.2) (d + 1) 45 32 (dgs (Vt n key (Vo (Jj n Yw) p.bitmap ss d) (J9 p) (d + 1))), .blk gc [.int .i64 ((k0 + 1 + d + 1 : Nat) : Int)] 272]) := by
 have hd2 := Y5 hc
 have hE := QeI p hc ss hs n hn gh gc k0 (by omega) d hd
 have hlen := VY (Jj n Yw) p.bitmap ss d
 generalize Vo (Jj n Yw) p.bitmap ss d = ds at *
 subst hlen
 have hds : ds.length ≤ 256 := by omega
 refine Qk Tryz.func251 rfl (n := 34) rfl rfl ?_
 intro W
 refine yR ?_
 refine Qo (Q9 rfl) fun g4 => ?_
 refine Qo (Q9 rfl) fun g5 => ?_
 refine yS rfl ?_
 refine yS rfl ?_
 refine yN ?_
 refine yR ?_
 refine yM rfl ?_
 refine Qb (Qm rfl) ?_
 refine Qh (hE.comes) rfl rfl rfl fun g15 => ?_
 refine yM rfl ?_
 refine Qb (Qj rfl rfl) ?_
 refine Qb (Qj rfl rfl) ?_
 refine yS rfl ?_
 refine yS rfl ?_
 refine yN ?_
 refine Qd ?_
 refine yR ?_
 refine yM rfl ?_
 refine Qb (QL rfl rfl) ?_
 refine yN ?_
 refine Ys rfl ((fun h => h rfl)) ?_
 refine Qn ?_
 refine Qc ?_
 refine yR ?_
 refine Qo (Q0) fun g10 => ?_
 refine yN ?_
 refine Qd ?_
 refine yR ?_
 refine yM rfl ?_
 refine Qb (Qm rfl) ?_
 refine yM rfl ?_
 refine Qb (Qm rfl) ?_
 refine Qh ((QmJ (.pointer (some ⟨gh, 0, none⟩)) p (some ⟨g15, 0, none⟩) ds.length ds.length key rfl).comes) rfl rfl rfl fun ⟨a2, a1, a3, a4⟩ => ?_
 dsimp only
 refine Ju 45 32 (xs := dgs (Vt n key ds (J9 p) 0)) rfl ?_
 refine yN ?_
 refine Qq ?_
 refine Qax (Qis p n hn key ds hds gh gc (k0 + 1) g15 0 ds.length a2 a1 a3 a4 (by omega)) rfl (fun k mm => ∃ v : Option Addr × Nat, mm = [.blk g10 [.slice v.1 k v.2] 61, .own (.slice v.1 k v.2) k 45 32 (dgs (Vt n key ds (J9 p) k))]) [.blk g10 [.slice none 0 0] 61, .own (.slice none 0 0) 0 45 32 (dgs (Vt n key ds (J9 p) 0))] [] (by rintro k mm ⟨v, rfl⟩ f hf; simp only [List.mem_cons, List.not_mem_nil, or_false] at hf; exact hf.elim (fun h => by rw [h]; rfl) (fun h => by rw [h]; rfl)) ⟨(none, 0), rfl⟩ rfl (fun _ _ => rfl) ?_ ?_
 ·intro ll rr k u mm W1 hr hrp hkN hJ2
  obtain ⟨⟨B, c'⟩, rfl⟩ := hJ2
  dsimp only
  simp only [List.nil_append, List.cons_append]
  have hst := Qhj n key ds (J9 p) k
  refine Q5 ?_
  refine Qo (Q0) fun g12 => ?_
  refine Q7 (Qw rfl rfl) ?_
  refine yN ?_
  refine YN hr ?_
  refine Qq ?_
  refine Q5 ?_
  refine Qb (Qf rfl) ?_
  refine Qb (Qm rfl) ?_
  refine Qo (J8 rfl rfl) fun g31 => ?_
  refine Qo (Yo rfl rfl (k := 32)) fun ⟨g32, c32⟩ => ?_
  refine Q7 (QV rfl rfl rfl) ?_
  refine QE ?_
  refine Q2 ?_
  rw [hst]
  exact JH [.blk g10 [.slice (some ⟨g32, 0, none⟩) (k + 1) c32] 61, .own (.slice (some ⟨g32, 0, none⟩) (k + 1) c32) (k + 1) 45 32 (dgs (Vt n key ds (J9 p) (k + 1)))] hr hrp ⟨(some ⟨g32, 0, none⟩, c32), rfl⟩ (by intro f hf; simp only [List.mem_cons, List.not_mem_nil, or_false] at hf; exact hf.elim (fun h => by rw [h]; rfl) (fun h => by rw [h]; rfl))
 intro bb mm hJ2
 obtain ⟨⟨B, c'⟩, rfl⟩ := hJ2
 refine Q2 ?_
 refine Qc ?_
 dsimp only
 simp only [List.nil_append, List.cons_append]
 refine Jq (φ := ∃ g, B = some ⟨g, 0, none⟩) (fun w s => s.ownSome (N := ds.length + 1) (c := c') (by omega)) ?_
 rintro ⟨g, rfl⟩
 refine yR ?_
 refine Qb (Qf rfl) ?_
 refine yS rfl ?_
 refine yS rfl ?_
 refine yN ?_
 refine Qs ?_
 refine Vf ?_
 exact QO rfl rfl rfl fun w s => ⟨(g, c'), rfl, (same w s).res (List.Sublist.refl _) (by simp [Fa.wr])⟩
theorem Qp3 (p : Proof) (hc : Jk p = 0) (ss : List B32) (hs : p.sibs.n = ss.length) (key : B32) (n : Nat) (hn : n ≤ 256) (gh gc k0 : Nat) (hk : k0 ≤ 800000000000) (d : Nat) (hd : p.depth = (d : Int)) : QC Tryz.prog 193 [.pointer (some ⟨gh, 0, none⟩), .agg p.cells.toArray, .agg key.cells.toArray].toArray [.rd (some ⟨gh, 0, none⟩) [.pointer (some ⟨gc, 0, none⟩), .int .i64 (n : Int)], .rd p.sibs.A (dgs ss), .rd (some ⟨1, 0, none⟩) Jd] [.blk gc [.int .i64 (k0 : Int)] 272] (fun _ : Unit => .tuple #[.agg (Jj n (Jw n key (Vo (Jj n Yw) p.bitmap ss d) (J9 p) d)).cells.toArray, .int .i64 0]) (fun _ => [.blk gc [.int .i64 ((k0 + 1 + d + 1 : Nat) : Int)] 272]) := by
 have hd2 := Y5 hc
 have hS := Qnj p hc ss hs key n hn gh gc k0 hk d hd
 generalize Vo (Jj n Yw) p.bitmap ss d = ds at *
 have hget : (Vt n key ds (J9 p) (d + 1)).getD d QN = Jj n (Jw n key ds (J9 p) d) := by
  unfold Vt
  rw [List.getD, List.getElem?_map, List.getElem?_range (by omega)]
  rfl
 have hat := VV (l := Vt n key ds (J9 p) (d + 1)) (k := d) (by rw [QjM]; omega)
 rw [hget] at hat
 refine Qk Tryz.func193 rfl (n := 27) rfl rfl ?_
 intro W
 refine yR ?_
 refine Qo (Q9 rfl) fun g4 => ?_
 refine Qo (Q9 rfl) fun g5 => ?_
 refine Qo (Q0) fun g6 => ?_
 refine yS rfl ?_
 refine yN ?_
 refine yR ?_
 refine yM rfl ?_
 refine Qb (Qm rfl) ?_
 refine Qb (Qm rfl) ?_
 refine Qh (hS.comes) rfl rfl rfl fun ⟨g14, c14⟩ => ?_
 dsimp only
 refine yM rfl ?_
 refine Qb (Qj rfl rfl) ?_
 refine Qb (Qj rfl rfl) ?_
 refine yS rfl ?_
 refine yS rfl ?_
 refine yN ?_
 refine Qd ?_
 refine yR ?_
 refine yM rfl ?_
 refine Qb (QL rfl rfl) ?_
 refine yN ?_
 refine Ys rfl ((fun h => h rfl)) ?_
 refine Qn ?_
 refine Qc ?_
 refine yR ?_
 refine yM rfl ?_
 refine yM rfl ?_
 refine Qb (QF rfl) ?_
 refine Qb (YR rfl rfl (m := d) (hm := by omega)) ?_
 refine Qb (QQ rfl rfl) ?_
 refine Qb (Jm rfl (B32.cells_length _) hat) ?_
 refine Q7 (Qw rfl rfl) ?_
 refine yS rfl ?_
 refine yN ?_
 refine Qs ?_
 exact QO rfl (QZ rfl) rfl fun w s => ⟨(), rfl, (same w s).res (List.Sublist.refl _) (by simp [Fa.wr])⟩
end
section
open Go.RowKit
class TBool (P : Program) (T : TypeId) : Prop where
 und : P.underlying T = some .bool
section
variable {P : Program} {n : Nat} {D : List Deferred} {E : Env} {L : List Fa} {T T' : TypeId} {x y : Operand}
theorem Vs (w : World) (d : Nat) (a b : Bool) (h : P.underlying T = some .bool) : (Op.equalIn (d + 1) T (.bool a) (.bool b)).run P w = .ok (a == b) w := by
 simp [Op.equalIn, run_underlying h]
theorem Qgc (w : World) (a b : Bool) (h : P.underlying T = some .bool) : (binOp .eql T (.bool a) (.bool b)).run P w = .ok (.bool (a == b)) w := by
 simp only [binOp]
 simp [Op.equal, Op.maxDepth, Vs w 9999 a b h]
theorem Qge (w : World) (a b : Bool) (h : P.underlying T = some .bool) : (binOp .neq T (.bool a) (.bool b)).run P w = .ok (.bool (!(a == b))) w := by
 simp only [binOp]
 simp [Op.equal, Op.maxDepth, Vs w 9999 a b h]
theorem Qb2 [hT : TBool P T] {a b : Bool} (hx : ev E x = some (.bool a)) (hy : ev E y = some (.bool b)) : QM P n D E L (.binOp .eql T x y T') (.bool (a == b)) := fun c w ka s o ho => J7 ho (ka.ev hx) (ka.ev hy) rfl (Qgc w a b hT.und)
theorem QfU [hT : TBool P T] {a b : Bool} (hx : ev E x = some (.bool a)) (hy : ev E y = some (.bool b)) : QM P n D E L (.binOp .neq T x y T') (.bool (!(a == b))) := fun c w ka s o ho => J7 ho (ka.ev hx) (ka.ev hy) rfl (Qge w a b hT.und)
end
theorem Qht {W w : World} {h1 : Zh} {N : List Fa} (hr : Rx [.zone true (World.zh W)] W w (.zone true h1 :: N)) (hl : LeZ (World.zh W) h1) : Below W.heap.size W w := by
 refine ⟨hr.os, hr.tape, hr.output, hr.size, fun k hk => ?_⟩
 obtain ⟨o, ho⟩ : ∃ o, W.heap[k]? = some o := ⟨_, Array.getElem?_eq_getElem hk⟩
 rw [ho]
 exact hr.ok (.zone true h1) (List.mem_cons_self ..) k o (hl.le k o ho)
theorem Fx.all (W : World) : Fx W [.zone true (World.zh W)] := ⟨fun f hf => by rw [List.mem_singleton.1 hf]; exact fun k o ho => ho, List.pairwise_singleton _ _⟩
end
section
open Go.RowKit
section
variable {P : Program} {n : Nat} {D : List Deferred} {E : Env} {L : List Fa} {T T' : TypeId} {x y : Operand}
theorem Qmc {i : Int} (hx : ev E x = some (.int .i64 i)) (hy : ev E y = some (.int .u64 8)) (h : 0 ≤ i ∧ i < 256 := by omega) : QM P n D E L (.binOp .shl T x y T') (.int .i64 (i * 256)) := fun a w ka s o ho => Qrz ho (ka.ev hx) (ka.ev hy) h
theorem Qpl {i j : Int} (hx : ev E x = some (.int .i64 (i * 256))) (hy : ev E y = some (.int .i64 j)) (h : 0 ≤ i ∧ i < 256 := by omega) (h' : 0 ≤ j ∧ j < 256 := by omega) : QM P n D E L (.binOp .or T x y T') (.int .i64 (i * 256 + j)) := fun a w ka s o ho => QrV ho (ka.ev hx) (ka.ev hy) h h'
theorem Qqf {i : Nat} (hx : ev E x = some (.int .i64 (i : Int))) (hy : ev E y = some (.int .u64 8)) : QM P n D E L (.binOp .shr T x y T') (.int .i64 ((i / 256 : Nat) : Int)) := fun a w ka s o ho => by
 have hx := ka.ev hx
 have hy := ka.ev hy
 unfold execOp
 simp only [ho, hx, hy]
 have e : (binOp .shr T (.int .i64 (i : Int)) (.int .u64 8)).run P w = .ok (.int .i64 ((i / 256 : Nat) : Int)) w := by
  rw [show ((i / 256 : Nat) : Int) = (i : Int).fdiv (2 ^ 8) by rw [Int.fdiv_eq_ediv_of_nonneg _ (by decide)]; simp]
  rfl
 rw [Sem.run_bind, Sem.run_bind]
 have g : (eqGuard .shr T x y (.int .i64 (i : Int)) (.int .u64 8)).run P w = .ok () w := rfl
 rw [g, Result.andThen_ok, e]
 rfl
theorem VJ {len e size : Nat} [hT : TArr P T len e size] {A : Option Addr} {m c : Nat} (hx : ev E x = some (.slice A m c)) (hm : len ≤ m := by omega) : QM P n D E L (.sliceToArrayPointer T x) (.pointer A) := fun a w ka s o ho => QgH ho hT.und (ka.ev hx) hm
end
end
section
open Go.RowKit
def keyOf (l : List UInt8) : B32 := if h : l.length = 32 then ⟨l, h⟩ else QN
theorem Yu {l : List UInt8} (h : l.length = 32) : (keyOf l).cells = bc l := by unfold keyOf; rw [dif_pos h]; rfl
theorem Zp (b : Bool) (e : Int) : QC Tryz.prog 177 [.bool b, .int .i64 e].toArray [] [] (fun _ : Unit => .int .i64 (if b then e else 0)) (fun _ => []) := by
 cases b
 ·refine Qk Tryz.func177 rfl (n := 7) rfl rfl ?_
  intro W
  refine yR ?_
  refine yS rfl ?_
  refine yN ?_
  refine Qd ?_
  refine yR ?_
  refine yM rfl ?_
  refine yN ?_
  refine Qt rfl ?_
  refine Qn ?_
  refine Qc ?_
  refine yR ?_
  refine yS rfl ?_
  refine yN ?_
  refine Qs ?_
  exact Qu rfl rfl fun w s => ⟨(), rfl, s.res (List.nil_sublist _) (by simp)⟩
 refine Qk Tryz.func177 rfl (n := 7) rfl rfl ?_
 intro W
 refine yR ?_
 refine yS rfl ?_
 refine yN ?_
 refine Qd ?_
 refine yR ?_
 refine yM rfl ?_
 refine yN ?_
 refine Qz rfl ?_
 refine yR ?_
 refine yM rfl ?_
 refine yS rfl ?_
 refine yN ?_
 refine Qs ?_
 refine Qr ?_
 exact Qu rfl rfl fun w s => ⟨(), rfl, s.res (List.nil_sublist _) (by simp)⟩
def YM (x : Chk) : Nat → Int
 | 0 => if x.root.n = 32 then 0 else 4
 | 1 => if x.c.key.n = 32 then 0 else 2
 | _ => if x.c.present = true ∧ 65535 < x.c.value.n then 3 else 0
section
variable (x : Chk) (g : Nat)
theorem QoE : QC Tryz.prog 176 [.pointer (some ⟨g, 0, none⟩)].toArray [.rd (some ⟨g, 0, none⟩) x.cells] [] (fun _ : Unit => .int .i64 (YM x 0)) (fun _ => []) := by
 by_cases h : x.root.n = 32
 ·have hw := Zp false 4
  rw [show YM x 0 = 0 from if_pos h]
  refine Qk Tryz.func176 rfl (n := 10) rfl rfl ?_
  intro W
  refine yR ?_
  refine yS rfl ?_
  refine yN ?_
  refine yR ?_
  refine yM rfl ?_
  refine Qb (QA rfl) ?_
  refine Qb (Qe rfl) ?_
  refine Qb (Qf rfl) ?_
  refine Qb (QF rfl) ?_
  refine Qb (Ql (QL rfl rfl) (decide_eq_false (by omega))) ?_
  refine Qh (hw.comes) rfl rfl rfl fun _ => ?_
  refine yS rfl ?_
  refine yN ?_
  refine Qs ?_
  exact Qu rfl rfl fun w s => ⟨(), rfl, s.res (List.nil_sublist _) (by simp)⟩
 have hw := Zp true 4
 rw [show YM x 0 = 4 from if_neg h]
 refine Qk Tryz.func176 rfl (n := 10) rfl rfl ?_
 intro W
 refine yR ?_
 refine yS rfl ?_
 refine yN ?_
 refine yR ?_
 refine yM rfl ?_
 refine Qb (QA rfl) ?_
 refine Qb (Qe rfl) ?_
 refine Qb (Qf rfl) ?_
 refine Qb (QF rfl) ?_
 refine Qb (Ql (QL rfl rfl) (decide_eq_true (by omega))) ?_
 refine Qh (hw.comes) rfl rfl rfl fun _ => ?_
 refine yS rfl ?_
 refine yN ?_
 refine Qs ?_
 exact Qu rfl rfl fun w s => ⟨(), rfl, s.res (List.nil_sublist _) (by simp)⟩
theorem Qik : QC Tryz.prog 178 [.pointer (some ⟨g, 0, none⟩)].toArray [.rd (some ⟨g, 0, none⟩) x.cells] [] (fun _ : Unit => .int .i64 (YM x 1)) (fun _ => []) := by
 by_cases h : x.c.key.n = 32
 ·have hw := Zp false 2
  rw [show YM x 1 = 0 from if_pos h]
  refine Qk Tryz.func178 rfl (n := 11) rfl rfl ?_
  intro W
  refine yR ?_
  refine yS rfl ?_
  refine yN ?_
  refine yR ?_
  refine yM rfl ?_
  refine Qb (QA rfl) ?_
  refine Qb (Qe rfl) ?_
  refine Qb (Qe rfl) ?_
  refine Qb (Qf rfl) ?_
  refine Qb (QF rfl) ?_
  refine Qb (Ql (QL rfl rfl) (decide_eq_false (by omega))) ?_
  refine Qh (hw.comes) rfl rfl rfl fun _ => ?_
  refine yS rfl ?_
  refine yN ?_
  refine Qs ?_
  exact Qu rfl rfl fun w s => ⟨(), rfl, s.res (List.nil_sublist _) (by simp)⟩
 have hw := Zp true 2
 rw [show YM x 1 = 2 from if_neg h]
 refine Qk Tryz.func178 rfl (n := 11) rfl rfl ?_
 intro W
 refine yR ?_
 refine yS rfl ?_
 refine yN ?_
 refine yR ?_
 refine yM rfl ?_
 refine Qb (QA rfl) ?_
 refine Qb (Qe rfl) ?_
 refine Qb (Qe rfl) ?_
 refine Qb (Qf rfl) ?_
 refine Qb (QF rfl) ?_
 refine Qb (Ql (QL rfl rfl) (decide_eq_true (by omega))) ?_
 refine Qh (hw.comes) rfl rfl rfl fun _ => ?_
 refine yS rfl ?_
 refine yN ?_
 refine Qs ?_
 exact Qu rfl rfl fun w s => ⟨(), rfl, s.res (List.nil_sublist _) (by simp)⟩
theorem Qil : QC Tryz.prog 179 [.pointer (some ⟨g, 0, none⟩)].toArray [.rd (some ⟨g, 0, none⟩) x.cells] [] (fun _ : Unit => .int .i64 (YM x 2)) (fun _ => []) := by
 obtain ⟨b, hb⟩ : ∃ b, x.c.present = b := ⟨_, rfl⟩
 by_cases h : 65535 < x.c.value.n
 ·have hw := Zp b 3
  rw [show YM x 2 = (if b then 3 else 0) by show (if x.c.present = true ∧ 65535 < x.c.value.n then (3 : Int) else 0) = _; rw [hb]; simp [h]]
  cases b
  ·refine Qk Tryz.func179 rfl (n := 18) rfl rfl ?_
   intro W
   refine yR ?_
   refine yS rfl ?_
   refine yN ?_
   refine yR ?_
   refine yM rfl ?_
   refine Qb (QA rfl) ?_
   refine Qb (Qe rfl) ?_
   refine Qb (Qe rfl) ?_
   refine Qb (Ql (Qf rfl) hb) ?_
   refine yM rfl ?_
   refine Qg ?_
   refine Qg ?_
   refine Qg ?_
   refine Qg ?_
   refine Qg ?_
   refine Qg ?_
   refine Qg ?_
   refine Qb (Qy rfl rfl) ?_
   refine Qh (hw.comes) rfl rfl rfl fun _ => ?_
   refine yS rfl ?_
   refine yN ?_
   refine Qs ?_
   exact Qu rfl rfl fun w s => ⟨(), rfl, s.res (List.nil_sublist _) (by simp)⟩
  refine Qk Tryz.func179 rfl (n := 18) rfl rfl ?_
  intro W
  refine yR ?_
  refine yS rfl ?_
  refine yN ?_
  refine yR ?_
  refine yM rfl ?_
  refine Qb (QA rfl) ?_
  refine Qb (Qe rfl) ?_
  refine Qb (Qe rfl) ?_
  refine Qb (Ql (Qf rfl) hb) ?_
  refine yM rfl ?_
  refine yM rfl ?_
  refine Qb (QA rfl) ?_
  refine Qb (Qe rfl) ?_
  refine Qb (Qe rfl) ?_
  refine Qb (Qf rfl) ?_
  refine Qb (QF rfl) ?_
  refine Qb (Ql (Jo rfl rfl) (decide_eq_true (by omega))) ?_
  refine Qb (Qy rfl rfl) ?_
  refine Qh (hw.comes) rfl rfl rfl fun _ => ?_
  refine yS rfl ?_
  refine yN ?_
  refine Qs ?_
  exact Qu rfl rfl fun w s => ⟨(), rfl, s.res (List.nil_sublist _) (by simp)⟩
 have hw := Zp false 3
 rw [show YM x 2 = 0 from if_neg (fun h' => h h'.2)]
 cases b
 ·refine Qk Tryz.func179 rfl (n := 18) rfl rfl ?_
  intro W
  refine yR ?_
  refine yS rfl ?_
  refine yN ?_
  refine yR ?_
  refine yM rfl ?_
  refine Qb (QA rfl) ?_
  refine Qb (Qe rfl) ?_
  refine Qb (Qe rfl) ?_
  refine Qb (Ql (Qf rfl) hb) ?_
  refine yM rfl ?_
  refine Qg ?_
  refine Qg ?_
  refine Qg ?_
  refine Qg ?_
  refine Qg ?_
  refine Qg ?_
  refine Qg ?_
  refine Qb (Qy rfl rfl) ?_
  refine Qh (hw.comes) rfl rfl rfl fun _ => ?_
  refine yS rfl ?_
  refine yN ?_
  refine Qs ?_
  exact Qu rfl rfl fun w s => ⟨(), rfl, s.res (List.nil_sublist _) (by simp)⟩
 refine Qk Tryz.func179 rfl (n := 18) rfl rfl ?_
 intro W
 refine yR ?_
 refine yS rfl ?_
 refine yN ?_
 refine yR ?_
 refine yM rfl ?_
 refine Qb (QA rfl) ?_
 refine Qb (Qe rfl) ?_
 refine Qb (Qe rfl) ?_
 refine Qb (Ql (Qf rfl) hb) ?_
 refine yM rfl ?_
 refine yM rfl ?_
 refine Qb (QA rfl) ?_
 refine Qb (Qe rfl) ?_
 refine Qb (Qe rfl) ?_
 refine Qb (Qf rfl) ?_
 refine Qb (QF rfl) ?_
 refine Qb (Ql (Jo rfl rfl) (decide_eq_false (by omega))) ?_
 refine Qb (Qy rfl rfl) ?_
 refine Qh (hw.comes) rfl rfl rfl fun _ => ?_
 refine yS rfl ?_
 refine yN ?_
 refine Qs ?_
 exact Qu rfl rfl fun w s => ⟨(), rfl, s.res (List.nil_sublist _) (by simp)⟩
end
def ZF (n : Nat) (present : Bool) (vb : List UInt8) : B32 := if present then Jj n (JK vb) else QN
section
variable (n : Nat) (hn : n ≤ 256) (h : Zh) [hT : RdZ h (some ⟨1, 0, none⟩) Jd] (gh gc k g : Nat) (hk : k ≤ 1000000000) (x : Chk) (hxh : x.h = some ⟨gh, 0, none⟩) (kb vb : List UInt8) [hK : SlZ h x.c.key kb] (hkl : kb.length = 32)
include hn hk hxh hkl
theorem QcK [hV : SlZ h x.c.value vb] (hvl : vb.length ≤ 100000000) : QC Tryz.prog 122 [.pointer (some ⟨g, 0, none⟩)].toArray [HR gh gc n, .zone false h, .rd (some ⟨g, 0, none⟩) x.cells] [CN gc k] (fun _ : Unit => .bool (qt x.p (keyOf kb) (ZF n x.c.present vb) x.c.present)) (fun _ => [CN gc (k + if x.c.present then 1 else 0)]) := by
 have hkn := hK.len
 have hvn := hV.len
 have hKr : RdZ h x.c.key.A (keyOf kb).cells := by rw [Yu hkl]; exact hK.rd
 have hVr : RdZ h x.c.value.A (bc vb) := hV.rd
 have hVn := hV.nil
 obtain ⟨⟨⟩, xr, ⟨⟨kA, kn, kc⟩, ⟨vA, vn, vc⟩, pr⟩, xb, xp⟩ := x
 ·cases hxh
 injection hxh with hxh
 subst hxh
 dsimp only at hkn hvn hKr hVr hVn ⊢
 subst hkn hvn
 obtain ⟨bK, oK, rfl, -⟩ := hKr.at_ 0 _ (List.getElem?_eq_getElem (by rw [B32.cells_length]; omega))
 cases pr
 ·refine Qk Tryz.func122 rfl (n := 38) rfl rfl ?_
  intro W
  refine yR ?_
  refine yS rfl ?_
  refine yN ?_
  refine yR ?_
  refine Qo (Q0) fun g3 => ?_
  refine yN ?_
  refine Qd ?_
  refine yR ?_
  refine yM rfl ?_
  refine Qb (QA rfl) ?_
  refine Qb (Qe rfl) ?_
  refine Qb (Qe rfl) ?_
  refine Qb (Qf rfl) ?_
  refine yN ?_
  refine Qt rfl ?_
  refine Qn ?_
  refine Qc ?_
  refine Qd ?_
  refine Q1 [.rd (some ⟨g, 0, none⟩) (Chk.cells ⟨some ⟨gh, 0, none⟩, xr, ⟨⟨some ⟨bK, oK, none⟩, kb.length, kc⟩, ⟨vA, vb.length, vc⟩, false⟩, xb, xp⟩), .zone false h, .blk g3 QN.cells 45] [] QJ (same) ?_
  refine Qa 0 rfl (Qi rfl) ?_
  refine Qa 1 rfl (QA rfl) ?_
  refine Qa 2 rfl (Qe rfl) ?_
  refine Qp 3 rfl (Qm rfl) ?_
  refine Qa 4 rfl (Qi rfl) ?_
  refine Qa 5 rfl (QA rfl) ?_
  refine Qa 6 rfl (Qe rfl) ?_
  refine Qa 7 rfl (Qe rfl) ?_
  refine Qp 8 rfl (Qf rfl) ?_
  refine Qa 9 rfl (VJ rfl (hm := show 32 ≤ kb.length by omega)) ?_
  refine Qp 10 rfl (Qm rfl) ?_
  refine Qp 11 rfl (Qm rfl) ?_
  refine Qa 12 rfl (Qi rfl) ?_
  refine Qa 13 rfl (QA rfl) ?_
  refine Qa 14 rfl (Qe rfl) ?_
  refine Qa 15 rfl (Qe rfl) ?_
  refine Qp 16 rfl (Qf rfl) ?_
  refine Qv 17 ?_
  refine QR 17 rfl ((QbU xp (keyOf kb) QN false).comes) rfl rfl rfl (fun xx => same) fun _ => ?_
  refine Qa 18 rfl (Q6 rfl) ?_
  refine QB (by kernel_rfl) ?_
  refine Qc ?_
  refine Qs ?_
  exact Qu rfl rfl fun w s => ⟨(), rfl, (same (L' := [CN gc k]) w s).res (List.Sublist.refl _) (by simp [Fa.wr])⟩
 refine Qk Tryz.func122 rfl (n := 38) rfl rfl ?_
 intro W
 refine yR ?_
 refine yS rfl ?_
 refine yN ?_
 refine yR ?_
 refine Qo (Q0) fun g3 => ?_
 refine yN ?_
 refine Qd ?_
 refine yR ?_
 refine yM rfl ?_
 refine Qb (QA rfl) ?_
 refine Qb (Qe rfl) ?_
 refine Qb (Qe rfl) ?_
 refine Qb (Qf rfl) ?_
 refine yN ?_
 refine Qz rfl ?_
 refine Q1 [.rd (some ⟨g, 0, none⟩) (Chk.cells ⟨some ⟨gh, 0, none⟩, xr, ⟨⟨some ⟨bK, oK, none⟩, kb.length, kc⟩, ⟨vA, vb.length, vc⟩, true⟩, xb, xp⟩), .zone false h] [] QJ (same) ?_
 refine Qa 0 rfl (Qi rfl) ?_
 refine Qa 1 rfl (QA rfl) ?_
 refine Qa 2 rfl (Qe rfl) ?_
 refine Qp 3 rfl (Qf rfl) ?_
 refine Qa 4 rfl (Qi rfl) ?_
 refine Qa 5 rfl (QA rfl) ?_
 refine Qa 6 rfl (Qe rfl) ?_
 refine Qa 7 rfl (Qe rfl) ?_
 refine Qp 8 rfl (Qf rfl) ?_
 refine Qv 9 ?_
 refine QR 9 rfl ((Qa7 vb vA vc (fun e => by have := hVn e; omega) hvl).comes) rfl rfl rfl (fun xx => same) fun ⟨g18, c18⟩ => ?_
 refine Qv 10 ?_
 refine QR 10 rfl ((VP n hn gh gc k (by omega) (JK vb) (some ⟨g18, 0, none⟩) c18 (fun h => by cases h) (by show vb.length + 1 ≤ _; omega)).comes) rfl rfl rfl (fun xx => same) fun _ => ?_
 refine Qv 11 ?_
 refine J4 11 rfl (Qw rfl rfl) ?_
 refine Qc ?_
 refine Qd ?_
 refine Q1 [.rd (some ⟨g, 0, none⟩) (Chk.cells ⟨some ⟨gh, 0, none⟩, xr, ⟨⟨some ⟨bK, oK, none⟩, kb.length, kc⟩, ⟨vA, vb.length, vc⟩, true⟩, xb, xp⟩), .zone false h, .blk g3 (Jj n (JK vb)).cells 45] [] QJ (same) ?_
 refine Qa 0 rfl (Qi rfl) ?_
 refine Qa 1 rfl (QA rfl) ?_
 refine Qa 2 rfl (Qe rfl) ?_
 refine Qp 3 rfl (Qm rfl) ?_
 refine Qa 4 rfl (Qi rfl) ?_
 refine Qa 5 rfl (QA rfl) ?_
 refine Qa 6 rfl (Qe rfl) ?_
 refine Qa 7 rfl (Qe rfl) ?_
 refine Qp 8 rfl (Qf rfl) ?_
 refine Qa 9 rfl (VJ rfl (hm := show 32 ≤ kb.length by omega)) ?_
 refine Qp 10 rfl (Qm rfl) ?_
 refine Qp 11 rfl (Qm rfl) ?_
 refine Qa 12 rfl (Qi rfl) ?_
 refine Qa 13 rfl (QA rfl) ?_
 refine Qa 14 rfl (Qe rfl) ?_
 refine Qa 15 rfl (Qe rfl) ?_
 refine Qp 16 rfl (Qf rfl) ?_
 refine Qv 17 ?_
 refine QR 17 rfl ((QbU xp (keyOf kb) (Jj n (JK vb)) true).comes) rfl rfl rfl (fun xx => same) fun _ => ?_
 refine Qa 18 rfl (Q6 rfl) ?_
 refine QB (by kernel_rfl) ?_
 refine Qc ?_
 refine Qs ?_
 exact Qu rfl rfl fun w s => ⟨(), rfl, (same (L' := [CN gc (k + 1)]) w s).res (List.Sublist.refl _) (by simp [Fa.wr])⟩
def qy (n : Nat) (p : DP) (key : B32) : B32 := Jj n (Jw n key (Vo (Jj n Yw) p.bm p.ss p.d) (J9 (p.pr none 0)) p.d)
theorem QhQ (rb : List UInt8) [hR : SlZ h x.root rb] (hrl : rb.length = 32) (p : DP) (A : Option Addr) (c : Nat) (hp : x.p = p.pr A c) (hck : Jk (p.pr none 0) = 0) [hS : RdZ h A (dgs p.ss)] : QC Tryz.prog 123 [.pointer (some ⟨g, 0, none⟩)].toArray [HR gh gc n, .zone false h, .rd (some ⟨g, 0, none⟩) x.cells] [CN gc k] (fun _ : Unit => .bool (decide (qy n p (keyOf kb) = keyOf rb))) (fun _ => [CN gc (k + 1 + p.d + 1)]) := by
 have hkn := hK.len
 have hrn := hR.len
 have hKr : RdZ h x.c.key.A (keyOf kb).cells := by rw [Yu hkl]; exact hK.rd
 have hRr : RdZ h x.root.A (keyOf rb).cells := by rw [Yu hrl]; exact hR.rd
 have hRo := Qp3 (p.pr A c) hck p.ss rfl (keyOf kb) n hn gh gc k (by omega) p.d rfl
 change QC _ _ _ _ _ (fun _ : Unit => .tuple #[.agg (qy n p (keyOf kb)).cells.toArray, .int .i64 0]) (fun _ => [CN gc (k + 1 + p.d + 1)]) at hRo
 obtain ⟨⟨⟩, ⟨rA, rn, rc⟩, ⟨⟨kA, kn, kc⟩, xv, pr⟩, xb, xp⟩ := x
 ·cases hxh
 injection hxh with hxh
 subst hxh
 dsimp only at hkn hrn hKr hRr hp ⊢
 subst hkn hrn hp
 obtain ⟨bK, oK, rfl, -⟩ := hKr.at_ 0 _ (List.getElem?_eq_getElem (by rw [B32.cells_length]; omega))
 obtain ⟨bR, oR, rfl, -⟩ := hRr.at_ 0 _ (List.getElem?_eq_getElem (by rw [B32.cells_length]; omega))
 refine Qk Tryz.func123 rfl (n := 36) rfl rfl ?_
 intro W
 refine yR ?_
 refine yS rfl ?_
 refine yN ?_
 refine Qd ?_
 refine QaY (fun (u : Nat) => [(3, .pointer (some ⟨u, 0, none⟩)), (4, .int .i64 0), (0, .pointer (some ⟨g, 0, none⟩))]) (fun (u : Nat) => [.blk u (qy n p (keyOf kb)).cells 45, CN gc (k + 1 + p.d + 1), HR gh gc n, .zone false h, .rd (some ⟨g, 0, none⟩) (Chk.cells ⟨some ⟨gh, 0, none⟩, ⟨some ⟨bR, oR, none⟩, rb.length, rc⟩, ⟨⟨some ⟨bK, oK, none⟩, kb.length, kc⟩, xv, pr⟩, xb, p.pr A c⟩)]) (fun kk => ?_) ?_
 ·refine Q1 [.rd (some ⟨g, 0, none⟩) (Chk.cells ⟨some ⟨gh, 0, none⟩, ⟨some ⟨bR, oR, none⟩, rb.length, rc⟩, ⟨⟨some ⟨bK, oK, none⟩, kb.length, kc⟩, xv, pr⟩, xb, p.pr A c⟩), .zone false h] [] QJ (same) ?_
  refine Qa 0 rfl (Qi rfl) ?_
  refine Qa 1 rfl (QA rfl) ?_
  refine Qa 2 rfl (Qe rfl) ?_
  refine Qp 3 rfl (Qf rfl) ?_
  refine Qa 4 rfl (Qi rfl) ?_
  refine Qa 5 rfl (QA rfl) ?_
  refine Qa 6 rfl (Qe rfl) ?_
  refine Qp 7 rfl (Qm rfl) ?_
  refine Qa 8 rfl (Qi rfl) ?_
  refine Qa 9 rfl (QA rfl) ?_
  refine Qa 10 rfl (Qe rfl) ?_
  refine Qa 11 rfl (Qe rfl) ?_
  refine Qp 12 rfl (Qf rfl) ?_
  refine Qa 13 rfl (VJ rfl (hm := show 32 ≤ kb.length by omega)) ?_
  refine Qp 14 rfl (Qm rfl) ?_
  refine V1 15 19 ?_ ?_
  ·refine QR 15 rfl ((hRo.comes (hr := inferInstanceAs (Rds _ [HR gh gc n, .rd A (dgs p.ss), TBL])))) rfl rfl rfl (fun xx => same) fun _ => ?_
   refine Qa 16 rfl (Qi rfl) ?_
   refine Qa 17 rfl (Qj rfl rfl) ?_
   refine Qa 18 rfl (Qj rfl rfl) ?_
   refine Qv 19 ?_
   refine JB 19 rfl (rk (Q0)) (fun _ => same) fun g3 => ?_
   refine Qv 20 ?_
   refine Qay 20 rfl (Qw rfl rfl) (same) ?_
   refine Qa 21 rfl (Q6 rfl) ?_
   exact QB (by kernel_rfl) (h_K (kk g3) (⟨rfl, rfl, rfl, trivial⟩) same)
  refine JB 19 rfl (rk (Q0)) (fun _ => same) fun g3 => ?_
  refine Qv 15 ?_
  refine QR 15 rfl ((hRo.comes (hr := inferInstanceAs (Rds _ [HR gh gc n, .rd A (dgs p.ss), TBL])))) rfl rfl rfl (fun xx => same) fun _ => ?_
  refine Qa 16 rfl (Qi rfl) ?_
  refine Qa 17 rfl (Qj rfl rfl) ?_
  refine Qa 18 rfl (Qj rfl rfl) ?_
  refine Qv 20 ?_
  refine Qay 20 rfl (Qw rfl rfl) (same) ?_
  refine Qa 21 rfl (Q6 rfl) ?_
  exact QB (by kernel_rfl) (h_K (kk g3) (⟨rfl, rfl, rfl, trivial⟩) same)
 rintro g3
 refine Qc ?_
 refine Qd ?_
 refine Q1 [.rd (some ⟨g, 0, none⟩) (Chk.cells ⟨some ⟨gh, 0, none⟩, ⟨some ⟨bR, oR, none⟩, rb.length, rc⟩, ⟨⟨some ⟨bK, oK, none⟩, kb.length, kc⟩, xv, pr⟩, xb, p.pr A c⟩), .zone false h, .blk g3 (qy n p (keyOf kb)).cells 45] [] QJ (same) ?_
 refine Qa 0 rfl (Qi rfl) ?_
 refine Qa 1 rfl (Ql (QG rfl rfl) rfl) ?_
 refine Qa 2 rfl (Qi rfl) ?_
 refine Qp 3 rfl (Qm rfl) ?_
 refine Qa 4 rfl (Qi rfl) ?_
 refine Qa 5 rfl (QA rfl) ?_
 refine Qa 6 rfl (Qe rfl) ?_
 refine Qp 7 rfl (Qf rfl) ?_
 refine Qa 8 rfl (VJ rfl (hm := show 32 ≤ rb.length by omega)) ?_
 refine Qp 9 rfl (Qm rfl) ?_
 refine Qa 10 rfl (ZL rfl rfl) ?_
 refine Qa 11 rfl (Qy rfl rfl) ?_
 refine Qa 12 rfl (Q6 rfl) ?_
 refine QB (by kernel_rfl) ?_
 refine Qc ?_
 refine Qs ?_
 exact Qu rfl rfl fun w s => ⟨(), rfl, (same (L' := [CN gc (k + 1 + p.d + 1)]) w s).res (List.Sublist.refl _) (by simp [Fa.wr])⟩
end
end
section
open Go.RowKit
def u8n (k : Nat) : UInt8 := UInt8.ofNat k
def Qap (k d : Nat) (lf : Leaf) (bm : B32) (ss : List B32) : List UInt8 := [1, u8n k, u8n (d / 256), u8n d] ++ (bm.1 ++ ((if k = 1 then lf.key.1 ++ lf.value.1 else []) ++ ss.flatMap (·.1)))
theorem flat_len (l : List B32) : (l.flatMap (·.1)).length = 32 * l.length := by
 induction l with
 | nil => rfl
 | cons x l ih => rw [List.flatMap_cons, List.length_append, ih, x.2, List.length_cons]; omega
def QgQ (k m : Nat) : Nat := 36 + (if k = 1 then 64 else 0) + 32 * m
theorem Qfk (k d : Nat) (lf : Leaf) (bm : B32) (ss : List B32) : (Qap k d lf bm ss).length = QgQ k ss.length := by
 unfold Qap QgQ
 have h1 := bm.2
 have h2 := lf.key.2
 have h3 := lf.value.2
 have h4 := flat_len ss
 split <;> simp only [List.length_append, List.length_cons, List.length_nil, h1, h2, h3, h4] <;> omega
theorem QaW (b : B32) : (Jl b).length ≤ 256 := Nat.le_trans (List.length_filter_le _ _) (by rw [List.length_range]; exact Nat.le_refl _)
theorem Qnr (p : Proof) (k : Nat) (hc : Jk p = 0) (hk : p.kind = (k : Int)) (hk1 : k = 0 ∨ k = 1) : QC Tryz.prog 96 [.agg p.cells.toArray].toArray [] [] (fun _ : Unit => .int .i64 ((QgQ k p.sibs.n : Nat) : Int)) (fun _ => []) := by
 have hC := Zs p
 rw [hc] at hC
 have hsb : p.sibs.n ≤ 256 := QbI hc ▸ QaW p.bitmap
 refine Qk Tryz.func96 rfl (n := 24) rfl rfl ?_
 intro W
 refine yR ?_
 refine Qo (Q9 rfl) fun g1 => ?_
 refine yS rfl ?_
 refine yN ?_
 refine Qd ?_
 refine yR ?_
 refine Qb (Qm rfl) ?_
 refine Qh (hC.comes) rfl rfl rfl fun _ => ?_
 refine Qb (QL rfl rfl) ?_
 refine yN ?_
 refine Ys rfl ((fun h => h rfl)) ?_
 rcases hk1 with rfl | rfl
 ·refine Qn ?_
  refine Qc ?_
  refine yR ?_
  refine yS rfl ?_
  refine yN ?_
  refine Qd ?_
  refine yR ?_
  refine Qb (Qe rfl) ?_
  refine Qb (Qf rfl) ?_
  refine yN ?_
  refine Qq ?_
  refine Qd ?_
  refine Qq ?_
  refine Qd ?_
  refine Qq ?_
  refine Qd ?_
  refine Qd ?_
  refine yR ?_
  refine Qb (Ql (QG rfl rfl) (decide_eq_false (by omega))) ?_
  refine yS rfl ?_
  refine yN ?_
  refine Qt rfl ?_
  refine Qn ?_
  refine Qc ?_
  refine yR ?_
  refine Qb (Ql (QG rfl rfl) (decide_eq_true (by omega))) ?_
  refine yS rfl ?_
  refine yN ?_
  refine Qz rfl ?_
  refine QK ?_
  refine Qx ?_
  refine QlT (by decide) ?_
  refine Qx ?_
  refine Q8 ?_
  refine Qc ?_
  refine yR ?_
  refine yM rfl ?_
  refine Qb (Qe rfl) ?_
  refine Qb (Qf rfl) ?_
  refine Qb (QF rfl) ?_
  refine Qb (QI rfl rfl) ?_
  refine Qb (qR rfl rfl) ?_
  refine Qb (QI rfl rfl) ?_
  refine Qb (QI rfl rfl) ?_
  refine yS rfl ?_
  refine yN ?_
  refine QK ?_
  refine Q8 ?_
  refine Qc ?_
  refine yR ?_
  refine yM rfl ?_
  refine yS rfl ?_
  refine yN ?_
  refine Qs ?_
  exact Qu rfl (aI rfl (by show _ = ((36 + 0 + 32 * p.sibs.n : Nat) : Int); omega)) fun w s => ⟨(), rfl, s.res (List.nil_sublist _) (by simp)⟩
 refine Qn ?_
 refine Qc ?_
 refine yR ?_
 refine yS rfl ?_
 refine yN ?_
 refine Qd ?_
 refine yR ?_
 refine Qb (Qe rfl) ?_
 refine Qb (Qf rfl) ?_
 refine yN ?_
 refine Qq ?_
 refine Qd ?_
 refine Qq ?_
 refine Qd ?_
 refine Qq ?_
 refine Qd ?_
 refine Qd ?_
 refine yR ?_
 refine Qb (Ql (QG rfl rfl) (decide_eq_true (by omega))) ?_
 refine yS rfl ?_
 refine yN ?_
 refine Qz rfl ?_
 refine QK ?_
 refine Qx ?_
 refine Qx ?_
 refine Q8 ?_
 refine Qc ?_
 refine Q5 ?_
 refine yM rfl ?_
 refine Qb (QI rfl rfl) ?_
 refine yS rfl ?_
 refine QE ?_
 refine Q2 ?_
 refine Qc ?_
 refine yR ?_
 refine yM rfl ?_
 refine Qb (Qe rfl) ?_
 refine Qb (Qf rfl) ?_
 refine Qb (QF rfl) ?_
 refine Qb (QI rfl rfl) ?_
 refine Qb (qR rfl rfl) ?_
 refine Qb (QI rfl rfl) ?_
 refine Qb (QI rfl rfl) ?_
 refine yS rfl ?_
 refine yN ?_
 refine QK ?_
 refine Q8 ?_
 refine Qc ?_
 refine yR ?_
 refine yM rfl ?_
 refine yS rfl ?_
 refine yN ?_
 refine Qs ?_
 exact Qu rfl (aI rfl (by show _ = ((36 + 64 + 32 * p.sibs.n : Nat) : Int); omega)) fun w s => ⟨(), rfl, s.res (List.nil_sublist _) (by simp)⟩
theorem QeU (l : List UInt8) (A : Option Addr) (c : Nat) (h : 2 ≤ l.length) (h0 : l.getD 0 0 ≠ 1) : QC Tryz.prog 62 [.slice A l.length c].toArray [.rd A (bc l)] [] (fun _ : Unit => .tuple #[.int .i64 0, .int .i64 6]) (fun _ => []) := by
 have h0' : ¬ ((l.getD 0 0).toNat : Int) = 1 := fun e => h0 (UInt8.toNat_inj.1 (by rw [show (1 : UInt8).toNat = 1 from rfl]; omega))
 refine Qk Tryz.func62 rfl (n := 17) rfl rfl ?_
 intro W
 refine Jq (φ := ∃ b o, A = some ⟨b, o, none⟩) (fun w s => Rd.some (s.ok (.rd A (bc l)) (by simp)) (by rw [Jt]; omega)) ?_
 rintro ⟨b, o, rfl⟩
 refine yR ?_
 refine yS rfl ?_
 refine yS rfl ?_
 refine yN ?_
 refine Qd ?_
 refine Qq ?_
 refine yR ?_
 refine yM rfl ?_
 refine Qb (QF rfl) ?_
 refine Qb (Ql (QT rfl rfl) (decide_eq_false (by omega))) ?_
 refine yS rfl ?_
 refine yN ?_
 refine Qt rfl ?_
 refine yR ?_
 refine yM rfl ?_
 refine Qb (QQ rfl rfl) ?_
 refine Qb (QX rfl (J1 (l := l) (i := 0) (by omega))) ?_
 refine Qb (Ql (QL rfl rfl) (decide_eq_true h0')) ?_
 refine yS rfl ?_
 refine yN ?_
 refine Qz rfl ?_
 refine yR ?_
 refine yS rfl ?_
 refine yS rfl ?_
 refine yN ?_
 refine Qs ?_
 refine Q3 ?_
 refine Qr ?_
 exact QO rfl rfl rfl fun w s => ⟨(), rfl, s.res (List.nil_sublist _) (by simp)⟩
theorem Qnq (l : List UInt8) (A : Option Addr) (c : Nat) (h : 2 ≤ l.length) (h0 : l.getD 0 0 = 1) : QC Tryz.prog 62 [.slice A l.length c].toArray [.rd A (bc l)] [] (fun _ : Unit => .tuple #[.int .i64 ((l.getD 1 0).toNat : Int), .int .i64 0]) (fun _ => []) := by
 have h0' : ((l.getD 0 0).toNat : Int) = 1 := by rw [h0]; rfl
 refine Qk Tryz.func62 rfl (n := 17) rfl rfl ?_
 intro W
 refine Jq (φ := ∃ b o, A = some ⟨b, o, none⟩) (fun w s => Rd.some (s.ok (.rd A (bc l)) (by simp)) (by rw [Jt]; omega)) ?_
 rintro ⟨b, o, rfl⟩
 refine yR ?_
 refine yS rfl ?_
 refine yS rfl ?_
 refine yN ?_
 refine Qd ?_
 refine Qq ?_
 refine yR ?_
 refine yM rfl ?_
 refine Qb (QF rfl) ?_
 refine Qb (Ql (QT rfl rfl) (decide_eq_false (by omega))) ?_
 refine yS rfl ?_
 refine yN ?_
 refine Qt rfl ?_
 refine yR ?_
 refine yM rfl ?_
 refine Qb (QQ rfl rfl) ?_
 refine Qb (QX rfl (J1 (l := l) (i := 0) (by omega))) ?_
 refine Qb (Ql (QL rfl rfl) (decide_eq_false (fun h => h h0'))) ?_
 refine yS rfl ?_
 refine yN ?_
 refine Qt rfl ?_
 refine Qn ?_
 refine Q2 ?_
 refine Qc ?_
 refine yR ?_
 refine yM rfl ?_
 refine Qb (QQ rfl rfl) ?_
 refine Qb (QX rfl (J1 (l := l) (i := 1) (by omega))) ?_
 refine Qb (Jv (Zj rfl) (show _ = (((l.getD 1 0).toNat : Nat) : Int) from rfl)) ?_
 refine yS rfl ?_
 refine yS rfl ?_
 refine yN ?_
 refine Qs ?_
 exact QO rfl rfl rfl fun w s => ⟨(), rfl, s.res (List.nil_sublist _) (by simp)⟩
end
section
open Go.RowKit
theorem QrE {L : List Fa} {B A1 A2 A3 : Option Addr} {n1 n2 n3 : Nat} {l1 l2 l3 : List UInt8} {c1 c2 c3 : List Value} (e1 : c1 = bc l1) (e2 : c2 = bc l2) (e3 : c3 = bc l3) [h0 : Rd1 L (.rd B (svs [(A1, n1, l1), (A2, n2, l2), (A3, n3, l3)]))] [h1 : Rd1 L (.rd A1 c1)] [h2 : Rd1 L (.rd A2 c2)] [h3 : Rd1 L (.rd A3 c3)] : Rds L (.rd B (svs [(A1, n1, l1), (A2, n2, l2), (A3, n3, l3)]) :: Vc [(A1, n1, l1), (A2, n2, l2), (A3, n3, l3)]) := by
 subst e1 e2 e3
 exact inferInstanceAs (Rds L [.rd B (svs [(A1, n1, l1), (A2, n2, l2), (A3, n3, l3)]), .rd A1 (bc l1), .rd A2 (bc l2), .rd A3 (bc l3)])
def Qco (k d : Nat) (lf : Leaf) (bm : B32) : List UInt8 := [1, u8n k, u8n (d / 256), u8n d] ++ (bm.1 ++ (if k = 1 then lf.key.1 ++ lf.value.1 else []))
def upC (k d : Nat) (lf : Leaf) (bm : B32) (ss : List B32) (i : Nat) : List UInt8 := Qco k d lf bm ++ (ss.take i).flatMap (·.1)
theorem QoK (k d : Nat) (lf : Leaf) (bm : B32) (ss : List B32) : upC k d lf bm ss ss.length = Qap k d lf bm ss := by
 unfold upC Qco Qap
 rw [List.take_length]
 simp only [List.append_assoc]
theorem QmE (k d : Nat) (lf : Leaf) (bm : B32) {ss : List B32} {i : Nat} (h : i < ss.length) : upC k d lf bm ss i ++ (ss.getD i QN).1 = upC k d lf bm ss (i + 1) := by
 unfold upC
 rw [show ss.take (i + 1) = ss.take i ++ [ss.getD i QN] by rw [List.take_add_one, List.getElem?_eq_getElem h, List.getD_eq_getElem?_getD, List.getElem?_eq_getElem h]; rfl, List.flatMap_append, List.flatMap_cons, List.flatMap_nil, List.append_nil, List.append_assoc]
def ZY (k d : Nat) (bm : B32) : List UInt8 := [1, u8n k, u8n (d / 256), u8n d] ++ bm.1
theorem QlH (k d : Nat) (bm : B32) : (ZY k d bm).length = 36 := by unfold ZY; rw [List.length_append, bm.2]; rfl
theorem Qqa (d : Nat) (lf : Leaf) (bm : B32) (ss : List B32) : ZY 0 d bm = upC 0 d lf bm ss 0 := by unfold ZY upC Qco; simp
theorem Qqb (d : Nat) (lf : Leaf) (bm : B32) (ss : List B32) (A : Option Addr) (c : Nat) (B B' : Option Addr) : YH [(A, c, ZY 1 d bm), (B, 32, lf.key.1), (B', 32, lf.value.1)] = upC 1 d lf bm ss 0 := by unfold ZY upC Qco YH; simp
theorem QoL (k d : Nat) (lf : Leaf) (bm : B32) {ss : List B32} {i : Nat} (h : i ≤ ss.length) : (upC k d lf bm ss i).length = (Qco k d lf bm).length + 32 * i := by
 unfold upC
 rw [List.length_append, flat_len, List.length_take, Nat.min_eq_left h]
theorem Qjl (k d : Nat) (lf : Leaf) (bm : B32) : (Qco k d lf bm).length ≤ 100 := by
 unfold Qco
 have h1 := bm.2
 have h2 := lf.key.2
 have h3 := lf.value.2
 split <;> simp only [List.length_append, List.length_cons, List.length_nil, h1, h2, h3] <;> omega
theorem Qi6 (p : Proof) (k d : Nat) (hc : Jk p = 0) (hk : p.kind = (k : Int)) (hd : p.depth = (d : Int)) (hk1 : k = 0 ∨ k = 1) (ss : List B32) (hs : p.sibs.n = ss.length) : QC Tryz.prog 49 [.agg p.cells.toArray].toArray [.rd p.sibs.A (dgs ss)] [] (fun u : Option Addr × Nat => .tuple #[.slice u.1 (Qap k d p.leaf p.bitmap ss).length u.2, .int .i64 0]) (fun u => [.own (.slice u.1 (Qap k d p.leaf p.bitmap ss).length u.2) (Qap k d p.leaf p.bitmap ss).length 5 1 (bc (Qap k d p.leaf p.bitmap ss))]) := by
 have hC := Zs p
 rw [hc] at hC
 have hS := Qnr p k hc hk hk1
 have hsb : p.sibs.n ≤ 256 := QbI hc ▸ QaW p.bitmap
 have hdp := Y5 hc
 have hbm := p.bitmap.2
 have hlk := p.leaf.key.2
 have hlv := p.leaf.value.2
 have hsz : QgQ k p.sibs.n ≤ 100 + 32 * 256 := by unfold QgQ; split <;> omega
 rw [← QoK]
 have hloop := fun i => QoL k d p.leaf p.bitmap (ss := ss) (i := i)
 have hstep := fun i => QmE k d p.leaf p.bitmap (ss := ss) (i := i)
 have hhl := Qjl k d p.leaf p.bitmap
 have hpl := QlH k d p.bitmap
 have hkd : p.cells = Proof.cells ⟨(k : Int), (d : Int), p.leaf, p.bitmap, p.sibs⟩ := by rw [← hk, ← hd]
 rw [hkd] at hC hS ⊢
 generalize QgQ k p.sibs.n = sz at *
 refine Qk Tryz.func49 rfl (n := 57) rfl rfl ?_
 intro W
 refine yR ?_
 refine Qo (Q9 rfl) fun g1 => ?_
 refine yS rfl ?_
 refine yS rfl ?_
 refine yN ?_
 refine Qd ?_
 refine yR ?_
 refine Qb (Qm rfl) ?_
 refine Qh (hC.comes) rfl rfl rfl fun _ => ?_
 refine yS rfl ?_
 refine yN ?_
 refine yR ?_
 refine yM rfl ?_
 refine Qb (QL rfl rfl) ?_
 refine yN ?_
 refine Ys rfl ((fun h => h rfl)) ?_
 refine Qn ?_
 refine Qc ?_
 refine yR ?_
 refine Qb (Qm rfl) ?_
 refine Qh (hS.comes) rfl rfl rfl fun _ => ?_
 refine Qo (QoZ rfl rfl) fun g15 => ?_
 refine yS rfl ?_
 refine yN ?_
 refine Qd ?_
 change H _ _ _ _ _ (.own (.slice (some ⟨g15, 0, none⟩) 0 sz) 0 _ _ (bc []) :: _) _
 refine Q5 ?_
 refine yM rfl ?_
 refine Qb (Qe rfl) ?_
 refine Qb (Qf rfl) ?_
 refine Qb (Zi rfl) ?_
 refine Qb (Qe rfl) ?_
 refine Qb (Qf rfl) ?_
 refine Qb (Qqf rfl rfl) ?_
 refine Qb (Zi rfl) ?_
 refine Qb (Qe rfl) ?_
 refine Qb (Qf rfl) ?_
 refine Qb (Zi rfl) ?_
 refine Qo (qT (ys := [.int .u8 1, .int .u8 ((BitVec.ofNat 8 k).toNat : Int), .int .u8 ((BitVec.ofNat 8 (d / 256)).toNat : Int), .int .u8 ((BitVec.ofNat 8 d).toNat : Int)]) (bc [1, u8n k, u8n (d / 256), u8n d]) rfl rfl (YZ _)) fun g27 => ?_
 refine Qo (Vd (ly := [1, u8n k, u8n (d / 256), u8n d]) rfl rfl (fun h => by cases h) rfl) fun ⟨A28, c28⟩ => ?_
 refine yS rfl ?_
 refine yN ?_
 refine yR ?_
 refine yM rfl ?_
 refine Qb (Qe rfl) ?_
 refine Qb (qr rfl) ?_
 refine Qo (Vd (ly := p.bitmap.1) rfl rfl (fun h => by cases h) hbm (N' := (ZY k d p.bitmap).length) (hN := hpl.symm) (hr := inferInstanceAs (Rd1 _ (.rd _ p.bitmap.cells)))) fun ⟨A32, c32⟩ => ?_
 refine yS rfl ?_
 refine yN ?_
 refine Qd ?_
 refine Qd ?_
 change H _ _ _ _ _ (.own (.slice A32 (ZY k d p.bitmap).length c32) (ZY k d p.bitmap).length _ _ (bc (ZY k d p.bitmap)) :: _) _
 refine Jq (φ := ∃ g, A32 = some ⟨g, 0, none⟩) (fun w s => s.ownSome (N := (ZY k d p.bitmap).length) (c := c32) (by omega)) ?_
 rintro ⟨ga, rfl⟩
 rcases hk1 with rfl | rfl
 ·rw [Qqa d p.leaf p.bitmap ss]
  refine Q5 ?_
  refine Qb (Qe rfl) ?_
  refine Qb (Qf rfl) ?_
  refine Qb (Ql (QG rfl rfl) (show _ = false from rfl)) ?_
  refine yN ?_
  refine Qt rfl ?_
  refine Qn ?_
  refine Qc ?_
  refine Qd ?_
  refine yR ?_
  refine Qb (Qe rfl) ?_
  refine Qb (Qf rfl) ?_
  refine Qb (QF rfl) ?_
  refine yM rfl ?_
  refine yN ?_
  refine Qq ?_
  refine QS (fun (s : Nat × Option Addr × Nat) => s.1 ≤ ss.length) (fun (s : Nat × Option Addr × Nat) => [(48, .int .i64 (s.1 : Int)), (47, .int .i64 (p.sibs.n : Int)), (46, .slice p.sibs.A p.sibs.n p.sibs.c), (5, .slice s.2.1 (upC 0 d p.leaf p.bitmap ss s.1).length s.2.2)]) (fun (s : Nat × Option Addr × Nat) => [.own (.slice s.2.1 (upC 0 d p.leaf p.bitmap ss s.1).length s.2.2) (upC 0 d p.leaf p.bitmap ss s.1).length 5 1 (bc (upC 0 d p.leaf p.bitmap ss s.1)), .rd p.sibs.A (dgs ss)]) (fun (s : Nat × Option Addr × Nat) => ss.length - s.1) (0, some ⟨ga, 0, none⟩, c32) ((show 0 ≤ ss.length from Nat.zero_le _)) ⟨rfl, rfl, rfl, rfl, trivial⟩ (same) ?_
  rintro ⟨i, A, c⟩ hi
  dsimp only at hi ⊢
  have hli := hloop i hi
  refine yR ?_
  refine Qb (QT rfl rfl) ?_
  refine yN ?_
  refine Qd ?_
  refine QU rfl (fun h => ?_) (fun h => ?_)
  ·have hi2 : i < ss.length := by omega
   have hli2 := hloop (i + 1) hi2
   have hst := hstep i hi2
   refine Jq (φ := ∃ b o, p.sibs.A = some ⟨b, o, none⟩) (fun w s => Rd.some (s.ok (.rd p.sibs.A (dgs ss)) (by simp)) (by rw [JI]; omega)) ?_
   rintro ⟨bb, o, hA⟩
   rw [hA]
   refine Qn ?_
   refine Qc ?_
   refine Qd ?_
   refine Qq ?_
   refine yR ?_
   refine Qb (QQ rfl rfl) ?_
   refine Qb (Jm rfl (out := (ss.getD i QN).cells) (B32.cells_length _) (VV hi2)) ?_
   refine Qo (Q0) fun g7 => ?_
   refine Q7 (Qw rfl rfl) ?_
   refine yN ?_
   refine Q5 ?_
   refine yM rfl ?_
   refine Qb (qr rfl) ?_
   refine Qo (Vd (ly := (ss.getD i QN).1) rfl rfl (fun h => by cases h) (ss.getD i QN).2 (N' := (upC 0 d p.leaf p.bitmap ss (i + 1)).length) (hN := by omega) (hr := inferInstanceAs (Rd1 _ (.rd _ (ss.getD i QN).cells)))) fun ⟨A54, c54⟩ => ?_
   refine yS rfl ?_
   refine QE ?_
   refine Q2 ?_
   refine Qc ?_
   refine Q5 ?_
   refine Qb (QI rfl rfl) ?_
   refine yM rfl ?_
   refine QE ?_
   rw [hst, ← hA]
   exact QH (i + 1, A54, c54) ((show i + 1 ≤ ss.length from hi2)) ((show ss.length - (i + 1) < ss.length - i by omega)) ⟨rfl, rfl, rfl, rfl, trivial⟩ (same)
  obtain rfl : i = ss.length := by omega
  refine QK ?_
  refine Qx ?_
  refine Qx ?_
  refine Q8 ?_
  refine Qc ?_
  refine yR ?_
  refine yM rfl ?_
  refine yS rfl ?_
  refine yS rfl ?_
  refine yN ?_
  refine Qs ?_
  exact QO rfl rfl rfl fun w s => ⟨(A, c), rfl, (same (L' := [.own (.slice A (upC 0 d p.leaf p.bitmap ss ss.length).length c) (upC 0 d p.leaf p.bitmap ss ss.length).length 5 1 (bc (upC 0 d p.leaf p.bitmap ss ss.length))]) w s).res (List.Sublist.refl _) (by simp [Fa.wr])⟩
 have hseg := fun g => Qqb d p.leaf p.bitmap ss (some ⟨ga, 0, none⟩) c32 (some ⟨g, 2, none⟩) (some ⟨g, 34, none⟩)
 refine Q5 ?_
 refine Qb (Qe rfl) ?_
 refine Qb (Qf rfl) ?_
 refine Qb (Ql (QG rfl rfl) (show _ = true from rfl)) ?_
 refine yN ?_
 refine Qz rfl ?_
 refine Q1 [] [] QJ (same) ?_
 refine Qa 0 rfl (Qi rfl) ?_
 refine Qa 1 rfl (Qe rfl) ?_
 refine Qa 2 rfl (Qe rfl) ?_
 refine Qa 3 rfl (qr rfl) ?_
 refine Qa 4 rfl (Qe rfl) ?_
 refine Qa 5 rfl (Qe rfl) ?_
 refine Qa 6 rfl (qr rfl) ?_
 refine Qv 7 ?_
 refine JB 7 rfl (rk (qT (ys := [.slice (some ⟨ga, 0, none⟩) (ZY 1 d p.bitmap).length c32, .slice (some ⟨g1, 2, none⟩) 32 32, .slice (some ⟨g1, 34, none⟩) 32 32]) (svs [(some ⟨ga, 0, none⟩, c32, ZY 1 d p.bitmap), (some ⟨g1, 2, none⟩, 32, p.leaf.key.1), (some ⟨g1, 34, none⟩, 32, p.leaf.value.1)]) rfl (by simp only [svs, sv, List.map_cons, List.map_nil, hlk, hlv]) (QaF _))) (fun _ => same) fun g43 => ?_
 refine Qv 8 ?_
 refine QR 8 rfl ((QeG [(some ⟨ga, 0, none⟩, c32, ZY 1 d p.bitmap), (some ⟨g1, 2, none⟩, 32, p.leaf.key.1), (some ⟨g1, 34, none⟩, 32, p.leaf.value.1)] (some ⟨g43, 0, none⟩) 3 (by simp) (by simp [ZE]; omega)).comes (hr := QrE (c1 := bc (ZY 1 d p.bitmap)) (c2 := p.leaf.key.cells) (c3 := p.leaf.value.cells) rfl rfl rfl)) rfl rfl rfl (fun xx => same) fun ⟨A44, c44⟩ => ?_
 refine Qa 9 rfl (Q6 rfl) ?_
 refine QB (by kernel_rfl) ?_
 refine Qc ?_
 dsimp only
 rw [hseg]
 refine Qd ?_
 refine yR ?_
 refine Qb (Qe rfl) ?_
 refine Qb (Qf rfl) ?_
 refine Qb (QF rfl) ?_
 refine yM rfl ?_
 refine yN ?_
 refine Qq ?_
 refine QS (fun (s : Nat × Option Addr × Nat) => s.1 ≤ ss.length) (fun (s : Nat × Option Addr × Nat) => [(48, .int .i64 (s.1 : Int)), (47, .int .i64 (p.sibs.n : Int)), (46, .slice p.sibs.A p.sibs.n p.sibs.c), (5, .slice s.2.1 (upC 1 d p.leaf p.bitmap ss s.1).length s.2.2)]) (fun (s : Nat × Option Addr × Nat) => [.own (.slice s.2.1 (upC 1 d p.leaf p.bitmap ss s.1).length s.2.2) (upC 1 d p.leaf p.bitmap ss s.1).length 5 1 (bc (upC 1 d p.leaf p.bitmap ss s.1)), .rd p.sibs.A (dgs ss)]) (fun (s : Nat × Option Addr × Nat) => ss.length - s.1) (0, A44, c44) ((show 0 ≤ ss.length from Nat.zero_le _)) ⟨rfl, rfl, rfl, rfl, trivial⟩ (same) ?_
 rintro ⟨i, A, c⟩ hi
 dsimp only at hi ⊢
 have hli := hloop i hi
 refine yR ?_
 refine Qb (QT rfl rfl) ?_
 refine yN ?_
 refine Qd ?_
 refine QU rfl (fun h => ?_) (fun h => ?_)
 ·have hi2 : i < ss.length := by omega
  have hli2 := hloop (i + 1) hi2
  have hst := hstep i hi2
  refine Jq (φ := ∃ b o, p.sibs.A = some ⟨b, o, none⟩) (fun w s => Rd.some (s.ok (.rd p.sibs.A (dgs ss)) (by simp)) (by rw [JI]; omega)) ?_
  rintro ⟨bb, o, hA⟩
  rw [hA]
  refine Qn ?_
  refine Qc ?_
  refine Qd ?_
  refine Qq ?_
  refine yR ?_
  refine Qb (QQ rfl rfl) ?_
  refine Qb (Jm rfl (out := (ss.getD i QN).cells) (B32.cells_length _) (VV hi2)) ?_
  refine Qo (Q0) fun g7 => ?_
  refine Q7 (Qw rfl rfl) ?_
  refine yN ?_
  refine Q5 ?_
  refine yM rfl ?_
  refine Qb (qr rfl) ?_
  refine Qo (Vd (ly := (ss.getD i QN).1) rfl rfl (fun h => by cases h) (ss.getD i QN).2 (N' := (upC 1 d p.leaf p.bitmap ss (i + 1)).length) (hN := by omega) (hr := inferInstanceAs (Rd1 _ (.rd _ (ss.getD i QN).cells)))) fun ⟨A54, c54⟩ => ?_
  refine yS rfl ?_
  refine QE ?_
  refine Q2 ?_
  refine Qc ?_
  refine Q5 ?_
  refine Qb (QI rfl rfl) ?_
  refine yM rfl ?_
  refine QE ?_
  rw [hst, ← hA]
  exact QH (i + 1, A54, c54) ((show i + 1 ≤ ss.length from hi2)) ((show ss.length - (i + 1) < ss.length - i by omega)) ⟨rfl, rfl, rfl, rfl, trivial⟩ (same)
 obtain rfl : i = ss.length := by omega
 refine QK ?_
 refine Qx ?_
 refine Qx ?_
 refine Q8 ?_
 refine Qc ?_
 refine yR ?_
 refine yM rfl ?_
 refine yS rfl ?_
 refine yS rfl ?_
 refine yN ?_
 refine Qs ?_
 exact QO rfl rfl rfl fun w s => ⟨(A, c), rfl, (same (L' := [.own (.slice A (upC 1 d p.leaf p.bitmap ss ss.length).length c) (upC 1 d p.leaf p.bitmap ss ss.length).length 5 1 (bc (upC 1 d p.leaf p.bitmap ss ss.length))]) w s).res (List.Sublist.refl _) (by simp [Fa.wr])⟩
end
section
open Go.RowKit
theorem Qkw (l m : List UInt8) : bc (l ++ m) = bc l ++ bc m := by unfold bc; rw [List.map_append]
theorem Qrb {h : Zh} {A : Option Addr} {l m : List UInt8} {c k : Nat} (hr : RdZ h A (bc (l ++ m))) (hk : l.length = k) (hk0 : 0 < k) (hc : k + m.length ≤ c) : RdZ h (cutA A c k 1) (bc m) := by
 unfold cutA
 split
 ·have : m = [] := List.eq_nil_of_length_eq_zero (by omega)
  rw [this]
  exact RdZ.nil _ _
 refine ⟨fun j v hv => ?_⟩
 have h1 := hr.at_ (k + j) v (by rw [Qkw, List.getElem?_append_right (by rw [Jt]; omega), Jt, hk, Nat.add_sub_cancel_left]; exact hv)
 obtain ⟨b, o, rfl, h2⟩ := h1
 exact ⟨b, o + k, by simp [Addr.add_mid], by rw [Nat.add_assoc]; exact h2⟩
section
variable (h : Zh)
theorem qX (x : B32) (r : List UInt8) (A : Option Addr) (c g : Nat) [hr : RdZ h A (bc (x.1 ++ r))] (hc : 32 + r.length ≤ c) (hb : r.length ≤ 1000000000) :
  QC Tryz.prog 63 [.pointer (some ⟨g, 0, none⟩)].toArray [.zone false h] [.blk g [.slice A (32 + r.length) c, .bool false] 134] (fun _ : {y : Option Addr × Nat // RdZ h y.1 (bc r) ∧ r.length ≤ y.2} => .agg x.cells.toArray) (fun y => [.blk g [.slice y.1.1 r.length y.1.2, .bool false] 134]) := by
 have hx := x.2
 have hlen : (bc (x.1 ++ r)).length = 32 + r.length := by rw [Jt, List.length_append, hx]
 obtain ⟨b, o, rfl, -⟩ := hr.at_ 0 _ (List.getElem?_eq_getElem (by omega))
 have hx' : RowAt (bc (x.1 ++ r)) 0 32 x.cells := ⟨fun j v hv => by rw [Qkw, Nat.zero_add]; show (x.cells ++ bc r)[j]? = some v; rw [List.getElem?_append_left (List.getElem?_eq_some_iff.1 hv).1]; exact hv, B32.cells_length x⟩
 have hcz := Qrb hr hx (by omega) hc
 refine Qk Tryz.func63 rfl (n := 28) rfl rfl ?_
 intro W
 refine yR ?_
 refine Qo (Q0) fun g2 => ?_
 refine yN ?_
 refine Qd ?_
 refine yR ?_
 refine yM rfl ?_
 refine Qb (QA rfl) ?_
 refine Qb (Qe rfl) ?_
 refine Qb (Qf rfl) ?_
 refine Qb (QF rfl) ?_
 refine Qb (Ql (QT rfl rfl) (decide_eq_false (by omega))) ?_
 refine yN ?_
 refine Qt rfl ?_
 refine Qn ?_
 refine Qc ?_
 refine yR ?_
 refine yM rfl ?_
 refine Qb (QA rfl) ?_
 refine Qb (Qe rfl) ?_
 refine Qb (Qf rfl) ?_
 refine Qb (VJ rfl) ?_
 refine Qb (Qm rfl) ?_
 refine Q7 (Qw rfl rfl) ?_
 refine yN ?_
 refine yR ?_
 refine yM rfl ?_
 refine yM rfl ?_
 refine Qb (QA rfl) ?_
 refine Qb (Qe rfl) ?_
 refine Qb (Qf rfl) ?_
 refine Qb (QbC (Qb5 rfl rfl) (show _ = Value.slice (cutA (some ⟨b, o, none⟩) c 32 1) r.length (c - 32) by rw [Nat.add_sub_cancel_left])) ?_
 refine Qb (QA rfl) ?_
 refine Qb (Qe rfl) ?_
 refine Q7 (QV rfl rfl rfl) ?_
 refine yN ?_
 refine yR ?_
 refine Qb (Qm rfl) ?_
 refine Q7 (Qw rfl rfl) ?_
 refine yN ?_
 refine Qs ?_
 exact Qu rfl (QZ rfl) fun w s => ⟨⟨(cutA (some ⟨b, o, none⟩) c 32 1, c - 32), hcz, by dsimp only; omega⟩, rfl, (same w s).res (List.Sublist.refl _) (by simp [Fa.wr])⟩
end
end
section
open Go.RowKit
end
end Go.Proofs.YtjhlbbgikccclaaGreatDoor
