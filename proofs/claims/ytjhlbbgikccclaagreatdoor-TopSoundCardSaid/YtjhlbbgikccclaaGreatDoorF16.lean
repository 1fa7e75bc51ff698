/- joined texts -/
import Derived.Test.YtjhlbbgikccclaaGreatDoorF15
import Derived.WideKeyArr
import Derived.WideKeyElems
import Derived.Shelf.GgSortFunc.RowK
import Derived.Shelf.SlSortCmp.WholeK
import Derived.Shelf.SlSortCmp.NoneTotal
set_option linter.all false
namespace Go.Proofs.YtjhlbbgikccclaaGreatDoor
section
open Go.RowKit
theorem ZX : ∀ (f : Nat) (m : List En) (d : Nat), (mkF f m d).cnt ≤ m.length
 | 0, _, _ => Nat.zero_le _
 | f + 1, [], _ => Nat.le_refl _
 | f + 1, [e], _ => Nat.le_refl _
 | f + 1, a :: b :: l, d => by
  have h1 := ZX f (part (a :: b :: l) d false) (d + 1)
  have h2 := ZX f (part (a :: b :: l) d true) (d + 1)
  have h3 := Zf (a :: b :: l) d
  show (mkF f (part (a :: b :: l) d false) (d + 1)).cnt + (mkF f (part (a :: b :: l) d true) (d + 1)).cnt ≤ _
  omega
theorem Qc0 (m : List En) (d : Nat) : (mkT m d).cnt ≤ m.length := ZX _ m d
theorem Qdb (m : List En) (l : List Chg) : (Jb m l).length ≤ m.length + l.length := by
 unfold Jb
 rw [List.length_append, List.length_map]
 have h1 := List.length_filter_le (fun e : En => !Yt l e.key) m
 have h2 := List.length_filter_le (fun c : Chg => !c.del) l
 omega
theorem QkA {n : Nat} {h : Zh} {m : List En} {d : Nat} {p : Option Addr} (ht : TrZ n h (mkT m d) p) (hm : m.length ≠ 1) (hd : d ≤ 256) (b : Bool) : TrZ n h (mkT (part m d b) (d + 1)) (YS h b p) := by
 match m, hm, ht with
 | [], _, ht =>
  rw [Jx] at ht
  obtain rfl : p = none := ht.ok
  rw [show part [] d b = [] from rfl, Jx]
  exact ⟨rfl⟩
 | [_], hm, _ => exact (hm rfl).elim
 | x :: y :: m, _, ht =>
  rw [qZ (by simp) hd] at ht
  cases b
  ·exact TrZ.left ht
  exact TrZ.right ht
structure Mid (n : Nat) (h : Zh) (m : List En) (l : List Chg) (d : Nat) (x : Zh × Option Addr × Option Addr × Nat × List En × List Chg) : Prop where
 le : LeZ h x.1
 tr : TrZ n x.1 (mkT x.2.2.2.2.1 d) x.2.1
 rd : RdZ x.1 x.2.2.1 (Jh x.2.2.2.2.2)
 cap : x.2.2.2.2.2.length ≤ x.2.2.2.1
 al : Alike x.2.2.2.2.1 d
 ne : x.2.2.2.2.1.length ≠ 1
 alc : AlC x.2.2.2.2.2 x.2.2.2.2.1 d
 ord : VQ x.2.2.2.2.2
 pos : 0 < x.2.2.2.2.2.length
 len : x.2.2.2.2.1.length + x.2.2.2.2.2.length ≤ m.length + l.length
 vals : Qb9 x.1 x.2.2.2.2.2
 mv : ∀ e ∈ x.2.2.2.2.1, e.val.length ≤ 10000000
 eq : mkT (Jb x.2.2.2.2.1 x.2.2.2.2.2) d = mkT (Jb m l) d
structure Mid2 (n : Nat) (h : Zh) (m : List En) (l : List Chg) (d : Nat) (x : Zh × Option Addr × Option Addr × Nat × List En × List Chg) : Prop extends Mid n h m l d x where
 two : x.2.2.2.2.1 = [] → 2 ≤ x.2.2.2.2.2.length
theorem Mid2.lt {n : Nat} {h : Zh} {m : List En} {l : List Chg} {d : Nat} {x : Zh × Option Addr × Option Addr × Nat × List En × List Chg} (y : Mid2 n h m l d x) : d < 256 := by
 rcases Nat.lt_or_ge d 256 with h1 | h1
 ·exact h1
 have h2 := VQ.last y.ord y.alc.keys h1
 have h3 := y.al.last h1
 have h4 := y.ne
 have h5 := y.two
 have : x.2.2.2.2.1 = [] := List.eq_nil_of_length_eq_zero (by omega)
 have := h5 this
 omega
section
variable (n : Nat) (hn : n ≤ 256) (gh gc : Nat)
def AP (d : Nat) : Prop := ∀ (m : List En) (l : List Chg) (h : Zh) (k : Nat) (p B : Option Addr) (c : Nat), RdZ h (some ⟨1, 0, none⟩) Jd → TrZ n h (mkT m d) p → RdZ h B (Jh l) → l.length ≤ c → Alike m d → AlC l m d → VQ l → m.length + l.length ≤ 100000 → Qb9 h l → (∀ e ∈ m, e.val.length ≤ 10000000) → k + qi (m.length + l.length) d ≤ 1000000000 →
 QC Tryz.prog 112 [.pointer (some ⟨gh, 0, none⟩), .pointer p, .slice B l.length c, .int .i64 (d : Int)].toArray [HR gh gc n] [.zone true h, CN gc k] (fun u : {u : Zh × Option Addr × Nat // LeZ h u.1 ∧ TrZ n u.1 (mkT (Jb m l) d) u.2.1 ∧ u.2.2 ≤ k + qi (m.length + l.length) d} => .pointer u.1.2.1) (fun u => [.zone true u.1.1, CN gc u.1.2.2])
include hn
theorem QbZ (d : Nat) (hd : d ≤ 256) (hrec : d < 256 → AP n gh gc (d + 1)) : AP n gh gc d := by
 intro m l h k p B c hT ht hB hcap hal halc hord hlen hch hmv hk
 have hkd := qO m hd
 have hK := J3 n h (mkT m d) p
 refine Qk Tryz.func112 rfl (n := 73) rfl rfl ?_
 intro W
 refine yR ?_
 refine yS rfl ?_
 refine yN ?_
 by_cases hl0 : l = []
 ·subst hl0
  rw [QbX]
  refine Qd ?_
  refine Qq ?_
  refine yR ?_
  refine yM rfl ?_
  refine Qb (QF rfl) ?_
  refine Qb (Ql (QG rfl rfl) (show _ = true from rfl)) ?_
  refine yS rfl ?_
  refine yN ?_
  refine Qz rfl ?_
  refine yR ?_
  refine yM rfl ?_
  refine yS rfl ?_
  refine yN ?_
  refine Qs ?_
  refine Q3 ?_
  refine Qr ?_
  exact Qu rfl rfl fun w s => ⟨⟨(h, p, k), LeZ.refl h, ht, Nat.le_add_right _ _⟩, rfl, (same (L' := [.zone true h, CN gc k]) w s).res (List.Sublist.refl _) (by simp [Fa.wr])⟩
 have hlp : 0 < l.length := List.length_pos_iff.2 hl0
 obtain ⟨b, o, rfl, -⟩ := hB.at_ 0 _ (List.getElem?_eq_getElem (by rw [Y4]; omega))
 refine Qln (fun (u : {x : Zh × Option Addr × Option Addr × Nat × List En × List Chg // Mid n h m l d x}) => [(0, .pointer (some ⟨gh, 0, none⟩)), (1, .pointer u.1.2.1), (2, .slice u.1.2.2.1 u.1.2.2.2.2.2.length u.1.2.2.2.1), (3, .int .i64 (d : Int))]) (fun (u : {x : Zh × Option Addr × Option Addr × Nat × List En × List Chg // Mid n h m l d x}) => [.zone true u.1.1, CN gc k, HR gh gc n]) (fun kk => ?_) ?_
 ·refine Qq ?_
  refine yR ?_
  refine yM rfl ?_
  refine Qb (QF rfl) ?_
  refine Qb (Ql (QG rfl rfl) (decide_eq_false (by omega))) ?_
  refine yS rfl ?_
  refine yN ?_
  refine Qt rfl ?_
  refine yR ?_
  refine yM rfl ?_
  refine Qh (hK.comes) rfl rfl rfl fun _ => ?_
  by_cases hm1 : m.length = 1
  ·obtain ⟨e, rfl⟩ : ∃ e, m = [e] := List.length_eq_one_iff.1 hm1
   have hev := hmv e (List.mem_singleton.2 rfl)
   rw [J0 e hd] at ht
   obtain ⟨a, ha⟩ := atC e.key hord
   refine Qb (Ql (QG rfl rfl) (decide_eq_true (by rw [hkd]; simp))) ?_
   refine yS rfl ?_
   refine yN ?_
   refine Qz rfl ?_
   cases hh : Yt l e.key
   ·refine Q5 ?_
    refine yM rfl ?_
    refine yM rfl ?_
    refine Qh ((Qkj n h e.key e.val (by omega) p l b o c hlp (by omega) a ha hh).comes) rfl rfl rfl fun ⟨⟨g23, c23⟩, A23, cv⟩ => ?_
    dsimp only
    refine Jp (.slice A23 e.val.length cv) fun h1 Bv cv1 ev hvc _ hvn hz1 hr1 => ?_
    obtain rfl : A23 = Bv := by injection ev
    obtain rfl : cv = cv1 := by injection ev
    refine Jp (.slice (some ⟨g23, 0, none⟩) (l.length + 1) c23) fun h2 B2 c2 e2 hc2 _ _ hz2 hr2 => ?_
    obtain rfl : some ⟨g23, 0, none⟩ = B2 := by injection e2
    obtain rfl : c23 = c2 := by injection e2
    have hsv : SlZ h2 ⟨A23, e.val.length, cv⟩ e.val := SlZ.mono hz2 ⟨rfl, hvc, hvn, hr1⟩
    have hle2 : LeZ h h2 := hz1.trans hz2
    have hml : (l.take a ++ [(⟨⟨⟨e.key, ⟨A23, e.val.length, cv⟩⟩, e.val⟩, false⟩ : Chg)] ++ l.drop a).length = l.length + 1 := by
     rw [List.length_append, List.length_append, List.length_take, List.length_drop, Nat.min_eq_left ha.le]
     have := ha.le
     simp only [List.length_cons, List.length_nil]
     omega
    have hmem : ∀ x ∈ l.take a ++ [(⟨⟨⟨e.key, ⟨A23, e.val.length, cv⟩⟩, e.val⟩, false⟩ : Chg)] ++ l.drop a, x ∈ l ∨ x = ⟨⟨⟨e.key, ⟨A23, e.val.length, cv⟩⟩, e.val⟩, false⟩ := fun x hx => by
     rcases List.mem_append.1 hx with hx | hx
     ·rcases List.mem_append.1 hx with hx | hx
      ·exact .inl (List.mem_of_mem_take hx)
      exact .inr (List.mem_singleton.1 hx)
     exact .inl (List.mem_of_mem_drop hx)
    have hmg := QdT (e := e) (e' := ⟨⟨e.key, ⟨A23, e.val.length, cv⟩⟩, e.val⟩) (l := l) (a := a) rfl rfl hh d
    have hord2 := ha.ord hh ⟨⟨e.key, ⟨A23, e.val.length, cv⟩⟩, e.val⟩ rfl
    generalize l.take a ++ [(⟨⟨⟨e.key, ⟨A23, e.val.length, cv⟩⟩, e.val⟩, false⟩ : Chg)] ++ l.drop a = l2 at *
    have hM : Mid n h [e] l d (h2, none, some ⟨g23, 0, none⟩, c23, [], l2) := ⟨hle2, by rw [Jx]; exact ⟨rfl⟩, hr2, by dsimp only; omega, ⟨by simp, fun _ h => (by cases h)⟩, by simp, halc.mono (fun x hx => by
     obtain ⟨c, hc, rfl⟩ := List.mem_map.1 (by simpa using hx : x ∈ l2.map Chg.key)
     rcases hmem c hc with h3 | h3
     ·exact List.mem_append_left _ (List.mem_map_of_mem h3)
     ·rw [h3]; exact List.mem_append_right _ (by simp)), hord2, by dsimp only; omega, by dsimp only; simp; omega, (fun c hc => by
     rcases hmem c hc with h3 | h3
     ·exact ⟨(hch c h3).1.mono hle2, (hch c h3).2⟩
     rw [h3]; exact ⟨hsv, hev⟩), (fun _ h => (by cases h)), hmg⟩
    refine yS rfl ?_
    refine yS rfl ?_
    refine QE ?_
    refine Q2 ?_
    refine Qc ?_
    exact h_K (kk ⟨_, hM⟩) (⟨rfl, rfl, aV rfl (by rw [hml]), rfl, trivial⟩) same
   refine Q5 ?_
   refine yM rfl ?_
   refine yM rfl ?_
   refine Qh ((Qiz n h e.key e.val (by omega) p l b o c (by omega) a ha hh).comes) rfl rfl rfl fun _ => ?_
   refine yS rfl ?_
   refine yS rfl ?_
   refine QE ?_
   refine Q2 ?_
   refine Qc ?_
   exact h_K (kk ⟨(h, none, some ⟨b, o, none⟩, c, [], l), ⟨LeZ.refl h, by rw [Jx]; exact ⟨rfl⟩, hB, hcap, ⟨by simp, fun _ h => (by cases h)⟩, by simp, halc.mono (fun x hx => List.mem_append_left _ (by simpa using hx)), hord, hlp, by dsimp only; simp, hch, (fun _ h => (by cases h)), by dsimp only; rw [Qg2 hh]⟩⟩) (⟨rfl, rfl, rfl, rfl, trivial⟩) same
  refine Qb (Ql (QG rfl rfl) (decide_eq_false (by rw [hkd]; omega))) ?_
  refine yS rfl ?_
  refine yN ?_
  refine Qt rfl ?_
  refine Qn ?_
  refine Q2 ?_
  refine Qc ?_
  exact h_K (kk ⟨(h, p, some ⟨b, o, none⟩, c, m, l), ⟨LeZ.refl h, ht, hB, hcap, hal, hm1, halc, hord, hlp, Nat.le_refl _, hch, hmv, rfl⟩⟩) (⟨rfl, rfl, rfl, rfl, trivial⟩) same
 rintro ⟨⟨h1, q, B1, c1, m1, l1⟩, M⟩
 have hlz : LeZ h h1 := M.le
 have htr : TrZ n h1 (mkT m1 d) q := M.tr
 have hrd : RdZ h1 B1 (Jh l1) := M.rd
 have hcp : l1.length ≤ c1 := M.cap
 have hne : m1.length ≠ 1 := M.ne
 have hps : 0 < l1.length := M.pos
 have hln : m1.length + l1.length ≤ m.length + l.length := M.len
 have hvs : Qb9 h1 l1 := M.vals
 have heq : mkT (Jb m1 l1) d = mkT (Jb m l) d := M.eq
 obtain ⟨b1, o1, rfl, -⟩ := hrd.at_ 0 _ (List.getElem?_eq_getElem (by rw [Y4]; omega))
 have hT1 : RdZ h1 (some ⟨1, 0, none⟩) Jd := hT.mono hlz
 dsimp only
 refine Qln (fun (u : {x : Zh × Option Addr × Option Addr × Nat × List En × List Chg // Mid2 n h m l d x}) => [(0, .pointer (some ⟨gh, 0, none⟩)), (1, .pointer u.1.2.1), (2, .slice u.1.2.2.1 u.1.2.2.2.2.2.length u.1.2.2.2.1), (3, .int .i64 (d : Int))]) (fun (u : {x : Zh × Option Addr × Option Addr × Nat × List En × List Chg // Mid2 n h m l d x}) => [.zone true u.1.1, CN gc k, HR gh gc n]) (fun kk => ?_) ?_
 ·by_cases hm1 : m1 = []
  ·subst hm1
   rw [Jx] at htr
   obtain rfl : q = none := htr.ok
   refine yR ?_
   refine yM rfl ?_
   refine Qb (J2 rfl rfl) ?_
   refine yN ?_
   refine Qz rfl ?_
   refine yR ?_
   refine yM rfl ?_
   refine Qh ((VO l1 b1 o1 c1 hps (by omega)).comes) rfl rfl rfl fun ⟨g27, c27⟩ => ?_
   refine Qh ((Qiw l1 g27 c27 (by omega)).comes) rfl rfl rfl fun _ => ?_
   refine Jp (.slice (some ⟨g27, 0, none⟩) (JG l1).length c27) fun h2 B2 c2 e2 hc2 _ _ hz2 hr2 => ?_
   obtain rfl : some ⟨g27, 0, none⟩ = B2 := by injection e2
   obtain rfl : c27 = c2 := by injection e2
   have hsub : ∀ x ∈ JG l1, x ∈ l1 := fun x hx => (List.mem_filter.1 hx).1
   have hpl : (JG l1).length ≤ l1.length := List.length_filter_le _ _
   have hT2 : RdZ h2 (some ⟨1, 0, none⟩) Jd := hT1.mono hz2
   have hap : Jb [] l1 = (JG l1).map Chg.e := rfl
   by_cases h0 : (JG l1).length = 0
   ·have hz : JG l1 = [] := List.eq_nil_of_length_eq_zero h0
    have hnil : mkT (Jb m l) d = .nil := by rw [← heq, hap, hz]; exact Jx d
    refine yS rfl ?_
    refine yN ?_
    refine yR ?_
    refine yM rfl ?_
    refine Qb (QF rfl) ?_
    refine yN ?_
    refine Qq ?_
    refine yR ?_
    refine Qb (Ql (QG rfl rfl) (decide_eq_true (by omega))) ?_
    refine yS rfl ?_
    refine yN ?_
    refine Qz rfl ?_
    refine yR ?_
    refine yS rfl ?_
    refine yN ?_
    refine Qs ?_
    refine Q3 ?_
    refine Qr ?_
    exact Qu rfl rfl fun w s => ⟨⟨(h2, none, k), hlz.trans hz2, by dsimp only; rw [hnil]; exact ⟨rfl⟩, Nat.le_add_right _ _⟩, rfl, (same (L' := [.zone true h2, CN gc k]) w s).res (List.Sublist.refl _) (by simp [Fa.wr])⟩
   by_cases h1' : (JG l1).length = 1
   ·obtain ⟨x, hx⟩ : ∃ x, JG l1 = [x] := List.length_eq_one_iff.1 h1'
    have hxm := hsub x (by rw [hx]; exact List.mem_singleton.2 rfl)
    have hxv := (hvs x hxm).1.mono hz2
    have hxl := (hvs x hxm).2
    have hone : mkT (Jb m l) d = .leaf x.e.key x.e.val := by rw [← heq, hap, hx]; exact J0 x.e hd
    have hxs : SlZ h2 ⟨x.e.e.value.A, x.e.e.value.n, x.e.e.value.c⟩ x.e.val := hxv
    have hc1 := Qfg 1 (m.length + l.length) d (by omega)
    have hc2 := QiH d hd
    rw [hx] at hr2 ⊢
    refine yS rfl ?_
    refine yN ?_
    refine yR ?_
    refine yM rfl ?_
    refine Qb (QF rfl) ?_
    refine yN ?_
    refine Qq ?_
    refine yR ?_
    refine Qb (Ql (QG rfl rfl) (show _ = false from rfl)) ?_
    refine yS rfl ?_
    refine yN ?_
    refine Qt rfl ?_
    refine yR ?_
    refine Qb (Ql (QG rfl rfl) (show _ = true from rfl)) ?_
    refine yS rfl ?_
    refine yN ?_
    refine Qz rfl ?_
    refine Qd ?_
    refine Q1 [.zone false h2] [] QJ (zbK (LeZ.refl h2)) ?_
    refine Qa 0 rfl (Qi rfl) ?_
    refine Qa 1 rfl (Qi rfl) ?_
    refine Qa 2 rfl (QQ rfl rfl (hm := by simp)) ?_
    refine Qa 3 rfl (Qe rfl) ?_
    refine Qp 4 rfl (Jm rfl (out := x.key.cells) (B32.cells_length _) (Qk8 (l := [x]) (i := 0) rfl)) ?_
    refine Qa 5 rfl (Qi rfl) ?_
    refine Qa 6 rfl (QQ rfl rfl (hm := by simp)) ?_
    refine Qa 7 rfl (Qe rfl) ?_
    refine Qp 8 rfl (QX rfl (Qk9 (l := [x]) (i := 0) rfl)) ?_
    refine Qa 9 rfl (QD (out := Entry.cells ⟨x.key, ⟨x.e.e.value.A, x.e.e.value.n, x.e.e.value.c⟩⟩) rfl) ?_
    refine Qv 10 ?_
    refine QR 10 rfl ((QcZ n hn gh gc k (by omega) h2 x.key ⟨x.e.e.value.A, x.e.e.value.n, x.e.e.value.c⟩ x.e.val (by omega)).comes) rfl rfl rfl (fun xx => zbK xx.2.1) fun ⟨⟨h3, q3⟩, hz3, ht3⟩ => ?_
    refine Qa 11 rfl (Q6 rfl) ?_
    refine QB (by kernel_rfl) ?_
    refine Qc ?_
    dsimp only at hz3 ht3 ⊢
    refine Qs ?_
    refine Q3 ?_
    refine Qr ?_
    exact Qu rfl rfl fun w s => ⟨⟨(h3, q3, k + 2), (hlz.trans hz2).trans hz3, by dsimp only; rw [hone]; exact ht3, by dsimp only; omega⟩, rfl, (same (L' := [.zone true h3, CN gc (k + 2)]) w s).res (List.Sublist.refl _) (by simp [Fa.wr])⟩
   have hM2 : Mid2 n h m l d (h2, none, some ⟨g27, 0, none⟩, c27, [], JG l1) := ⟨⟨hlz.trans hz2, by rw [Jx]; exact ⟨rfl⟩, hr2, hc2, ⟨by simp, fun _ h => (by cases h)⟩, by simp, M.alc.mono (fun x hx => by
    obtain ⟨c, hc, rfl⟩ := List.mem_map.1 (by simpa using hx : x ∈ (JG l1).map Chg.key)
    exact List.mem_append_left _ (List.mem_map_of_mem (hsub c hc))), VQ.sub M.ord List.filter_sublist, by dsimp only; omega, by dsimp only at hln ⊢; simp only [List.length_nil] at hln ⊢; omega, fun c hc => ⟨(hvs c (hsub c hc)).1.mono hz2, (hvs c (hsub c hc)).2⟩, fun _ h => (by cases h), by dsimp only; rw [QdU]; exact heq⟩, fun _ => by dsimp only; omega⟩
   refine yS rfl ?_
   refine yN ?_
   refine yR ?_
   refine yM rfl ?_
   refine Qb (QF rfl) ?_
   refine yN ?_
   refine Qq ?_
   refine yR ?_
   refine Qb (Ql (QG rfl rfl) (decide_eq_false (by omega))) ?_
   refine yS rfl ?_
   refine yN ?_
   refine Qt rfl ?_
   refine yR ?_
   refine Qb (Ql (QG rfl rfl) (decide_eq_false (by omega))) ?_
   refine yS rfl ?_
   refine yN ?_
   refine Qt rfl ?_
   refine Qn ?_
   refine Q2 ?_
   refine Qc ?_
   exact h_K (kk ⟨_, hM2⟩) (⟨rfl, rfl, rfl, rfl, trivial⟩) same
  obtain ⟨g, rfl⟩ : ∃ g, q = some ⟨g, 0, none⟩ := by
   match m1, hm1, hne, htr with
   | [], hm1, _, _ => exact (hm1 rfl).elim
   | [_], _, hne, _ => exact (hne rfl).elim
   | x :: y :: m2, _, _, htr =>
    rw [qZ (by simp) hd] at htr
    obtain ⟨g, _, _, hq, _⟩ := htr.ok
    exact ⟨g, hq⟩
  refine yR ?_
  refine yM rfl ?_
  refine Qb (J2 rfl rfl) ?_
  refine yN ?_
  refine Qt rfl ?_
  refine Qn ?_
  refine Qc ?_
  exact h_K (kk ⟨(h1, some ⟨g, 0, none⟩, some ⟨b1, o1, none⟩, c1, m1, l1), ⟨M, fun h => (hm1 h).elim⟩⟩) (⟨rfl, rfl, rfl, rfl, trivial⟩) same
 rintro ⟨⟨h2, q2, B2, c2, m2, l2⟩, M2⟩
 have hd' := M2.lt
 have hlz2 : LeZ h h2 := M2.le
 have htr2 : TrZ n h2 (mkT m2 d) q2 := M2.tr
 have hrd2 : RdZ h2 B2 (Jh l2) := M2.rd
 have hcp2 : l2.length ≤ c2 := M2.cap
 have hps2 : 0 < l2.length := M2.pos
 have hln2 : m2.length + l2.length ≤ m.length + l.length := M2.len
 have hvs2 : Qb9 h2 l2 := M2.vals
 have hmv2 : ∀ e ∈ m2, e.val.length ≤ 10000000 := M2.mv
 have heq2 : mkT (Jb m2 l2) d = mkT (Jb m l) d := M2.eq
 have hal2 : Alike m2 d := M2.al
 have halc2 : AlC l2 m2 d := M2.alc
 have hord2 : VQ l2 := M2.ord
 have hne2 : m2.length ≠ 1 := M2.ne
 obtain ⟨b2, o2, rfl, -⟩ := hrd2.at_ 0 _ (List.getElem?_eq_getElem (by rw [Y4]; omega))
 have hT2 : RdZ h2 (some ⟨1, 0, none⟩) Jd := hT.mono hlz2
 obtain ⟨mm, e1, e2, e3, e4⟩ := QpC hord2 halc2.keys
 have hS := fun g => Qni (l2.map Chg.key) (some ⟨g, 0, none⟩) l2.length d mm hd' (by rw [List.length_map]; omega) (by rw [List.length_map]; exact e1) e2
 rw [List.length_map] at hS
 have hp := Zf m2 d
 have hlt : (l2.take mm).length = mm := by rw [List.length_take]; omega
 have hcs := Qg9 ((part m2 d false).length + mm) ((part m2 d true).length + (l2.length - mm)) d hd' (by omega)
 have hcl := Qfg ((part m2 d false).length + mm + ((part m2 d true).length + (l2.length - mm))) (m.length + l.length) d (by omega)
 have hL := hrec hd' (part m2 d false) (l2.take mm) h2 k (YS h2 false q2) (some ⟨b2, o2, none⟩) mm hT2 (QkA htr2 hne2 hd false) (QjH Chg.cells_length hrd2 mm) (by omega) (hal2.part false) (by rw [e3]; exact halc2.part false) (hord2.sub (List.take_sublist _ _)) (by omega) (fun c hc => hvs2 c (List.mem_of_mem_take hc)) (fun e he => hmv2 e (Yh.1 he).1) (by rw [hlt]; omega)
 rw [hlt] at hL
 dsimp only
 refine yR ?_
 refine yM rfl ?_
 refine Qh ((Qlv 174 Qrl l2 (some ⟨b2, o2, none⟩) c2 (by omega)).comes) rfl rfl rfl fun g47 => ?_
 refine yM rfl ?_
 refine Qh ((hS g47).comes) rfl rfl rfl fun _ => ?_
 refine yS rfl ?_
 refine yN ?_
 refine Qd ?_
 refine Q1 [] [] QJ (same) ?_
 refine Qa 0 rfl (Qi rfl) ?_
 refine Qa 1 rfl (Qi rfl) ?_
 refine Qa 3 rfl (Qi rfl) ?_
 refine Qa 4 rfl (Qi rfl) ?_
 refine Qa 5 rfl (Qi rfl) ?_
 refine Qa 6 rfl (Qqg rfl rfl rfl) ?_
 refine Qa 7 rfl (Qi rfl) ?_
 refine Qa 8 rfl (Jv (QI rfl rfl) (show _ = ((d + 1 : Nat) : Int) by omega)) ?_
 refine Qv 2 ?_
 refine QR 2 rfl ((Zt n h2 (mkT m2 d) q2 0 false (by simp)).comes) rfl rfl rfl (fun xx => same) fun _ => ?_
 refine Qv 9 ?_
 refine QR 9 rfl (hL.comes) rfl rfl rfl (fun xx => same) fun ⟨⟨h3, q3, k3⟩, hz3, ht3, hk3⟩ => ?_
 refine Qa 10 rfl (Q6 rfl) ?_
 refine QB (by kernel_rfl) ?_
 refine Qc ?_
 dsimp only at hz3 ht3 hk3 ⊢
 have hT3 : RdZ h3 (some ⟨1, 0, none⟩) Jd := hT2.mono hz3
 have hR := hrec hd' (part m2 d true) (l2.drop mm) h3 k3 (YS h2 true q2) (cutA (some ⟨b2, o2, none⟩) c2 mm 34) (c2 - mm) hT3 ⟨(QkA htr2 hne2 hd true).ok.mono hz3⟩ (QjG Chg.cells_length (hrd2.mono hz3) hcp2) (by rw [List.length_drop]; omega) (hal2.part true) (by rw [e4]; exact halc2.part true) (hord2.sub (List.drop_sublist _ _)) (by rw [List.length_drop]; omega) (fun c hc => ⟨(hvs2 c (List.mem_of_mem_drop hc)).1.mono hz3, (hvs2 c (List.mem_of_mem_drop hc)).2⟩) (fun e he => hmv2 e (Yh.1 he).1) (by rw [List.length_drop]; omega)
 rw [List.length_drop] at hR
 refine Qd ?_
 refine Q1 [] [] QJ (same) ?_
 refine Qa 0 rfl (Qi rfl) ?_
 refine Qa 1 rfl (Qi rfl) ?_
 refine Qa 3 rfl (Qi rfl) ?_
 refine Qa 4 rfl (Qi rfl) ?_
 refine Qa 5 rfl (Qb5 rfl rfl) ?_
 refine Qa 6 rfl (Qi rfl) ?_
 refine Qa 7 rfl (Jv (QI rfl rfl) (show _ = ((d + 1 : Nat) : Int) by omega)) ?_
 refine Qv 2 ?_
 refine QR 2 rfl ((Zt n h2 (mkT m2 d) q2 1 true (by simp)).comes) rfl rfl rfl (fun xx => same) fun _ => ?_
 refine Qv 8 ?_
 refine QR 8 rfl (hR.comes) rfl rfl rfl (fun xx => same) fun ⟨⟨h4, q4, k4⟩, hz4, ht4, hk4⟩ => ?_
 refine Qa 9 rfl (Q6 rfl) ?_
 refine QB (by kernel_rfl) ?_
 refine Qc ?_
 dsimp only at hz4 ht4 hk4 ⊢
 have hT4 : RdZ h4 (some ⟨1, 0, none⟩) Jd := hT3.mono hz4
 have ht34 : TrZ n h4 (mkT (Jb (part m2 d false) (l2.take mm)) (d + 1)) q3 := ⟨ht3.ok.mono hz4⟩
 have hn1 := Qc0 (Jb (part m2 d false) (l2.take mm)) (d + 1)
 have hn2 := Qc0 (Jb (part m2 d true) (l2.drop mm)) (d + 1)
 have hn3 := Qdb (part m2 d false) (l2.take mm)
 have hn4 := Qdb (part m2 d true) (l2.drop mm)
 rw [hlt] at hn3
 rw [List.length_drop] at hn4
 have hjc := Qa1 (mkT (Jb (part m2 d false) (l2.take mm)) (d + 1)) (mkT (Jb (part m2 d true) (l2.drop mm)) (d + 1))
 have hjn : YG (mkT (Jb (part m2 d false) (l2.take mm)) (d + 1)) (mkT (Jb (part m2 d true) (l2.drop mm)) (d + 1)) = mkT (Jb m l) d := by rw [e3, e4, QfB hd']; exact heq2
 refine yR ?_
 refine yM rfl ?_
 refine yM rfl ?_
 refine yM rfl ?_
 refine Qh ((QbS n hn gh gc k4 (by omega) h4 (mkT (Jb (part m2 d false) (l2.take mm)) (d + 1)) (mkT (Jb (part m2 d true) (l2.drop mm)) (d + 1)) q3 q4 (by omega)).comes) rfl rfl rfl fun ⟨⟨h5, q5⟩, hz5, ht5⟩ => ?_
 dsimp only at hz5 ht5 ⊢
 rw [hjn] at ht5
 generalize YF (mkT (Jb (part m2 d false) (l2.take mm)) (d + 1)) (mkT (Jb (part m2 d true) (l2.drop mm)) (d + 1)) = jc at *
 refine yS rfl ?_
 refine yN ?_
 refine Qs ?_
 exact Qu rfl rfl fun w s => ⟨⟨(h5, q5, k4 + jc), ((hlz2.trans hz3).trans hz4).trans hz5, ht5, by dsimp only; omega⟩, rfl, (same (L' := [.zone true h5, CN gc (k4 + jc)]) w s).res (List.Sublist.refl _) (by simp [Fa.wr])⟩
theorem Qdc : ∀ (f d : Nat), 256 - d ≤ f → d ≤ 256 → AP n gh gc d
 | 0, d, h, hd => QbZ n hn gh gc d hd fun h' => by omega
 | f + 1, d, h, hd => QbZ n hn gh gc d hd fun h' => Qdc f (d + 1) (by omega) (by omega)
end
end
section
open Go.RowKit
theorem Qd2 {α β : Type} {f : α → Option β} : ∀ {l : List α}, (∀ x ∈ l, ∃ y, f x = some y) → ∃ ys, l.mapM f = some ys
 | [], _ => ⟨[], rfl⟩
 | x :: l, h => by
  obtain ⟨y, hy⟩ := h x (List.mem_cons_self ..)
  obtain ⟨ys, hys⟩ := Qd2 fun z hz => h z (List.mem_cons_of_mem x hz)
  exact ⟨y :: ys, by rw [List.mapM_cons, hy, hys]; rfl⟩
def kvE (k : B32) (i : Nat) : MapEntry := ⟨.agg k.cells.toArray, .bool true, i⟩
def Vq (ks : List B32) : Array MapEntry := (ks.mapIdx fun i k => kvE k i).toArray
theorem Qju (ks : List B32) (k : B32) : Vq (ks ++ [k]) = (Vq ks).push ⟨.agg k.cells.toArray, .bool true, ks.length⟩ := by
 unfold Vq
 rw [List.mapIdx_append]
 simp [kvE]
theorem QfH {ks : List B32} {e : MapEntry} (h : e ∈ (Vq ks).toList) : ∃ k ∈ ks, e.key = .agg k.cells.toArray ∧ e.val = .bool true := by
 unfold Vq at h
 rw [List.mem_mapIdx] at h
 obtain ⟨i, hi, rfl⟩ := h
 exact ⟨_, List.getElem_mem hi, rfl, rfl⟩
theorem Ql4 {ks : List B32} {k : B32} (h : k ∈ ks) : ∃ e ∈ (Vq ks).toList, e.key = .agg k.cells.toArray := by
 obtain ⟨i, hi, e⟩ := List.getElem_of_mem h
 refine ⟨kvE ks[i] i, ?_, by rw [e]; rfl⟩
 unfold Vq
 rw [List.mem_mapIdx]
 exact ⟨i, hi, rfl⟩
theorem Qg5 {a b : B32} (h : a.cells = b.cells) : a = b := Subtype.ext ((List.map_inj_right fun x y e => by injection e with _ e; exact UInt8.toNat_inj.1 (by omega)).1 h)
theorem Qnm {a b : B32} (h : Value.agg a.cells.toArray = .agg b.cells.toArray) : a = b := by
 injection h with h
 have h2 : a.cells = b.cells := by simpa using congrArg Array.toList h
 exact Qg5 h2
class TMapB (P : Program) (t k : outParam TypeId) : Prop where
 hu : ∃ e, P.underlying t = some (.map k e) ∧ ∀ w, (zeroValue e).run P w = .ok (.bool false) w
 law : Go.WideMaps.KeyLaw P k
 key : ∀ x : B32, ∃ l, Go.keyOf P k (.agg x.cells.toArray) = some l
section
variable {P : Program} {A : List Fa} {W : World} {n : Nat} {D : List Deferred} {E : Env} {L M : List Fa} {t k : TypeId} {m x : Operand} {g c : Nat} {ks : List B32} {key : B32}
theorem QjW : JO P A W n D E L (.makeMap t none) (fun g : Nat => .map (some g)) (fun g => .obj g (.map (Vq []) 0) :: L) := fun a w ka s o ho => by
 refine ⟨w.heap.size, _, ?_, s.allocObj _⟩
 unfold execOp
 simp only [ho, Option.map_none, Instr.makeMap, newObj, Sem.run_bind, Sem.run_pure, Result.andThen_ok]
 rfl
theorem Qd1 [hM : TMapB P t k] (w : World) : ((Instr.findKey k (.agg key.cells.toArray) (Vq ks).toList).run P w = .ok none w ∧ key ∉ ks) ∨ ∃ j, (Instr.findKey k (.agg key.cells.toArray) (Vq ks).toList).run P w = .ok (some (j, .bool true)) w ∧ key ∈ ks := by
 obtain ⟨l, hl⟩ := hM.key key
 rcases hM.law.find w hl (Vq ks).toList (fun e he => by obtain ⟨y, -, h2, -⟩ := QfH he; rw [h2]; exact hM.key y) with ⟨h1, h2⟩ | ⟨j, e, h1, h2, h3⟩
 ·refine .inl ⟨h1, fun hk => ?_⟩
  obtain ⟨e, he, h4⟩ := Ql4 hk
  exact h2 e he h4
 obtain ⟨y, hy, h4, h5⟩ := QfH (List.mem_of_getElem? h2)
 rw [h5] at h1
 obtain rfl : y = key := Qnm (h4.symm.trans h3)
 exact .inr ⟨j, h1, hy⟩
theorem Z3 [hM : TMapB P t k] [ht : Take1 (.obj g (.map (Vq ks) c)) L M] (hm : ev E m = some (.map (some g))) (hx : ev E x = some (.agg key.cells.toArray)) : QM P n D E L (.lookup t m x false) (.bool (decide (key ∈ ks))) := fun a w ka s o ho => by
 obtain ⟨e, hu, he⟩ := hM.hu
 obtain ⟨l, hl⟩ := hM.key key
 have hb : w.heap[g]? = some (.map (Vq ks) c) := (s.perm ht.perm).ok (.obj _ _) (List.mem_cons_self ..)
 have hz := he w
 unfold execOp
 simp only [ho, ka.ev hm, ka.ev hx, Sem.run_bind]
 have hgoal : (Instr.lookup t (.map (some g)) (.agg key.cells.toArray) false).run P w = .ok (.bool (decide (key ∈ ks))) w := by
  rcases Qd1 (P := P) (t := t) (k := k) (ks := ks) (key := key) w with ⟨h1, h2⟩ | ⟨j, h1, h2⟩
  ·rw [decide_eq_false h2]
   simp [Instr.lookup, run_underlying hu, Go.MapKept.run_getObj_map hb, hM.law.check w _ hl, h1, hz, Result.andThen]
  rw [decide_eq_true h2]
  simp [Instr.lookup, run_underlying hu, Go.MapKept.run_getObj_map hb, hM.law.check w _ hl, h1, Result.andThen]
 rw [hgoal]
 rfl
theorem QdH [hM : TMapB P t k] [ht : Take1 (.obj g (.map (Vq ks) ks.length)) L M] {y : Operand} (hm : ev E m = some (.map (some g))) (hx : ev E x = some (.agg key.cells.toArray)) (hy : ev E y = some (.bool true)) (hn : key ∉ ks) : Vj P A W n D E L (.mapUpdate t m x y) (.obj g (.map (Vq (ks ++ [key])) (ks ++ [key]).length) :: M) := fun a w ka s o ho => by
 obtain ⟨e, hu, he⟩ := hM.hu
 obtain ⟨l, hl⟩ := hM.key key
 have s2 := s.perm ht.perm
 have hb : w.heap[g]? = some (.map (Vq ks) ks.length) := s2.ok (.obj _ _) (List.mem_cons_self ..)
 have hlt := (Array.getElem?_eq_some_iff.1 hb).1
 have hrun : (Instr.mapUpdate t (.map (some g)) (.agg key.cells.toArray) (.bool true)).run P w = .ok () (w.putObj g (.map (Vq (ks ++ [key])) (ks ++ [key]).length)) := by
  rcases Qd1 (P := P) (t := t) (k := k) (ks := ks) (key := key) w with ⟨h1, h2⟩ | ⟨j, h1, h2⟩
  ·rw [Qju, List.length_append, List.length_singleton]
   simp [Instr.mapUpdate, run_underlying hu, Go.MapKept.run_getObj_map hb, hM.law.check w false hl, h1, Go.MapKept.run_setObj_map _ hb, Result.andThen, World.putObj]
  exact absurd h2 hn
 refine ⟨_, ?_, s2.turn (f' := .obj g (.map (Vq (ks ++ [key])) (ks ++ [key]).length)) rfl (fun k hk => .inl hk) (World.putObj_heap_same hlt) rfl rfl rfl (by simp [World.putObj]) (fun k _ hk => World.putObj_heap_other hk)⟩
 unfold execOp
 simp only [ho, ka.ev hm, ka.ev hx, ka.ev hy, Sem.run_bind, hrun, Result.andThen_ok, Sem.run_pure]
end
end
section
open Go.RowKit Go.WideMaps
theorem qW : ArrKey Tryz.prog 34 5 32 := ⟨Tryz.underlying34, by kernel_rfl, by kernel_rfl, by kernel_rfl⟩
theorem Qpn : ∃ m, Tryz.prog.types.size = m + 1 := ⟨_, rfl⟩
theorem Qjm (x : B32) : ∃ l, Go.keyOf Tryz.prog 34 (.agg x.cells.toArray) = some l := by
 have hkt := qW.keyType Qpn
 have hlen : x.cells.length = 32 := B32.cells_length x
 unfold Go.keyOf
 simp only [qW.hu]
 rw [if_pos (by simp [hkt, Value.formed, qW.hu, qW.size, hlen])]
 obtain ⟨m, hm⟩ := Qpn
 rw [hm]
 unfold Program.keyLits
 simp only [qW.hu, Value.cells]
 rw [if_pos (by rw [qW.size]; simpa using hlen)]
 have hmm := Qd2 (f := fun i => Tryz.prog.keyLits (m + 1) 5 ((x.cells.drop (i * Tryz.prog.cellsOf 5)).take (Tryz.prog.cellsOf 5))) (l := List.range 32) ?_
 ·obtain ⟨ys, hys⟩ := hmm
  rw [hys]
  exact ⟨_, rfl⟩
 intro i hi
 rw [List.mem_range] at hi
 rw [qW.one, Nat.mul_one]
 have hi2 : i < x.1.length := by rw [x.2]; exact hi
 have h2 : x.cells[i]? = some (.int .u8 ((x.1[i]'hi2).toNat : Int)) := by
  show (bc x.1)[i]? = _
  unfold bc
  rw [List.getElem?_map, List.getElem?_eq_getElem hi2]
  rfl
 have h1 : (x.cells.drop i).take 1 = [.int .u8 ((x.1[i]'hi2).toNat : Int)] := by
  rw [List.take_one, List.head?_drop, h2]
  rfl
 rw [h1]
 have hlt := (x.1[i]'hi2).toNat_lt
 generalize (x.1[i]'hi2).toNat = q at *
 unfold Program.keyLits
 simp only [Tryz.underlying5]
 have hwf : (Lit.int .u8 (q : Int)).wf = true := by
  show (decide ((0 : Int) ≤ (q : Int)) && decide ((q : Int) ≤ 255)) = true
  simp
  omega
 rw [if_pos ⟨trivial, hwf⟩]
 exact ⟨_, rfl⟩
instance iTMapK : TMapB Tryz.prog 204 34 where
 hu := ⟨4, Tryz.underlying204, fun w => Tryz.zeroValue4 w⟩
 law := qW.law
 key := Qjm
end
section
open Go.RowKit Go.Sort
theorem Qbu {α : Type} {f : α → List Value} {k : Nat} (hk : ∀ x, (f x).length = k) (h0 : 0 < k) : ∀ (l : List α) (i : Nat), (l.flatMap f)[i]? = (l[i / k]?).bind fun x => (f x)[i % k]?
 | [], i => by simp
 | x :: l, i => by
  rw [List.flatMap_cons]
  rcases Nat.lt_or_ge i k with h | h
  ·rw [List.getElem?_append_left (by rw [hk]; exact h), Nat.div_eq_of_lt h, Nat.mod_eq_of_lt h]
   rfl
  rw [List.getElem?_append_right (by rw [hk]; exact h), hk, Qbu hk h0 l (i - k), Nat.div_eq_sub_div h0 h, Nat.mod_eq_sub_mod h]
  rfl
theorem Qcm {α : Type} [Inhabited α] {f : α → List Value} {k : Nat} (hk : ∀ x, (f x).length = k) (h0 : 0 < k) (d : Array α) : (flatK f k d).toList = d.toList.flatMap f := by
 apply List.ext_getElem?
 intro i
 rw [Qbu hk h0]
 rcases Nat.lt_or_ge i (d.size * k) with h | h
 ·have h1 : i / k < d.size := (Nat.div_lt_iff_lt_mul h0).2 h
  have h2 : i % k < (f d[i / k]).length := by rw [hk]; exact Nat.mod_lt _ h0
  rw [Array.getElem?_toList, Array.getElem?_toList, Array.getElem?_eq_getElem h1, Option.bind_some, List.getElem?_eq_getElem (l := f d[i / k]) h2, Array.getElem?_eq_getElem (xs := flatK f k d) (by rw [size_flatK]; exact h)]
  have h3 := get_flatK f k d i h
  rw [getElem!_pos (flatK f k d) i (by rw [size_flatK]; exact h), getElem!_pos d (i / k) h1, getElem!_pos (f d[i / k]) (i % k) h2] at h3
  rw [h3]
 have h1 : d.size ≤ i / k := (Nat.le_div_iff_mul_le h0).2 h
 rw [Array.getElem?_toList, Array.getElem?_eq_none (by rw [size_flatK]; exact h), Array.getElem?_toList, Array.getElem?_eq_none h1]
 rfl
section
variable {α : Type} [Inhabited α] {f : α → List Value} {k : Nat} (hk : ∀ x, (f x).length = k) (h0 : 0 < k) {w : World} {g cap : Nat} {T : TypeId} {d : List α}
include hk h0
theorem QgW (h : w.ownsRow 0 T k (.slice (some ⟨g, 0, none⟩) d.length cap) d.length (d.flatMap f)) : HoldsK f k w g 0 d.toArray := by
 rcases h.2 with ⟨h1, -⟩ | ⟨g', cap', cur, e, -, hg, hle, -, hs, ht⟩
 ·cases h1
 injection e with e1 _ e2
 injection e1 with e1
 injection e1 with e1
 subst e1 e2
 intro j hj
 rw [size_flatK] at hj
 have hj' : j < d.length * k := hj
 have hF := Qcm hk h0 d.toArray
 have hlt : j < (flatK f k d.toArray).size := by rw [size_flatK]; exact hj
 rw [Nat.zero_add]
 have hc : cur[j]? = some (flatK f k d.toArray)[j]! := by
  rw [getElem!_pos _ j hlt, ← Array.getElem?_toList, ← List.getElem?_take_of_lt hj', ht]
  rw [show d.flatMap f = (flatK f k d.toArray).toList from hF.symm, Array.getElem?_toList, Array.getElem?_eq_getElem hlt]
 constructor
 ·unfold World.cell?
  rw [hg]
  exact hc
 unfold World.frozen?
 rw [hg]
 simp
theorem Rx.sorted (h : w.ownsRow 0 T k (.slice (some ⟨g, 0, none⟩) d.length cap) d.length (d.flatMap f)) (n : Nat) (d' : Array α) (hd : d'.size = d.length) (os : Array Obj) : Rx [.own (.slice (some ⟨g, 0, none⟩) d.length cap) d.length T k (d.flatMap f)] w (grow (putRowK f k (Sort.ahead w n) g 0 d') os) [.own (.slice (some ⟨g, 0, none⟩) d.length cap) d.length T k (d'.toList.flatMap f)] := by
 rcases h.2 with ⟨h1, -⟩ | ⟨g', cap', cur, e, -, hg, hle, hmx, hs, ht⟩
 ·cases h1
 injection e with e1 _ e2
 injection e1 with e1
 injection e1 with e1
 subst e1 e2
 have hF := Qcm hk h0 d'
 have hFs : (flatK f k d').size = d.length * k := by rw [size_flatK, hd]
 have hgl : g < w.heap.size := (Array.getElem?_eq_some_iff.1 hg).1
 have hcs : d.length * k ≤ cur.size := by rw [hs]; exact Nat.mul_le_mul_right k hle
 have hheap : (grow (putRowK f k (Sort.ahead w n) g 0 d') os).heap = w.heap.modify g (onCells (putCells id 0 (flatK f k d'))) ++ os := rfl
 have hget : ∀ j, j < w.heap.size → (grow (putRowK f k (Sort.ahead w n) g 0 d') os).heap[j]? = (w.heap.modify g (onCells (putCells id 0 (flatK f k d'))))[j]? := fun j hj => by
  rw [hheap, Array.getElem?_append_left (by rw [Array.size_modify]; exact hj)]
 have hown : (grow (putRowK f k (Sort.ahead w n) g 0 d') os).heap[g]? = some (.cells (putCells id 0 (flatK f k d') cur) T (0, 0)) := by
  rw [hget g hgl, Array.getElem?_modify, if_pos rfl, hg]
  rfl
 have hpl : (putCells id 0 (flatK f k d') cur).size = cur.size := by simp [putCells]
 have hlen : (d'.toList.flatMap f).length = d.length * k := by rw [← hF, Array.length_toList, hFs]
 have hok : (grow (putRowK f k (Sort.ahead w n) g 0 d') os).ownsRow 0 T k (.slice (some ⟨g, 0, none⟩) d.length cap) d.length (d'.toList.flatMap f) := by
  refine ⟨hlen, .inr ⟨g, cap, _, rfl, Nat.zero_le _, hown, hle, hmx, hpl.trans hs, ?_⟩⟩
  rw [← hF]
  apply List.ext_getElem?
  intro i
  rcases Nat.lt_or_ge i (d.length * k) with hi | hi
  ·rw [List.getElem?_take_of_lt hi, Array.getElem?_toList, Array.getElem?_toList, Array.getElem?_eq_getElem (xs := flatK f k d') (by omega)]
   unfold putCells
   rw [Array.getElem?_mapIdx, Array.getElem?_eq_getElem (xs := cur) (by omega), Option.map_some, if_pos ⟨Nat.zero_le _, by omega⟩, Nat.sub_zero, id, getElem!_pos (flatK f k d') i (by omega)]
  rw [List.getElem?_eq_none (by rw [List.length_take]; omega), List.getElem?_eq_none (by rw [Array.length_toList]; omega)]
 refine ⟨⟨⟨fun x hx => by rw [List.mem_singleton.1 hx]; exact hok, List.pairwise_singleton _ _⟩, rfl, rfl, rfl, ?_, fun j hj hn => ?_, fun x hx _ j hj => ?_⟩, fun x hx j hj => ?_⟩
 ·rw [hheap, Array.size_append, Array.size_modify]
  exact Nat.le_add_right _ _
 ·rw [hget j hj, Array.getElem?_modify, if_neg (fun e => hn ⟨_, List.mem_singleton.2 rfl, rfl, by rw [← e]; rfl⟩)]
 ·rw [List.mem_singleton.1 hx] at hj
  exact .inr ⟨_, List.mem_singleton.2 rfl, rfl, hj⟩
 rw [List.mem_singleton.1 hx] at hj
 exact .inr ⟨_, List.mem_singleton.2 rfl, rfl, hj⟩
end
end
section
open Go.RowKit Go.Sort
def HG (G : World → Prop) (A : List Fa) (W : World) (n : Nat) (D : List Deferred) (E : Env) (L : List Fa) (K : Act → World → Prop) : Prop := ∀ a w, Kn n D E a → Sx A W w L → G w → K a w
section
variable {G : World → Prop} {A : List Fa} {W : World} {n : Nat} {D : List Deferred} {E : Env} {L : List Fa} {P : Program} {Q : Exit → Act → World → Prop} {ops : Array Oper} {rest : List Oper} {d : Nat} {ty : TypeId} {pos : String} {af : Array Edge} {g : Option (Nat × Bool)} {K : Act → World → Prop}
theorem Qdq {x y : Code} (h : HG G A W n D E L (x.wpIn (FR none) 0 P (Exit.then (y.wpIn (FR none) 0 P Q) Q))) : HG G A W n D E L ((Code.seq x y).wpIn (FR none) 0 P Q) := fun a w k s hg => wpIn_seq (h a w k s hg)
theorem Qf2 {id : Nat} {l : List Oper} (h : HG G A W n D E L (wpListIn (FR none) 0 P l.toArray Q l)) : HG G A W n D E L ((Code.region id l.toArray false).wpIn (FR none) 0 P Q) := fun a w k s hg => wpIn_region_lit (h a w k s hg)
theorem Qf1 {ops : Array Oper} (h : HG G A W n D E L (Q .normal)) : HG G A W n D E L (wpListIn (FR none) 0 P ops Q []) := h
theorem QaX {K : Act → World → Prop} (h : HG G A W n D E L K) : HG G A W n D E L (Exit.then K Q .normal) := h
theorem Qlf (h : HG G A W n D E L (Q .ret)) : HG G A W n D E L (Code.ret.wpIn (FR none) 0 P Q) := fun a w k s hg => wpIn_ret (h a w k s hg)
theorem QbB {op : Op} {v : Value} (hr : QM P n D E L op v) (k : HG G A W n D ((d, v) :: E) L (wpListIn (FR none) 0 P ops Q rest)) (hd : Nat.blt d n = true := by exact rfl) (hg : wn ops E g = some true := by exact rfl) : HG G A W n D E L (wpListIn (FR none) 0 P ops Q (⟨some d, op, ty, pos, af, g⟩ :: rest)) := fun a w ka s hG => by
 unfold wpListIn
 rw [JE ka hg, if_pos rfl]
 exact qu (hr a w ka s.toFx _ rfl) (k _ _ (ka.put hd v) s hG)
theorem QhL {T : TypeId} {x : Operand} {cs : List Value} (hG : ∀ w o, G w → G (w.alloc o)) (hx : ev E x = some (.agg cs.toArray)) (k : ∀ b : Nat, HG G A W n D ((d, .pointer (some ⟨b, 0, none⟩)) :: E) (.blk b cs T :: L) (wpListIn (FR none) 0 P ops Q rest)) (hd : Nat.blt d n = true := by exact rfl) (hg : wn ops E g = some true := by exact rfl) : HG G A W n D E L (wpListIn (FR none) 0 P ops Q (⟨some d, .box T x, ty, pos, af, g⟩ :: rest)) := fun a w ka s hgw => by
 unfold wpListIn
 rw [JE ka hg, if_pos rfl]
 exact qu (QqA rfl (ka.ev hx) rfl) (k _ _ _ (ka.put hd _) (s.alloc cs T) (hG _ _ hgw))
theorem QpN {x : Operand} {l : List Operand} {ts : Array TypeId} {f : FuncId} {argv : List Value} [he : Ent P f] {v : Value} (hc : ∀ w, Sx A W w L → G w → Calls P f argv.toArray w fun e w' => e = .returned v ∧ Sx A W w' L ∧ G w') (hx : ev E x = some (.func (.func f) #[] #[])) (ha : evs E l = some argv)
  (k : HG G A W n D ((d, v) :: E) L (wpListIn (FR none) 0 P ops Q rest)) (hd : Nat.blt d n = true := by exact rfl) (hg : wn ops E g = some true := by exact rfl) : HG G A W n D E L (wpListIn (FR none) 0 P ops Q (⟨some d, .call ⟨.value x, l.toArray, ts⟩, ty, pos, af, g⟩ :: rest)) := fun a w ka s hG => by
 unfold wpListIn
 rw [JE ka hg, if_pos rfl]
 refine Zq (QeC (fi := []) (cap := []) ka rfl hx ha) (by simpa using hc w s hG) ?_
 rintro e w' ⟨rfl, hs, hg'⟩
 exact ⟨_, rfl, k _ _ (ka.put hd _) hs hg'⟩
theorem QgL {fn : Func} {R : Ending → World → Prop} {r : ResultVar} {v : Value} (hf : fn.results = #[r]) (h : VR P E L r v) (hR : ∀ w, Sx A W w L → G w → R (.returned v) w) : HG G A W n [] E L (bodyPostM (FR none) 0 P fn R .ret) := fun a w ka s hg => by
 show LeavesInM (FR none) 0 P fn a.tmps R a.defers .returning w
 rw [ka.defers]
 exact ⟨v, Qga ka s.toFx hf h, hR w s hg⟩
def GA (G : World → Prop) (A : List Fa) (W : World) (n : Nat) (D : List Deferred) (P : Program) (ops : List Oper) (Q : Exit → Act → World → Prop) (L : List Fa) (fuel : Nat) (listed : Array Bool) (E : Env) : Prop :=
 ∀ a w, Kn n D E a → (Sx A W w L ∧ G w) → QeP none P ops.toArray (noP Q) (fun w => Sx A W w L ∧ G w) fuel listed a w
variable {opl : List Oper} {fuel : Nat} {listed : Array Bool}
theorem Qlg {id : Nat} (hm : P.follows .mixedOrders = true) (hG : ∀ w, G w → G w.drew) (h : GA G A W n D P opl Q L opl.length (Array.replicate opl.length false) E) : HG G A W n D E L ((Code.region id opl.toArray true).wpIn (FR none) 0 P Q) := fun a w k s hg => by
 refine Go.wpIn_mono (wpIn_region_any hm (VS _ _ _ _ (h a _ k ⟨s.drew, hG _ hg⟩))) ?_
 intro e a' w' hq
 cases e <;> first | exact hq | exact hq.elim
theorem QnK (hr : Region.ready .any opl.toArray listed = []) (h : HG G A W n D E L (Q .normal)) : GA G A W n D P opl Q L fuel listed E := fun a w k s => by
 cases fuel with
 | zero => exact ⟨hr, h a w k s.1 s.2⟩
 | succ f => exact ⟨fun _ => h a w k s.1 s.2, by rw [hr]; simp⟩
theorem Qcn (i : Nat) {op : Op} {v : Value} (hi : opl[i]? = some ⟨some d, op, ty, pos, af, g⟩) (hr : QM P n D E [] op v) (k : GA G A W n D P opl Q L fuel (listed.setIfInBounds i true) ((d, v) :: E))
  (hs : Region.noSelect opl.toArray = true := by kernel_rfl) (hn : V5 opl.toArray = true := by kernel_rfl) (hc : Zv opl.toArray listed = true := by kernel_rfl) (hf : Region.free .any opl.toArray listed i = true := by kernel_rfl) (hrd : (Region.ready .any opl.toArray listed).contains i = true := by kernel_rfl) (hd : Nat.blt d n = true := by exact rfl) (hg : wn opl.toArray E g = some true := by exact rfl) : GA G A W n D P opl Q L (fuel + 1) listed E := fun a w ka sb => by
 have hi' : opl.toArray[i]? = some ⟨some d, op, ty, pos, af, g⟩ := by simpa using hi
 exact qH (Si := fun _ => True) (v := v) (fun _ _ _ _ _ _ _ _ _ _ => trivial) hi' (Region.noSelect_spec hs) hn (fun _ _ _ h => h) fuel listed a w (YL hc) (Region.free_spec hi' hf) (by simpa using hrd) (.inl ⟨JE ka hg, fun w' _ => hr a w' ka (Fx.nil w') _ rfl⟩) trivial (k _ _ (ka.put hd v) sb)
theorem QnJ (i : Nat) {x : Operand} {l : List Operand} {ts : Array TypeId} {f : FuncId} {argv : List Value} [he : Ent P f] {v : Value} (hi : opl[i]? = some ⟨some d, .call ⟨.value x, l.toArray, ts⟩, ty, pos, af, g⟩) (hc : ∀ w, Sx A W w L → G w → Calls P f argv.toArray w fun e w' => e = .returned v ∧ Sx A W w' L ∧ G w') (hx : ev E x = some (.func (.func f) #[] #[])) (ha : evs E l = some argv)
  (k : GA G A W n D P opl Q L fuel (listed.setIfInBounds i true) ((d, v) :: E)) (hr : Region.ready .any opl.toArray listed = [i] := by kernel_rfl) (hd : Nat.blt d n = true := by exact rfl) (hg : wn opl.toArray E g = some true := by exact rfl) : GA G A W n D P opl Q L (fuel + 1) listed E := fun a w ka sb => by
 refine ⟨(fun h0 => by rw [hr] at h0; cases h0), fun j hj => ?_⟩
 rw [hr] at hj
 obtain rfl : j = i := (by simpa using hj)
 refine Qbx hi (JE ka hg) (Zq (QeC (fi := []) (cap := []) ka rfl hx ha) (by simpa using hc w sb.1 sb.2) ?_)
 rintro e w' ⟨rfl, hs, hg'⟩
 exact ⟨_, rfl, fun _ _ => ⟨hs, hg'⟩, k _ _ (ka.put hd _) ⟨hs, hg'⟩⟩
end
theorem QaS {P : Program} {f n : Nat} {fn : Func} {c : Code} {args : List Value} {v : Value} (hf : P.funcs[f]? = some fn) (hb : fn.body = some c) (hn : fn.ntmps = n) (hl : Nat.ble args.length n = true) {L : List Fa} (w : World) (hL : Sx [] w w L)
  (h : HG (fun w' => w.drawn ≤ w'.drawn) [] w n [] (Y7 0 args) L (c.wpIn (FR none) 0 P (bodyPostM (FR none) 0 P fn fun e w' => e = .returned v ∧ Sx [] w w' [] ∧ w.drawn ≤ w'.drawn))) : Calls P f args.toArray w fun e w' => e = .returned v ∧ Sx [] w w' [] ∧ w.drawn ≤ w'.drawn := by
 have hl' : args.length ≤ n := by simpa using hl
 refine (callsIn_wide (n := 0)).1 (callsIn_of_wp_marks hf hb trivial (h _ w ⟨?_, rfl, fun t u ht => ?_⟩ hL (Nat.le_refl _)))
 ·simp only [hn, Array.size_append, List.size_toArray, Array.size_replicate]
  omega
 obtain ⟨_, h2⟩ := JZ args 0 t u ht
 have hlt : t < args.length := by
  obtain ⟨h3, _⟩ := List.getElem?_eq_some_iff.1 h2
  simpa using h3
 rw [Array.getElem?_append_left (by simpa using hlt)]
 simpa using h2
theorem Qli {w w' : World} (h : Sx [] w w' []) (hd : w.drawn ≤ w'.drawn) : ∃ q os, w' = grow (w.drewN q) os := by
 refine ⟨w'.drawn - w.drawn, w'.heap.extract w.heap.size w'.heap.size, ?_⟩
 have hdr : ∀ (k : Nat) (x : World), (x.drewN k).heap = x.heap ∧ (x.drewN k).tape = x.tape ∧ (x.drewN k).drawn = x.drawn + k ∧ (x.drewN k).os = x.os ∧ (x.drewN k).output = x.output := fun k x => ⟨rfl, rfl, rfl, rfl, rfl⟩
 obtain ⟨a, b, c, d, e⟩ := hdr (w'.drawn - w.drawn) w
 have hheap : w'.heap = (w.drewN (w'.drawn - w.drawn)).heap ++ w'.heap.extract w.heap.size w'.heap.size := by
  rw [a]
  apply Array.ext_getElem?
  intro i
  rcases Nat.lt_or_ge i w.heap.size with hi | hi
  ·rw [Array.getElem?_append_left hi]
   exact h.block i hi fun ⟨_, hf, _⟩ => (List.not_mem_nil hf).elim
  rw [Array.getElem?_append_right hi, Array.getElem?_extract]
  have hsz := h.size
  by_cases hj : i < w'.heap.size
  ·rw [if_pos (by omega), show w.heap.size + (i - w.heap.size) = i by omega]
  rw [if_neg (by omega), Array.getElem?_eq_none (by omega)]
 have h1 : w'.tape = (w.drewN (w'.drawn - w.drawn)).tape := by rw [b]; exact h.tape
 have h2 : w'.drawn = (w.drewN (w'.drawn - w.drawn)).drawn := by rw [c]; omega
 have h3 : w'.os = (w.drewN (w'.drawn - w.drawn)).os := by rw [d]; exact h.os
 have h4 : w'.output = (w.drewN (w'.drawn - w.drawn)).output := by rw [e]; exact h.output
 generalize w.drewN (w'.drawn - w.drawn) = u at *
 unfold grow
 cases w'
 simp only at hheap h1 h2 h3 h4
 subst h1 h2 h3 h4
 rw [← hheap]
end
section
open Go.RowKit Go.Sort
theorem Qg3 (a b : List UInt8) (hab : a.length = b.length) (A B : Option Addr) (c c' : Nat) (w : World) (hA : Rd w A (bc a)) (hB : Rd w B (bc b)) : Calls Tryz.prog 158 [.slice A a.length c, .slice B b.length c'].toArray w fun e w' => e = .returned (.int .i64 (VM a b)) ∧ Sx [] w w' [] ∧ w.drawn ≤ w'.drawn := by
 rw [← ZT a b hab]
 have hS : Sx [] w w [.rd A (bc a), .rd B (bc b)] := (Sx.start (Fx.nil w) (R := [.rd A (bc a), .rd B (bc b)]) (by
  intro r hr
  simp only [List.mem_cons, List.not_mem_nil, or_false] at hr
  rcases hr with rfl | rfl
  ·exact ⟨rfl, hA, fun _ h => (List.not_mem_nil h).elim⟩
  exact ⟨rfl, hB, fun _ h => (List.not_mem_nil h).elim⟩)).sub (List.Sublist.refl _)
 refine QaS Tryz.func158 rfl (n := 8) rfl rfl w hS ?_
 refine Qdq ?_
 refine Qf2 ?_
 refine QbB (Q6 rfl) ?_
 refine Qf1 ?_
 refine QaX ?_
 refine Qdq ?_
 refine Qf2 ?_
 refine QbB (Qi rfl) ?_
 refine QbB (Qi rfl) ?_
 refine QbB (Qpi rfl rfl) ?_
 refine QbB (Q6 rfl) ?_
 refine Qf1 ?_
 refine QaX ?_
 refine Qlf ?_
 exact QgL rfl rfl fun w' s hg => ⟨rfl, s.sub (List.nil_sublist _), hg⟩
theorem QgP (a b : B32) (w : World) : Calls Tryz.prog 102 [.agg a.cells.toArray, .agg b.cells.toArray].toArray w fun e w' => e = .returned (.int .i64 (JS a b)) ∧ Sx [] w w' [] ∧ w.drawn ≤ w'.drawn := by
 have ha := a.2
 have hb := b.2
 refine QaS Tryz.func102 rfl (n := 8) rfl rfl w ((Sx.start (Fx.nil w) (R := []) (fun r hr => (List.not_mem_nil hr).elim)).sub (List.Sublist.refl _)) ?_
 refine Qdq ?_
 refine Qf2 ?_
 refine QhL (fun w o h => h) rfl fun g2 => ?_
 refine QhL (fun w o h => h) rfl fun g3 => ?_
 refine QbB (Q6 rfl) ?_
 refine Qf1 ?_
 refine QaX ?_
 refine Qdq ?_
 refine Qlg QJ (fun w h => Nat.le_succ_of_le h) ?_
 refine Qcn 0 rfl (qr rfl) ?_
 refine Qcn 1 rfl (qr rfl) ?_
 refine QnJ (v := .int .i64 (JS a b)) 2 rfl (fun w' s hg => ?_) rfl rfl ?_
 ·have h1 : w'.heap[g3]? = some (.cells b.cells.toArray _ (0, 0)) := s.ok (.blk g3 b.cells _) (List.mem_cons_self ..)
  have h2 : w'.heap[g2]? = some (.cells a.cells.toArray _ (0, 0)) := s.ok (.blk g2 a.cells _) (List.mem_cons_of_mem _ (List.mem_cons_self ..))
  have hc := Qg3 a.1 b.1 (by omega) (some ⟨g2, 0, none⟩) (some ⟨g3, 0, none⟩) 32 32 w' (fun j v hv => ⟨g2, 0, rfl, by rw [cell_of_row w' g2 (0 + j) a.cells.toArray _ (0, 0) h2, Nat.zero_add]; simpa using (show a.cells[j]? = some v from hv)⟩) (fun j v hv => ⟨g3, 0, rfl, by rw [cell_of_row w' g3 (0 + j) b.cells.toArray _ (0, 0) h1, Nat.zero_add]; simpa using (show b.cells[j]? = some v from hv)⟩)
  rw [ha, hb] at hc
  refine hc.mono ?_
  rintro e w'' ⟨rfl, h3, h4⟩
  exact ⟨rfl, s.call ⟨h3.os, h3.tape, h3.output, h3.size, fun k hk => h3.block k hk fun ⟨_, hf, _⟩ => (List.not_mem_nil hf).elim⟩, Nat.le_trans hg h4⟩
 refine Qcn 3 rfl (Q6 rfl) ?_
 refine QnK (by kernel_rfl) ?_
 refine QaX ?_
 refine Qlf ?_
 exact QgL rfl rfl fun w' s hg => ⟨rfl, s.sub (List.nil_sublist _), hg⟩
theorem QeW (x y : Change) (w : World) : Calls Tryz.prog 110 [.agg x.cells.toArray, .agg y.cells.toArray].toArray w fun e w' => e = .returned (.int .i64 (JS x.key y.key)) ∧ Sx [] w w' [] ∧ w.drawn ≤ w'.drawn := by
 refine QaS Tryz.func110 rfl (n := 10) rfl rfl w ((Sx.start (Fx.nil w) (R := []) (fun r hr => (List.not_mem_nil hr).elim)).sub (List.Sublist.refl _)) ?_
 refine Qdq ?_
 refine Qf2 ?_
 refine QhL (fun w o h => h) rfl fun g2 => ?_
 refine QhL (fun w o h => h) rfl fun g3 => ?_
 refine QbB (Q6 rfl) ?_
 refine Qf1 ?_
 refine QaX ?_
 refine Qdq ?_
 refine Qf2 ?_
 refine QbB (Qe rfl) ?_
 refine QbB (Qm rfl) ?_
 refine QbB (Qe rfl) ?_
 refine QbB (Qm rfl) ?_
 refine QpN (v := .int .i64 (JS x.key y.key)) (fun w' s hg => ?_) rfl rfl ?_
 ·refine (QgP x.key y.key w').mono ?_
  rintro e w'' ⟨rfl, h3, h4⟩
  exact ⟨rfl, s.call ⟨h3.os, h3.tape, h3.output, h3.size, fun k hk => h3.block k hk fun ⟨_, hf, _⟩ => (List.not_mem_nil hf).elim⟩, Nat.le_trans hg h4⟩
 refine QbB (Q6 rfl) ?_
 refine Qf1 ?_
 refine QaX ?_
 refine Qlf ?_
 exact QgL rfl rfl fun w' s hg => ⟨rfl, s.sub (List.nil_sublist _), hg⟩
end
section
open Go.RowKit Go.Sort Go.Shelf
instance iChgInh : Inhabited Chg := ⟨Yp⟩
def QjL : Go.Shelf.Ren := ⟨fun | 6 => 109 | 15 => 164 | 14 => 163 | 28 => 238 | 29 => 239 | 20 => 230 | 21 => 231 | 22 => 232 | 23 => 233 | 24 => 234 | 25 => 235 | 26 => 236 | 27 => 237 | 46 => 261 | 47 => 262 | 48 => 263 | 49 => 264 | 50 => 265 | 57 => 272 | n => n, fun | 22 => 29 | 24 => 37 | 25 => 208 | 3 => 3 | 39 => 136 | 0 => 0 | 53 => 251 | 55 => 337 | 4 => 4 | 46 => 367 | 45 => 366 | 50 => 371 | 5 => 5 | 9 => 9 | 66 => 394 | 70 => 398 | 76 => 407 | 77 => 128 | n => n, fun | n => n⟩
theorem Qpo : Go.Proofs.SlLaysF0.n6 Tryz.prog QjL := {
 mixed := by kernel_rfl,
 f6 := ⟨Tryz.f109.name, by decide, Tryz.func109.trans (congrArg some (by kernel_rfl))⟩,
 f14 := ⟨Tryz.f163.name, by decide, Tryz.func163.trans (congrArg some (by kernel_rfl))⟩,
 f15 := Tryz.func164.trans (congrArg some (by kernel_rfl)),
 f20 := ⟨Tryz.f230.name, by decide, Tryz.func230.trans (congrArg some (by kernel_rfl))⟩,
 f21 := ⟨Tryz.f231.name, by decide, Tryz.func231.trans (congrArg some (by kernel_rfl))⟩,
 f22 := ⟨Tryz.f232.name, by decide, Tryz.func232.trans (congrArg some (by kernel_rfl))⟩,
 f23 := ⟨Tryz.f233.name, by decide, Tryz.func233.trans (congrArg some (by kernel_rfl))⟩,
 f24 := ⟨Tryz.f234.name, by decide, Tryz.func234.trans (congrArg some (by kernel_rfl))⟩,
 f25 := ⟨Tryz.f235.name, by decide, Tryz.func235.trans (congrArg some (by kernel_rfl))⟩,
 f26 := ⟨Tryz.f236.name, by decide, Tryz.func236.trans (congrArg some (by kernel_rfl))⟩,
 f27 := ⟨Tryz.f237.name, by decide, Tryz.func237.trans (congrArg some (by kernel_rfl))⟩,
 f28 := Tryz.func238.trans (congrArg some (by kernel_rfl)),
 f29 := Tryz.func239.trans (congrArg some (by kernel_rfl)),
 f46 := ⟨Tryz.f261.name, by decide, Tryz.func261.trans (congrArg some (by kernel_rfl))⟩,
 f47 := Tryz.func262.trans (congrArg some (by kernel_rfl)),
 f48 := Tryz.func263.trans (congrArg some (by kernel_rfl)),
 f49 := ⟨Tryz.f264.name, by decide, Tryz.func264.trans (congrArg some (by kernel_rfl))⟩,
 f50 := ⟨Tryz.f265.name, by decide, Tryz.func265.trans (congrArg some (by kernel_rfl))⟩,
 f57 := ⟨Tryz.f272.name, by decide, Tryz.func272.trans (congrArg some (by kernel_rfl))⟩,
 t0 := Tryz.underlying0,
 a0 := Tryz.isAgg0,
 z0 := Tryz.sizeOf0,
 v0 := Tryz.zeroValue0,
 t3 := Tryz.underlying3,
 a3 := Tryz.isAgg3,
 z3 := Tryz.sizeOf3,
 v3 := Tryz.zeroValue3,
 t4 := Tryz.underlying4,
 a4 := Tryz.isAgg4,
 z4 := Tryz.sizeOf4,
 v4 := Tryz.zeroValue4,
 t5 := Tryz.underlying5,
 a5 := Tryz.isAgg5,
 z5 := Tryz.sizeOf5,
 v5 := Tryz.zeroValue5,
 t9 := Tryz.underlying9,
 a9 := Tryz.isAgg9,
 z9 := Tryz.sizeOf9,
 v9 := Tryz.zeroValue9,
 t22 := Tryz.underlying29,
 a22 := Tryz.isAgg29,
 z22 := Tryz.sizeOf29,
 v22 := Tryz.zeroValue29,
 t25 := Tryz.underlying208,
 a25 := Tryz.isAgg208,
 z25 := Tryz.sizeOf208,
 v25 := Tryz.zeroValue208,
 t39 := Tryz.underlying136,
 a39 := Tryz.isAgg136,
 z39 := Tryz.sizeOf136,
 v39 := Tryz.zeroValue136,
 t45 := Tryz.underlying366,
 a45 := Tryz.isAgg366,
 z45 := Tryz.sizeOf366,
 v45 := Tryz.zeroValue366,
 t46 := Tryz.underlying367,
 a46 := Tryz.isAgg367,
 z46 := Tryz.sizeOf367,
 v46 := Tryz.zeroValue367,
 t50 := Tryz.underlying371,
 a50 := Tryz.isAgg371,
 z50 := Tryz.sizeOf371,
 v50 := Tryz.zeroValue371,
 t53 := Tryz.underlying251,
 a53 := Tryz.isAgg251,
 z53 := Tryz.sizeOf251,
 v53 := Tryz.zeroValue251,
 t55 := Tryz.underlying337,
 a55 := Tryz.isAgg337,
 z55 := Tryz.sizeOf337,
 v55 := Tryz.zeroValue337,
 t66 := Tryz.underlying394,
 a66 := Tryz.isAgg394,
 z66 := Tryz.sizeOf394,
 v66 := Tryz.zeroValue394,
 t70 := Tryz.underlying398,
 a70 := Tryz.isAgg398,
 z70 := Tryz.sizeOf398,
 v70 := Tryz.zeroValue398,
 t76 := Tryz.underlying407,
 a76 := Tryz.isAgg407,
 z76 := Tryz.sizeOf407,
 v76 := Tryz.zeroValue407,
 t77 := Tryz.underlying128,
 a77 := Tryz.isAgg128,
 z77 := Tryz.sizeOf128,
 v77 := Tryz.zeroValue128 }
def Qnu (x y : Chg) : Int := JS x.key y.key
theorem ltC (x y : Chg) : ltOf Qnu x y = decide (JS x.key y.key < 0) := rfl
theorem QrG : SWO (ltOf Qnu) where
 irrefl x := by
  rw [ltC]
  exact decide_eq_false fun h => Yv x.key (V4 h)
 trans x y z h1 h2 := by
  rw [ltC] at *
  exact decide_eq_true (Qej (qF (V4 (of_decide_eq_true h1)) (V4 (of_decide_eq_true h2))))
 ntrans x y z h1 h2 := by
  rw [ltC] at *
  have h3 := of_decide_eq_false h1
  have h4 := of_decide_eq_false h2
  refine decide_eq_false fun h => ?_
  rcases Vl _ _ h3 with e | e
  ·rw [e] at h; exact h4 h
  exact h4 (Qej (qF e (V4 h)))
theorem QkB (blk off size : Nat) (w : World) : CmpLays Tryz.prog 110 #[] Chg.cells 34 Qnu blk off size w := fun m os dk _ x y => by
 refine (QeW x.st y.st _).mono ?_
 rintro e w' ⟨rfl, h1, h2⟩
 exact ⟨rfl, Qli h1 h2⟩
theorem Qnh (l : List Chg) (g c : Nat) (hl : l.length ≤ 1000000) : QC Tryz.prog 109 [.slice (some ⟨g, 0, none⟩) l.length c, .func (.func 110) #[] #[]].toArray [] [.own (.slice (some ⟨g, 0, none⟩) l.length c) l.length 37 34 (Jh l)] (fun _ : {l' : List Chg // l'.Perm l ∧ l'.Pairwise (fun x y => ¬ JS y.key x.key < 0)} => .tuple #[]) (fun u => [.own (.slice (some ⟨g, 0, none⟩) l.length c) l.length 37 34 (Jh u.1)]) := fun w hA _ => by
 have ho : w.ownsRow 0 37 34 (.slice (some ⟨g, 0, none⟩) l.length c) l.length (l.flatMap Chg.cells) := hA.ok _ (List.mem_cons_self ..)
 have hH := QgW Chg.cells_length (by omega) ho
 obtain ⟨cur, hb, -⟩ := JT ho
 have hblk : g < w.heap.size := (Array.getElem?_eq_some_iff.1 hb).1
 have eg : ∀ args w, (callFunc 110 args).run Tryz.prog w = .ok (.enter 110 args) w := enters_of Tryz.func110 (by kernel_rfl) rfl
 have hcon := AnyQ.slices_SortFunc Qpo 34 Tryz.isAgg37 Tryz.sizeOf37 Chg.cells Chg.cells_length Chg.cells_one Qnu QrG 110 #[] g 0 c l.toArray w eg (QkB g 0 l.toArray.size w) hH hblk (by simp; omega)
 change Calls Tryz.prog 109 _ _ _ at hcon
 refine hcon.mono ?_
 rintro e w' ⟨rfl, d', n, os, hp, hs, rfl⟩
 have hsz : d'.size = l.length := hp.1
 refine ⟨⟨d'.toList, ?_, ?_⟩, rfl, Rx.sorted Chg.cells_length (by omega) ho n d' hsz os⟩
 ·have h2 := hp.2.2
  have e : (l.toArray).size = d'.size := by rw [hsz]; simp
  rw [e, Array.extract_size] at h2
  rw [← e, Array.extract_size] at h2
  simpa using h2
 rw [List.pairwise_iff_getElem]
 intro i j hi hj hij
 have h1 := hs i j (Nat.zero_le _) hij (by simp at hj ⊢; omega)
 rw [ltC] at h1
 have h2 := of_decide_eq_false h1
 rw [getElem!_pos d' i (by simpa using hi), getElem!_pos d' j (by simpa using hj)] at h2
 simpa using h2
end
section
open Go.RowKit Go.Sort Go.Shelf
theorem Qi1 (l : List Chg) (A : Option Addr) (c : Nat) (hl : l.length ≤ 1000000) : QC Tryz.prog 109 [.slice A l.length c, .func (.func 110) #[] #[]].toArray [] [.own (.slice A l.length c) l.length 37 34 (Jh l)] (fun _ : {l' : List Chg // l'.Perm l ∧ l'.Pairwise (fun x y => ¬ JS y.key x.key < 0)} => .tuple #[]) (fun u => [.own (.slice A l.length c) l.length 37 34 (Jh u.1)]) := fun w hA hR => by
 have ho : w.ownsRow 0 37 34 (.slice A l.length c) l.length (Jh l) := hA.ok _ (List.mem_cons_self ..)
 rcases ho.2 with ⟨h1, h2⟩ | ⟨g, cap, cur, h1, -⟩
 ·obtain rfl : l = [] := List.eq_nil_of_length_eq_zero h2
  have hcon := AnyF.slices_SortFunc_none Qpo A c (.func (.func 110) #[] #[]) w
  change Calls Tryz.prog 109 _ _ _ at hcon
  refine hcon.mono ?_
  rintro e w' ⟨rfl, rfl⟩
  exact ⟨⟨[], .nil, List.Pairwise.nil⟩, rfl, (Sx.start hA hR).res (by simp) (by simp [Fa.wr])⟩
 injection h1 with e1 _ e2
 subst e1
 exact Qnh l g c hl w hA hR
end
section
open Go.RowKit
abbrev JR (t0 gh : Nat) (p : Option Addr) : Fa := .blk t0 [.pointer (some ⟨gh, 0, none⟩), .pointer p] 113
def Qj3 : ByteArray := ⟨#[112, 117, 116]⟩
def Qji : ByteArray := ⟨#[103, 101, 116]⟩
def QgB : ByteArray := ⟨#[100, 101, 108, 101, 116, 101]⟩
def ZO : ByteArray := ⟨#[97, 112, 112, 108, 121]⟩
theorem QiN {key : B32} {m : List En} {D : Nat} (w : WayM key m D) : Qkc key (mkT m 0) D := by
 intro k' v' hw hne
 have hle := w.way.le
 rw [w.on D (Nat.le_refl _)] at hw
 rcases Qaq w.last with ⟨h1, _⟩ | ⟨e, h1, hb, _⟩
 ·rw [h1, Jx] at hw; cases hw
 rw [h1, J0 e hle] at hw
 injection hw with h3 h4
 rw [← h3]
 exact Zw hle fun i hi => hb i hi
theorem QkR {kn vn : Nat} (h : JP kn vn = 0) : vn ≤ 65535 := by
 unfold JP at h
 split at h
 ·split at h
  ·cases h
  omega
 cases h
section
variable (n : Nat) (hn : n ≤ 256) (gh gc t0 k : Nat) (hk : k ≤ 100000000) (h : Zh) [hT : RdZ h (some ⟨1, 0, none⟩) Jd] {m : List En} (hal : Alike m 0) (hml : m.length ≤ 100000) (p : Option Addr) [ht : TrZ n h (mkT m 0) p] (ks : Sl) (kb : List UInt8) [hK : SlZ h ks kb]
include hn hk hal hml
theorem Qhz (v : Sl) (vb : List UInt8) [hV : SlZ h v vb] (he : JP kb.length vb.length = 0) : QC Tryz.prog 36 [.pointer (some ⟨t0, 0, none⟩), .slice ks.A ks.n ks.c, .slice v.A v.n v.c].toArray [HR gh gc n] [.zone true h, CN gc k, JR t0 gh p] (fun u : {u : Zh × Option Addr × Nat // LeZ h u.1 ∧ TrZ n u.1 (mkT (qQ m ⟨⟨keyOf kb, v⟩, vb⟩) 0) u.2.1 ∧ u.2.2 ≤ k + 1600} => .nilIface) (fun u => [.zone true u.1.1, CN gc u.1.2.2, JR t0 gh u.1.2.1]) := by
 have hvn := hV.len
 have hS := Qbi h ks kb t0 Qj3 v (by rw [hvn]; exact he)
 obtain ⟨D, w⟩ := QmH (key := keyOf kb) hal
 have hcnt := Qa4 (d := 0) (by omega) hal
 have hvl := QkR he
 have hP := Qp1 n hn gh gc k hk h (mkT m 0) p (keyOf kb) v vb (by omega) D w.way (QiN w) (by omega)
 have hpt : Qc7 (keyOf kb) vb (mkT m 0) D = mkT (qQ m ⟨⟨keyOf kb, v⟩, vb⟩) 0 := QlR (e := ⟨⟨keyOf kb, v⟩, vb⟩) w
 rw [hpt] at hP
 refine Qk Tryz.func36 rfl (n := 32) rfl rfl ?_
 intro W
 refine yR ?_
 refine yS rfl ?_
 refine yN ?_
 refine yR ?_
 refine yM rfl ?_
 refine yM rfl ?_
 refine yM rfl ?_
 refine Qh (hS.comes) rfl rfl rfl fun _ => ?_
 refine yM rfl ?_
 refine Qb (Qj rfl rfl) ?_
 refine Qb (Qj rfl rfl) ?_
 refine Qo (Q0) fun g7 => ?_
 refine Q7 (Qw rfl rfl) ?_
 refine yS rfl ?_
 refine yN ?_
 refine Qd ?_
 refine yR ?_
 refine yM rfl ?_
 refine Qb (Qmb rfl) ?_
 refine yN ?_
 refine Qz rfl ?_
 refine Q1 [.blk t0 [.pointer (some ⟨gh, 0, none⟩), .pointer p] 113, .blk g7 (Entry.cells ⟨keyOf kb, v⟩) 89] [] QJ (same) ?_
 refine Qa 0 rfl (Qi rfl) ?_
 refine Qa 1 rfl (Qi rfl) ?_
 refine Qa 2 rfl (QA rfl) ?_
 refine Qa 3 rfl (Qe rfl) ?_
 refine Qp 4 rfl (Qf rfl) ?_
 refine Qa 5 rfl (Qi rfl) ?_
 refine Qa 6 rfl (QA rfl) ?_
 refine Qa 7 rfl (Qe rfl) ?_
 refine Qp 8 rfl (Qf rfl) ?_
 refine Qp 9 rfl (Qm rfl) ?_
 refine Qv 10 ?_
 refine QR 10 rfl (hP.comes) rfl rfl rfl (fun xx => same) fun ⟨⟨h1, q, k1⟩, hle, htq, hk1⟩ => ?_
 refine Qa 11 rfl (QA rfl) ?_
 refine Qa 12 rfl (Qe rfl) ?_
 refine Qv 13 ?_
 refine J4 13 rfl (QV rfl rfl rfl) ?_
 refine Qc ?_
 dsimp only at hle htq hk1 ⊢
 refine yR ?_
 refine yM rfl ?_
 refine yS rfl ?_
 refine yN ?_
 refine Qs ?_
 exact Qu rfl rfl fun w s => ⟨⟨(h1, q, k1), hle, htq, hk1⟩, rfl, (same (L' := [.zone true h1, CN gc k1, JR t0 gh q]) w s).res (List.Sublist.refl _) (by simp [Fa.wr])⟩
omit hT ht in
omit hn hk hal hml in
theorem Qkr (v : Sl) (he : JP kb.length v.n ≠ 0) : QC Tryz.prog 36 [.pointer (some ⟨t0, 0, none⟩), .slice ks.A ks.n ks.c, .slice v.A v.n v.c].toArray [.zone false h] [] (fun g : Nat => .iface 145 (.pointer (some ⟨g, 0, none⟩))) (fun g => [.blk g (Yf Qj3 0 (JP kb.length v.n)) 284]) := by
 have hS := Qaf h ks kb t0 Qj3 v he
 refine Qk Tryz.func36 rfl (n := 32) rfl rfl ?_
 intro W
 refine yR ?_
 refine yS rfl ?_
 refine yN ?_
 refine yR ?_
 refine yM rfl ?_
 refine yM rfl ?_
 refine yM rfl ?_
 refine Qh (hS.comes) rfl rfl rfl fun g13 => ?_
 refine yM rfl ?_
 refine Qb (Qj rfl rfl) ?_
 refine Qb (Qj rfl rfl) ?_
 refine Qo (Q0) fun g7 => ?_
 refine Q7 (Qw rfl rfl) ?_
 refine yS rfl ?_
 refine yN ?_
 refine Qd ?_
 refine yR ?_
 refine yM rfl ?_
 refine Qb (YP rfl) ?_
 refine yN ?_
 refine Qt rfl ?_
 refine Qn ?_
 refine Qc ?_
 refine yR ?_
 refine yM rfl ?_
 refine yS rfl ?_
 refine yN ?_
 refine Qs ?_
 exact Qu rfl rfl fun w s => ⟨g13, rfl, (same (L' := [.blk g13 (Yf Qj3 0 (JP kb.length v.n)) 284]) w s).res (List.Sublist.refl _) (by simp [Fa.wr])⟩
omit hn hk hml in
omit hT in
include ht in
theorem Qnl (he : kb.length = 32) (hvl : ∀ e ∈ m, e.val.length ≤ 1000000000) : QC Tryz.prog 39 [.pointer (some ⟨t0, 0, none⟩), .slice ks.A ks.n ks.c].toArray [.rd (some ⟨t0, 0, none⟩) [.pointer (some ⟨gh, 0, none⟩), .pointer p], .zone false h] [] (fun u : Option Addr × Nat => .tuple #[.slice u.1 (JQ (Ja m (keyOf kb))).length u.2, .bool (Ja m (keyOf kb)).isSome, .nilIface]) (fun u => [.own (.slice u.1 (JQ (Ja m (keyOf kb))).length u.2) (JQ (Ja m (keyOf kb))).length 5 1 (bc (JQ (Ja m (keyOf kb))))]) := by
 have hS := Qbi h ks kb t0 Qji ⟨none, 0, 0⟩ (by unfold JP; rw [if_pos he]; rfl)
 obtain ⟨D, w⟩ := QmH (key := keyOf kb) hal
 have hG := Qgx n h m p (keyOf kb) D w hvl
 generalize Ja m (keyOf kb) = o at *
 refine Qk Tryz.func39 rfl (n := 32) rfl rfl ?_
 intro W
 refine yR ?_
 refine yS rfl ?_
 refine yS rfl ?_
 refine yS rfl ?_
 refine yN ?_
 refine yR ?_
 refine yM rfl ?_
 refine yM rfl ?_
 refine Qh (hS.comes) rfl rfl rfl fun _ => ?_
 refine yM rfl ?_
 refine Qb (Qj rfl rfl) ?_
 refine Qb (Qj rfl rfl) ?_
 refine Qo (Q0) fun g7 => ?_
 refine Q7 (Qw rfl rfl) ?_
 refine yS rfl ?_
 refine yN ?_
 refine Qd ?_
 refine yR ?_
 refine yM rfl ?_
 refine Qb (Z4 rfl) ?_
 refine yN ?_
 refine Qt rfl ?_
 refine Qn ?_
 refine Qc ?_
 refine Qd ?_
 refine Q1 [.rd (some ⟨t0, 0, none⟩) [.pointer (some ⟨gh, 0, none⟩), .pointer p], .blk g7 (Entry.cells ⟨keyOf kb, ⟨none, 0, 0⟩⟩) 89] [] QJ (same) ?_
 refine Qa 0 rfl (Qi rfl) ?_
 refine Qa 1 rfl (QA rfl) ?_
 refine Qa 2 rfl (Qe rfl) ?_
 refine Qp 3 rfl (Qf rfl) ?_
 refine Qa 4 rfl (Qe rfl) ?_
 refine Qp 5 rfl (Qm rfl) ?_
 refine Qv 6 ?_
 refine QR 6 rfl (hG.comes) rfl rfl rfl (fun xx => same) fun ⟨A27, c27⟩ => ?_
 refine Qa 7 rfl (Qi rfl) ?_
 refine Qa 8 rfl (Qj rfl rfl) ?_
 refine Qa 9 rfl (Qj rfl rfl) ?_
 refine Qa 10 rfl (Q6 rfl) ?_
 refine Qa 11 rfl (Q6 rfl) ?_
 refine QB (by kernel_rfl) ?_
 refine Qc ?_
 refine yR ?_
 refine yM rfl ?_
 refine yM rfl ?_
 refine yS rfl ?_
 refine yS rfl ?_
 refine yS rfl ?_
 refine yN ?_
 refine Qs ?_
 exact qM rfl rfl rfl rfl fun w s => ⟨(A27, c27), rfl, (same (L' := [.own (.slice A27 (JQ o).length c27) (JQ o).length 5 1 (bc (JQ o))]) w s).res (List.Sublist.refl _) (by simp [Fa.wr])⟩
omit hT ht in
omit hn hk hal hml in
theorem Qkp (he : kb.length ≠ 32) : QC Tryz.prog 39 [.pointer (some ⟨t0, 0, none⟩), .slice ks.A ks.n ks.c].toArray [.zone false h] [] (fun g : Nat => .tuple #[.slice none 0 0, .bool false, .iface 145 (.pointer (some ⟨g, 0, none⟩))]) (fun g => [.blk g (Yf Qji 0 2) 284]) := by
 have h2 : JP kb.length (⟨none, 0, 0⟩ : Sl).n = 2 := by unfold JP; rw [if_neg he]
 have hS := Qaf h ks kb t0 Qji ⟨none, 0, 0⟩ (by rw [h2]; decide)
 rw [h2] at hS
 refine Qk Tryz.func39 rfl (n := 32) rfl rfl ?_
 intro W
 refine yR ?_
 refine yS rfl ?_
 refine yS rfl ?_
 refine yS rfl ?_
 refine yN ?_
 refine yR ?_
 refine yM rfl ?_
 refine yM rfl ?_
 refine Qh (hS.comes) rfl rfl rfl fun g14 => ?_
 refine yM rfl ?_
 refine Qb (Qj rfl rfl) ?_
 refine Qb (Qj rfl rfl) ?_
 refine Qo (Q0) fun g7 => ?_
 refine Q7 (Qw rfl rfl) ?_
 refine yS rfl ?_
 refine yN ?_
 refine Qd ?_
 refine yR ?_
 refine yM rfl ?_
 refine Qb (Qey rfl) ?_
 refine yN ?_
 refine Qz rfl ?_
 refine yR ?_
 refine yM rfl ?_
 refine yS rfl ?_
 refine yS rfl ?_
 refine yS rfl ?_
 refine yN ?_
 refine Qs ?_
 refine Qr ?_
 exact qM rfl rfl rfl rfl fun w s => ⟨g14, rfl, (same (L' := [.blk g14 (Yf Qji 0 2) 284]) w s).res (List.Sublist.refl _) (by simp [Fa.wr])⟩
theorem Qnk (he : kb.length = 32) : QC Tryz.prog 47 [.pointer (some ⟨t0, 0, none⟩), .slice ks.A ks.n ks.c].toArray [HR gh gc n] [.zone true h, CN gc k, JR t0 gh p] (fun u : {u : Zh × Option Addr × Nat // LeZ h u.1 ∧ TrZ n u.1 (mkT (Js m (keyOf kb)) 0) u.2.1 ∧ u.2.2 ≤ k + 771} => .tuple #[.bool (ZD m (keyOf kb)), .nilIface]) (fun u => [.zone true u.1.1, CN gc u.1.2.2, JR t0 gh u.1.2.1]) := by
 have hS := Qbi h ks kb t0 QgB ⟨none, 0, 0⟩ (by unfold JP; rw [if_pos he]; rfl)
 have hR := QjU n hn gh gc (keyOf kb) hal (by omega) h k p hT ht (by omega)
 generalize ZD m (keyOf kb) = b at *
 refine Qk Tryz.func47 rfl (n := 38) rfl rfl ?_
 intro W
 refine yR ?_
 refine yS rfl ?_
 refine yS rfl ?_
 refine yN ?_
 refine yR ?_
 refine yM rfl ?_
 refine yM rfl ?_
 refine Qh (hS.comes) rfl rfl rfl fun _ => ?_
 refine yM rfl ?_
 refine Qb (Qj rfl rfl) ?_
 refine Qb (Qj rfl rfl) ?_
 refine Qo (Q0) fun g6 => ?_
 refine Q7 (Qw rfl rfl) ?_
 refine yS rfl ?_
 refine yN ?_
 refine Qd ?_
 refine yR ?_
 refine yM rfl ?_
 refine Qb (Z4 rfl) ?_
 refine yN ?_
 refine Qt rfl ?_
 refine Qn ?_
 refine Qc ?_
 refine Qd ?_
 refine Q1 [.blk t0 [.pointer (some ⟨gh, 0, none⟩), .pointer p] 113, .blk g6 (Entry.cells ⟨keyOf kb, ⟨none, 0, 0⟩⟩) 89] [] QJ (same) ?_
 refine Qa 0 rfl (Qi rfl) ?_
 refine Qa 1 rfl (QA rfl) ?_
 refine Qa 2 rfl (Qe rfl) ?_
 refine Qp 3 rfl (Qf rfl) ?_
 refine Qa 4 rfl (Qi rfl) ?_
 refine Qa 5 rfl (QA rfl) ?_
 refine Qa 6 rfl (Qe rfl) ?_
 refine Qp 7 rfl (Qf rfl) ?_
 refine Qa 8 rfl (Qe rfl) ?_
 refine Qp 9 rfl (Qm rfl) ?_
 refine Qv 10 ?_
 refine QR 10 rfl (hR.comes) rfl rfl rfl (fun xx => same) fun ⟨⟨h1, q, k1⟩, hle, htq, hk1⟩ => ?_
 refine Qa 11 rfl (Qi rfl) ?_
 refine Qa 12 rfl (Qj rfl rfl) ?_
 refine Qa 13 rfl (Qj rfl rfl) ?_
 refine Qa 14 rfl (Q6 rfl) ?_
 refine Qa 15 rfl (Q6 rfl) ?_
 refine QB (by kernel_rfl) ?_
 refine Qc ?_
 dsimp only at hle htq hk1 ⊢
 refine yR ?_
 refine yM rfl ?_
 refine yM rfl ?_
 refine Qb (QA rfl) ?_
 refine Qb (Qe rfl) ?_
 refine Q7 (QV rfl rfl rfl) ?_
 refine yN ?_
 refine yR ?_
 refine yM rfl ?_
 refine yS rfl ?_
 refine yS rfl ?_
 refine yN ?_
 refine Qs ?_
 exact QO rfl rfl rfl fun w s => ⟨⟨(h1, q, k1), hle, htq, hk1⟩, rfl, (same (L' := [.zone true h1, CN gc k1, JR t0 gh q]) w s).res (List.Sublist.refl _) (by simp [Fa.wr])⟩
omit hT ht in
omit hn hk hal hml in
theorem Qko (he : kb.length ≠ 32) : QC Tryz.prog 47 [.pointer (some ⟨t0, 0, none⟩), .slice ks.A ks.n ks.c].toArray [.zone false h] [] (fun g : Nat => .tuple #[.bool false, .iface 145 (.pointer (some ⟨g, 0, none⟩))]) (fun g => [.blk g (Yf QgB 0 2) 284]) := by
 have h2 : JP kb.length (⟨none, 0, 0⟩ : Sl).n = 2 := by unfold JP; rw [if_neg he]
 have hS := Qaf h ks kb t0 QgB ⟨none, 0, 0⟩ (by rw [h2]; decide)
 rw [h2] at hS
 refine Qk Tryz.func47 rfl (n := 38) rfl rfl ?_
 intro W
 refine yR ?_
 refine yS rfl ?_
 refine yS rfl ?_
 refine yN ?_
 refine yR ?_
 refine yM rfl ?_
 refine yM rfl ?_
 refine Qh (hS.comes) rfl rfl rfl fun g13 => ?_
 refine yM rfl ?_
 refine Qb (Qj rfl rfl) ?_
 refine Qb (Qj rfl rfl) ?_
 refine Qo (Q0) fun g6 => ?_
 refine Q7 (Qw rfl rfl) ?_
 refine yS rfl ?_
 refine yN ?_
 refine Qd ?_
 refine yR ?_
 refine yM rfl ?_
 refine Qb (Qey rfl) ?_
 refine yN ?_
 refine Qz rfl ?_
 refine yR ?_
 refine yM rfl ?_
 refine yS rfl ?_
 refine yS rfl ?_
 refine yN ?_
 refine Qs ?_
 refine Qr ?_
 exact QO rfl rfl rfl fun w s => ⟨g13, rfl, (same (L' := [.blk g13 (Yf QgB 0 2) 284]) w s).res (List.Sublist.refl _) (by simp [Fa.wr])⟩
end
end
end Go.Proofs.YtjhlbbgikccclaaGreatDoor
