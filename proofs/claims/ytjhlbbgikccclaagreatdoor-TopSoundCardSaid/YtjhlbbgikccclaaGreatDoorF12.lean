/- joined texts -/
import Derived.Test.YtjhlbbgikccclaaGreatDoorF11
import Derived.Lib.BytesEntry
import Derived.Lib.Bytealg
import Derived.Stop.Asserts
import Derived.LaidEql
import Derived.LaidHandle
set_option linter.all false
namespace Go.Proofs.YtjhlbbgikccclaaGreatDoor
section
open Go.RowKit
instance iU92_1 : TIf Tryz.prog 43 := ⟨by kernel_rfl⟩
def Qog : Nat → Option (Nat × Nat) := fun i => ([(0, 1), (1, 1), (2, 1)] : List (Nat × Nat)).toArray[i]?
instance iU92_2 : Place Qog 0 0 1 := ⟨rfl⟩
instance iU92_3 : Place Qog 1 1 1 := ⟨rfl⟩
instance iU92_4 : Place Qog 2 2 1 := ⟨rfl⟩
instance iU92_5 : TB Tryz.prog 284 [.string ⟨#[]⟩, .int .i64 0, .nilIface] Qog := ⟨fun w ps cells h => QY (fl := _) Tryz.underlying284 (z := ([.string ⟨#[]⟩, .int .i64 0, .nilIface] : List Value).toArray) (n := 3) (by kernel_rfl) (pl := [(0, 1), (1, 1), (2, 1)]) (by kernel_rfl) h⟩
abbrev Yf (op : ByteArray) (i e : Int) : List Value := [.string op, .int .i64 i, .iface 54 (.int .i64 e)]
theorem ZU (op : ByteArray) (i e : Int) : QC Tryz.prog 107 [.string op, .int .i64 i, .iface 54 (.int .i64 e)].toArray [] [] (fun g : Nat => .iface 145 (.pointer (some ⟨g, 0, none⟩))) (fun g => [.blk g (Yf op i e) 284]) := by
 refine Qk Tryz.func107 rfl (n := 15) rfl rfl ?_
 intro W
 refine yR ?_
 refine yS rfl ?_
 refine yN ?_
 refine Qd ?_
 refine yR ?_
 refine yM rfl ?_
 refine Qb (YP rfl) ?_
 refine yN ?_
 refine Qt rfl ?_
 refine Qn ?_
 refine Qc ?_
 refine yR ?_
 refine yM rfl ?_
 refine yM rfl ?_
 refine yM rfl ?_
 refine Qb (QD rfl) ?_
 refine Qo (Q9 rfl) fun g13 => ?_
 refine Qb (qq rfl) ?_
 refine yS rfl ?_
 refine yN ?_
 refine Qs ?_
 exact Qu rfl rfl fun w s => ⟨g13, rfl, (same (L' := [.blk g13 (Yf op i e) 284]) w s).res (List.Sublist.refl _) (by simp [Fa.wr])⟩
def YX : Nat → Value
 | 0 => .func (.func 176) #[] #[]
 | 1 => .func (.func 178) #[] #[]
 | 2 => .func (.func 179) #[] #[]
 | 3 => .func (.func 180) #[] #[]
 | 4 => .func (.func 181) #[] #[]
 | _ => .func (.func 182) #[] #[]
instance (i : Nat) : Row [YX i] 1 := ⟨rfl, by intro v hv; rw [List.mem_singleton.1 hv]; unfold YX; split <;> rfl⟩
def Qae : List Value := [YX 0, YX 1, YX 2, YX 3, YX 4, YX 5]
theorem Yk (i : Nat) (f : Value) (h : Qae[i]? = some f) : ∀ j v, [f][j]? = some v → Qae[i + j]? = some v := fun j v hv => by
  cases j with
  | zero => obtain rfl : f = v := by simpa using hv
            exact h
  | succ j => simp at hv
theorem Qim : QC Tryz.prog 115 ([] : List Value).toArray [] [] (fun g : Nat => .slice (some ⟨g, 0, none⟩) 6 6) (fun g => [.own (.slice (some ⟨g, 0, none⟩) 6 6) 6 222 1 Qae]) := by
 refine Qk Tryz.func115 rfl (n := 8) rfl rfl ?_
 intro W
 refine yR ?_
 refine yS rfl ?_
 refine yN ?_
 refine yR ?_
 refine Qb (QD rfl) ?_
 refine Qb (QD rfl) ?_
 refine Qb (QD rfl) ?_
 refine Qb (QD rfl) ?_
 refine Qb (QD rfl) ?_
 refine Qb (QD rfl) ?_
 refine Qo (J8 rfl rfl) fun g7 => ?_
 refine yS rfl ?_
 refine yN ?_
 refine Qs ?_
 change H _ _ _ _ _ (.own _ _ _ _ Qae :: _) _
 exact Qu rfl rfl fun w s => ⟨g7, rfl, (same (L' := [.own (.slice (some ⟨g7, 0, none⟩) 6 6) 6 222 1 Qae]) w s).res (List.Sublist.refl _) (by simp [Fa.wr])⟩
def Qdk : Except Int DP → Int
 | .ok _ => 0
 | .error e => e
def prD : Except Int DP → Option Addr → Nat → Proof
 | .ok p, A, c => p.pr A c
 | .error _, _, _ => Jr
theorem QoF (z : Zh) (g : Nat) (x : Chk) (bb : List UInt8) [hb : SlZ z x.b bb] (hbl : bb.length ≤ 100000000) (r : Except Int DP) (hr : Ya bb = r) : QC Tryz.prog 180 [.pointer (some ⟨g, 0, none⟩)].toArray [] [.zone true z, .blk g x.cells 217] (fun u : {u : Zh × Option Addr × Nat // LeZ z u.1 ∧ ∀ p, r = .ok p → RdZ u.1 u.2.1 (dgs p.ss)} => .int .i64 (Qdk r)) (fun u => [.zone true u.1.1, .blk g (Chk.cells { x with p := prD r u.1.2.1 u.1.2.2 }) 217]) := by
 have hbn := hb.len
 have hbc := hb.cap
 have hbr : RdZ z x.b.A (bc bb) := hb.rd
 have hD := QeH z bb hbl x.b.A x.b.c (by omega)
 rw [hr, ← hbn] at hD
 rcases r with e | p
 ·replace hD : QC Tryz.prog 24 [.slice x.b.A x.b.n x.b.c].toArray [.zone false z] [] (fun _ : Option Addr × Nat => .tuple #[.agg Jr.cells.toArray, .int .i64 e]) (fun _ => []) := hD
  refine Qk Tryz.func180 rfl (n := 15) rfl rfl ?_
  intro W
  refine yR ?_
  refine yS rfl ?_
  refine yN ?_
  refine yR ?_
  refine yM rfl ?_
  refine yM rfl ?_
  refine Qb (QA rfl) ?_
  refine Qb (Qe rfl) ?_
  refine Qb (Qf rfl) ?_
  refine Qh (hD.comes) rfl rfl rfl fun u => ?_
  refine yM rfl ?_
  refine Qb (Qj rfl rfl) ?_
  refine Qb (Qj rfl rfl) ?_
  refine Qb (QA rfl) ?_
  refine Qb (Qe rfl) ?_
  refine Q7 (Qw rfl rfl) ?_
  refine yS rfl ?_
  refine yN ?_
  refine yR ?_
  refine yM rfl ?_
  refine yS rfl ?_
  refine yN ?_
  refine Qs ?_
  exact Qu rfl rfl fun w s => ⟨⟨(z, none, 0), LeZ.refl z, fun p h => by cases h⟩, rfl, (same (L' := [.zone true z, .blk g (Chk.cells { x with p := Jr }) 217]) w s).res (List.Sublist.refl _) (by simp [Fa.wr])⟩
 replace hD : QC Tryz.prog 24 [.slice x.b.A x.b.n x.b.c].toArray [.zone false z] [] (fun u : Option Addr × Nat => .tuple #[.agg (p.pr u.1 u.2).cells.toArray, .int .i64 0]) (fun u => [.own (.slice u.1 p.ss.length u.2) p.ss.length 45 32 (dgs p.ss)]) := hD
 refine Qk Tryz.func180 rfl (n := 15) rfl rfl ?_
 intro W
 refine yR ?_
 refine yS rfl ?_
 refine yN ?_
 refine yR ?_
 refine yM rfl ?_
 refine yM rfl ?_
 refine Qb (QA rfl) ?_
 refine Qb (Qe rfl) ?_
 refine Qb (Qf rfl) ?_
 refine Qh (hD.comes) rfl rfl rfl fun ⟨A9, c9⟩ => ?_
 dsimp only
 refine Jp (.slice A9 p.ss.length c9) fun z2 B2 c2 e2 hle2 hlen2 hnil2 hz2 hr2 => ?_
 injection e2 with e2 _ e3
 subst e2 e3
 refine yM rfl ?_
 refine Qb (Qj rfl rfl) ?_
 refine Qb (Qj rfl rfl) ?_
 refine Qb (QA rfl) ?_
 refine Qb (Qe rfl) ?_
 refine Q7 (Qw rfl rfl) ?_
 refine yS rfl ?_
 refine yN ?_
 refine yR ?_
 refine yM rfl ?_
 refine yS rfl ?_
 refine yN ?_
 refine Qs ?_
 exact Qu rfl rfl fun w s => ⟨⟨(z2, A9, c9), hz2, fun q h => by injection h with h; subst h; exact hr2⟩, rfl, (same (L' := [.zone true z2, .blk g (Chk.cells { x with p := p.pr A9 c9 }) 217]) w s).res (List.Sublist.refl _) (by simp [Fa.wr])⟩
section
variable (n : Nat) (hn : n ≤ 256) (h : Zh) [hT : RdZ h (some ⟨1, 0, none⟩) Jd] (gh gc k g : Nat) (hk : k ≤ 1000000000) (x : Chk) (hxh : x.h = some ⟨gh, 0, none⟩) (kb vb : List UInt8) [hK : SlZ h x.c.key kb] (hkl : kb.length = 32)
include hn hk hxh hkl
theorem QoG [hV : SlZ h x.c.value vb] (hvl : vb.length ≤ 100000000) (b : Bool) (hb : qt x.p (keyOf kb) (ZF n x.c.present vb) x.c.present = b) : QC Tryz.prog 181 [.pointer (some ⟨g, 0, none⟩)].toArray [HR gh gc n, .zone false h, .rd (some ⟨g, 0, none⟩) x.cells] [CN gc k] (fun _ : Unit => .int .i64 (if b then 0 else 12)) (fun _ => [CN gc (k + if x.c.present then 1 else 0)]) := by
 have hS := QcK n hn h gh gc k g hk x hxh kb vb hkl hvl
 have hw := Zp (!b) 12
 rw [hb] at hS
 rw [show (if b then (0 : Int) else 12) = if (!b) then 12 else 0 by cases b <;> rfl]
 refine Qk Tryz.func181 rfl (n := 7) rfl rfl ?_
 intro W
 refine yR ?_
 refine yS rfl ?_
 refine yN ?_
 refine yR ?_
 refine yM rfl ?_
 refine Qh (hS.comes) rfl rfl rfl fun _ => ?_
 refine Qb (Ji rfl) ?_
 refine Qh (hw.comes) rfl rfl rfl fun _ => ?_
 refine yS rfl ?_
 refine yN ?_
 refine Qs ?_
 exact Qu rfl rfl fun w s => ⟨(), rfl, (same (L' := [CN gc (k + if x.c.present then 1 else 0)]) w s).res (List.Sublist.refl _) (by simp [Fa.wr])⟩
theorem QoH (rb : List UInt8) [hR : SlZ h x.root rb] (hrl : rb.length = 32) (p : DP) (A : Option Addr) (c : Nat) (hp : x.p = p.pr A c) (hck : Jk (p.pr none 0) = 0) [hS : RdZ h A (dgs p.ss)] (b : Bool) (hb : decide (qy n p (keyOf kb) = keyOf rb) = b) : QC Tryz.prog 182 [.pointer (some ⟨g, 0, none⟩)].toArray [HR gh gc n, .zone false h, .rd (some ⟨g, 0, none⟩) x.cells] [CN gc k] (fun _ : Unit => .int .i64 (if b then 0 else 13)) (fun _ => [CN gc (k + 1 + p.d + 1)]) := by
 have hL := QhQ n hn h gh gc k g hk x hxh kb hkl rb hrl p A c hp hck
 have hw := Zp (!b) 13
 rw [hb] at hL
 rw [show (if b then (0 : Int) else 13) = if (!b) then 13 else 0 by cases b <;> rfl]
 refine Qk Tryz.func182 rfl (n := 7) rfl rfl ?_
 intro W
 refine yR ?_
 refine yS rfl ?_
 refine yN ?_
 refine yR ?_
 refine yM rfl ?_
 refine Qh (hL.comes) rfl rfl rfl fun _ => ?_
 refine Qb (Ji rfl) ?_
 refine Qh (hw.comes) rfl rfl rfl fun _ => ?_
 refine yS rfl ?_
 refine yN ?_
 refine Qs ?_
 exact Qu rfl rfl fun w s => ⟨(), rfl, (same (L' := [CN gc (k + 1 + p.d + 1)]) w s).res (List.Sublist.refl _) (by simp [Fa.wr])⟩
end
def Je (n : Nat) (root : Sl) (c : Claim) (rb kb vb bb : List UInt8) : Nat → Int
 | 0 => YM ⟨none, root, c, ⟨none, 0, 0⟩, Jr⟩ 0
 | 1 => YM ⟨none, root, c, ⟨none, 0, 0⟩, Jr⟩ 1
 | 2 => YM ⟨none, root, c, ⟨none, 0, 0⟩, Jr⟩ 2
 | 3 => Qdk (Ya bb)
 | 4 => match Ya bb with
  | .ok p => if qt (p.pr none 0) (keyOf kb) (ZF n c.present vb) c.present then 0 else 12
  | .error _ => 0
 | _ => match Ya bb with
  | .ok p => if decide (qy n p (keyOf kb) = keyOf rb) then 0 else 13
  | .error _ => 0
def qd (code : Nat → Int) : Nat → Nat → Option (Nat × Int)
 | 0, _ => none
 | m + 1, i => if code i = 0 then qd code m (i + 1) else some (i, code i)
def Yc (code : Nat → Int) : Option (Nat × Int) := qd code 6 0
theorem qn (code : Nat → Int) : ∀ m i, (∀ j, i ≤ j → j < i + m → code j = 0) → qd code m i = none
 | 0, _, _ => rfl
 | m + 1, i, h => by
  unfold qd
  rw [if_pos (h i (Nat.le_refl _) (by omega))]
  exact qn code m (i + 1) fun j h1 h2 => h j (by omega) (by omega)
theorem JF (code : Nat → Int) (e : Nat) (he : code e ≠ 0) : ∀ m i, i ≤ e → e < i + m → (∀ j, i ≤ j → j < e → code j = 0) → qd code m i = some (e, code e)
 | 0, i, h1, h2, _ => by omega
 | m + 1, i, h1, h2, h => by
  unfold qd
  rcases Nat.lt_or_ge i e with h3 | h3
  ·rw [if_pos (h i (Nat.le_refl _) h3)]
   exact JF code e he m (i + 1) h3 (by omega) fun j a b => h j (by omega) b
  obtain rfl : i = e := by omega
  rw [if_neg he]
structure VInv (n k : Nat) (h : Zh) (root : Sl) (c : Claim) (rb kb vb bb : List UInt8) (i : Nat) (z : Zh) (p : Proof) (k' : Nat) : Prop where
 le : LeZ h z
 i6 : i ≤ 6
 zero : ∀ j, j < i → Je n root c rb kb vb bb j = 0
 dec : 4 ≤ i → ∃ q A c', Ya bb = .ok q ∧ p = q.pr A c' ∧ RdZ z A (dgs q.ss)
 cnt : k' ≤ k + (if i ≤ 4 then 0 else if i = 5 then 1 else 259)
theorem Qh9 {l : List UInt8} {p : DP} (h : Ya l = .ok p) : Jk (p.pr none 0) = 0 := by
 unfold Ya at h
 split at h
 ·cases h
 split at h
 ·cases h
 split at h
 ·cases h
 split at h
 ·cases h
 split at h
 ·injection h with h
  subst h
  assumption
 cases h
theorem Qfi {l : List UInt8} {e : Int} (h : Ya l = .error e) : e ≠ 0 := by
 unfold Ya at h
 split at h
 ·injection h with h; omega
 split at h
 ·injection h with h; omega
 split at h
 ·injection h with h; omega
 split at h
 ·injection h with h; omega
 split at h
 ·cases h
 injection h with h; omega
def Yd : ByteArray := ⟨#[118, 101, 114, 105, 102, 121]⟩
def Qr9 : Option (Nat × Int) → Nat → Value
 | none, _ => .nilIface
 | some _, g => .iface 145 (.pointer (some ⟨g, 0, none⟩))
def Qfo : Option (Nat × Int) → Nat → List Fa
 | none, _ => []
 | some (i, e), g => [.blk g (Yf Yd (i : Int) e) 284]
section
variable (n : Nat) (hn : n ≤ 256) (h : Zh) [hT : RdZ h (some ⟨1, 0, none⟩) Jd] (gh gc k : Nat) (hk : k ≤ 100000000) (root : Sl) (c : Claim) (b : Sl) (rb kb vb bb : List UInt8) [hR : SlZ h root rb] [hK : SlZ h c.key kb] [hV : SlZ h c.value vb] [hB : SlZ h b bb] (hvl : vb.length ≤ 100000000) (hbl : bb.length ≤ 100000000)
include hn hk hvl hbl
theorem Qks : QC Tryz.prog 59 [.pointer (some ⟨gh, 0, none⟩), .slice root.A root.n root.c, .agg c.cells.toArray, .slice b.A b.n b.c].toArray [HR gh gc n] [.zone true h, CN gc k] (fun u : {u : Nat × Zh × Nat // LeZ h u.2.1 ∧ u.2.2 ≤ k + 259} => Qr9 (Yc (Je n root c rb kb vb bb)) u.1.1) (fun u => .zone true u.1.2.1 :: CN gc u.1.2.2 :: Qfo (Yc (Je n root c rb kb vb bb)) u.1.1) := by
 have hkn := hK.len
 have hrn := hR.len
 refine Qk Tryz.func59 rfl (n := 37) rfl rfl ?_
 intro W
 refine yR ?_
 refine Qo (Q9 rfl) fun g6 => ?_
 refine yS rfl ?_
 refine yN ?_
 refine yR ?_
 refine yM rfl ?_
 refine yM rfl ?_
 refine Qb (Qm rfl) ?_
 refine yM rfl ?_
 refine Qb (QD rfl) ?_
 refine Qo (Q9 rfl) fun g18 => ?_
 refine yS rfl ?_
 refine yN ?_
 refine Qd ?_
 refine yR ?_
 refine Qh (Qim.comes) rfl rfl rfl fun g19 => ?_
 dsimp only
 refine Qb (QF rfl) ?_
 refine yM rfl ?_
 refine yN ?_
 refine Qq ?_
 change H _ _ _ _ _ (_ :: .blk g18 (Chk.cells ⟨some ⟨gh, 0, none⟩, root, c, b, Jr⟩) _ :: _) _
 refine QS (fun (s : Nat × Zh × Proof × Nat) => VInv n k h root c rb kb vb bb s.1 s.2.1 s.2.2.1 s.2.2.2) (fun (s : Nat × Zh × Proof × Nat) => [(9, .pointer (some ⟨g18, 0, none⟩)), (19, .slice (some ⟨g19, 0, none⟩) 6 6), (20, .int .i64 6), (21, .int .i64 (s.1 : Int))]) (fun (s : Nat × Zh × Proof × Nat) => [.zone true s.2.1, .own (.slice (some ⟨g19, 0, none⟩) 6 6) 6 222 1 Qae, .blk g18 (Chk.cells ⟨some ⟨gh, 0, none⟩, root, c, b, s.2.2.1⟩) 217, CN gc s.2.2.2, HR gh gc n]) (fun (s : Nat × Zh × Proof × Nat) => 6 - s.1) (0, h, Jr, k) (⟨LeZ.refl h, Nat.zero_le _, fun j h => absurd h (Nat.not_lt_zero _), fun h => absurd h (by dsimp only; decide), by simp⟩) ⟨rfl, rfl, rfl, rfl, trivial⟩ (same) ?_
 rintro ⟨i, z, p, k'⟩ hI
 have hle := hI.le
 have hi6 := hI.i6
 have hz := hI.zero
 have hde := hI.dec
 have hkc := hI.cnt
 clear hI
 dsimp only at hle hi6 hz hde hkc ⊢
 have hTz : RdZ z (some ⟨1, 0, none⟩) Jd := hT.mono hle
 have hKz : SlZ z c.key kb := hK.mono hle
 have hVz : SlZ z c.value vb := hV.mono hle
 have hRz : SlZ z root rb := hR.mono hle
 have hBz : SlZ z b bb := hB.mono hle
 rcases (by omega : i = 0 ∨ i = 1 ∨ i = 2 ∨ i = 3 ∨ i = 4 ∨ i = 5 ∨ i = 6) with rfl | rfl | rfl | rfl | rfl | rfl | rfl
 ·refine Qd ?_
  refine Q5 ?_
  refine Qb (Ql (QT rfl rfl) rfl) ?_
  refine yN ?_
  refine Qd ?_
  refine Qz rfl ?_
  have hs := QoE ⟨some ⟨gh, 0, none⟩, root, c, b, p⟩ g18
  rw [show YM ⟨some ⟨gh, 0, none⟩, root, c, b, p⟩ 0 = Je n root c rb kb vb bb 0 from rfl] at hs
  refine Qn ?_
  refine Qc ?_
  refine Qd ?_
  refine Qq ?_
  refine yR ?_
  refine yM rfl ?_
  refine Qb (QQ rfl rfl (m := 0) (hm := by decide)) ?_
  refine Qb (Jm (off := 0) rfl (out := [YX 0]) rfl (Yk 0 _ rfl)) ?_
  refine Qo (Q0) fun g11 => ?_
  refine yS rfl ?_
  refine Q7 (Qw rfl rfl) ?_
  refine yN ?_
  refine yR ?_
  refine Qb (Qe rfl) ?_
  refine Qb (Qf rfl) ?_
  refine yM rfl ?_
  refine Qh (hs.comes) rfl rfl rfl fun _ => ?_
  by_cases hc0 : Je n root c rb kb vb bb 0 = 0
  ·rw [hc0]
   refine yS rfl ?_
   refine yN ?_
   refine yR ?_
   refine yM rfl ?_
   refine Qb (Ql (QL rfl rfl) rfl) ?_
   refine yN ?_
   refine Qt rfl ?_
   refine Qn ?_
   refine Q2 ?_
   refine Qc ?_
   refine Q5 ?_
   refine Qb (QI rfl rfl) ?_
   refine yM rfl ?_
   refine QE ?_
   exact QH (1, z, p, k') (⟨hle, by dsimp only; decide, fun j hj => (Nat.lt_or_ge j 0).elim (hz j) fun h8 => by (obtain rfl : j = 0 := by omega); exact hc0, fun h9 => absurd h9 (by dsimp only; decide), by simpa using hkc⟩) ((show 6 - 1 < 6 - 0 by decide)) ⟨rfl, rfl, rfl, rfl, trivial⟩ (same)
  rw [show Yc (Je n root c rb kb vb bb) = some (0, Je n root c rb kb vb bb 0) from JF (Je n root c rb kb vb bb) 0 hc0 6 0 (by decide) (by decide) (fun j _ hj => hz j hj)]
  refine yS rfl ?_
  refine yN ?_
  refine yR ?_
  refine yM rfl ?_
  refine Qb (Ql (QL rfl rfl) (decide_eq_true hc0)) ?_
  refine yN ?_
  refine Qz rfl ?_
  refine yR ?_
  refine yM rfl ?_
  refine yM rfl ?_
  refine Qb (qq rfl) ?_
  refine Qh ((ZU Yd 0 (Je n root c rb kb vb bb 0)).comes) rfl rfl rfl fun g35 => ?_
  refine yS rfl ?_
  refine yN ?_
  refine Qs ?_
  refine Q3 ?_
  refine Qr ?_
  refine Qr ?_
  refine Q3 ?_
  refine Qr ?_
  exact Qu rfl rfl fun w s => ⟨⟨(g35, z, k'), hle, by dsimp only; simp at hkc; omega⟩, rfl, (same (L' := [.zone true z, CN gc k', .blk g35 (Yf Yd 0 (Je n root c rb kb vb bb 0)) 284]) w s).res (List.Sublist.refl _) (by simp [Fa.wr, Qfo])⟩
 ·refine Qd ?_
  refine Q5 ?_
  refine Qb (Ql (QT rfl rfl) rfl) ?_
  refine yN ?_
  refine Qd ?_
  refine Qz rfl ?_
  have hs := Qik ⟨some ⟨gh, 0, none⟩, root, c, b, p⟩ g18
  rw [show YM ⟨some ⟨gh, 0, none⟩, root, c, b, p⟩ 1 = Je n root c rb kb vb bb 1 from rfl] at hs
  refine Qn ?_
  refine Qc ?_
  refine Qd ?_
  refine Qq ?_
  refine yR ?_
  refine yM rfl ?_
  refine Qb (QQ rfl rfl (m := 1) (hm := by decide)) ?_
  refine Qb (Jm (off := 1) rfl (out := [YX 1]) rfl (Yk 1 _ rfl)) ?_
  refine Qo (Q0) fun g11 => ?_
  refine yS rfl ?_
  refine Q7 (Qw rfl rfl) ?_
  refine yN ?_
  refine yR ?_
  refine Qb (Qe rfl) ?_
  refine Qb (Qf rfl) ?_
  refine yM rfl ?_
  refine Qh (hs.comes) rfl rfl rfl fun _ => ?_
  by_cases hc0 : Je n root c rb kb vb bb 1 = 0
  ·rw [hc0]
   refine yS rfl ?_
   refine yN ?_
   refine yR ?_
   refine yM rfl ?_
   refine Qb (Ql (QL rfl rfl) rfl) ?_
   refine yN ?_
   refine Qt rfl ?_
   refine Qn ?_
   refine Q2 ?_
   refine Qc ?_
   refine Q5 ?_
   refine Qb (QI rfl rfl) ?_
   refine yM rfl ?_
   refine QE ?_
   exact QH (2, z, p, k') (⟨hle, by dsimp only; decide, fun j hj => (Nat.lt_or_ge j 1).elim (hz j) fun h8 => by (obtain rfl : j = 1 := by omega); exact hc0, fun h9 => absurd h9 (by dsimp only; decide), by simpa using hkc⟩) ((show 6 - 2 < 6 - 1 by decide)) ⟨rfl, rfl, rfl, rfl, trivial⟩ (same)
  rw [show Yc (Je n root c rb kb vb bb) = some (1, Je n root c rb kb vb bb 1) from JF (Je n root c rb kb vb bb) 1 hc0 6 0 (by decide) (by decide) (fun j _ hj => hz j hj)]
  refine yS rfl ?_
  refine yN ?_
  refine yR ?_
  refine yM rfl ?_
  refine Qb (Ql (QL rfl rfl) (decide_eq_true hc0)) ?_
  refine yN ?_
  refine Qz rfl ?_
  refine yR ?_
  refine yM rfl ?_
  refine yM rfl ?_
  refine Qb (qq rfl) ?_
  refine Qh ((ZU Yd 1 (Je n root c rb kb vb bb 1)).comes) rfl rfl rfl fun g35 => ?_
  refine yS rfl ?_
  refine yN ?_
  refine Qs ?_
  refine Q3 ?_
  refine Qr ?_
  refine Qr ?_
  refine Q3 ?_
  refine Qr ?_
  exact Qu rfl rfl fun w s => ⟨⟨(g35, z, k'), hle, by dsimp only; simp at hkc; omega⟩, rfl, (same (L' := [.zone true z, CN gc k', .blk g35 (Yf Yd 1 (Je n root c rb kb vb bb 1)) 284]) w s).res (List.Sublist.refl _) (by simp [Fa.wr, Qfo])⟩
 ·refine Qd ?_
  refine Q5 ?_
  refine Qb (Ql (QT rfl rfl) rfl) ?_
  refine yN ?_
  refine Qd ?_
  refine Qz rfl ?_
  have hs := Qil ⟨some ⟨gh, 0, none⟩, root, c, b, p⟩ g18
  rw [show YM ⟨some ⟨gh, 0, none⟩, root, c, b, p⟩ 2 = Je n root c rb kb vb bb 2 from rfl] at hs
  refine Qn ?_
  refine Qc ?_
  refine Qd ?_
  refine Qq ?_
  refine yR ?_
  refine yM rfl ?_
  refine Qb (QQ rfl rfl (m := 2) (hm := by decide)) ?_
  refine Qb (Jm (off := 2) rfl (out := [YX 2]) rfl (Yk 2 _ rfl)) ?_
  refine Qo (Q0) fun g11 => ?_
  refine yS rfl ?_
  refine Q7 (Qw rfl rfl) ?_
  refine yN ?_
  refine yR ?_
  refine Qb (Qe rfl) ?_
  refine Qb (Qf rfl) ?_
  refine yM rfl ?_
  refine Qh (hs.comes) rfl rfl rfl fun _ => ?_
  by_cases hc0 : Je n root c rb kb vb bb 2 = 0
  ·rw [hc0]
   refine yS rfl ?_
   refine yN ?_
   refine yR ?_
   refine yM rfl ?_
   refine Qb (Ql (QL rfl rfl) rfl) ?_
   refine yN ?_
   refine Qt rfl ?_
   refine Qn ?_
   refine Q2 ?_
   refine Qc ?_
   refine Q5 ?_
   refine Qb (QI rfl rfl) ?_
   refine yM rfl ?_
   refine QE ?_
   exact QH (3, z, p, k') (⟨hle, by dsimp only; decide, fun j hj => (Nat.lt_or_ge j 2).elim (hz j) fun h8 => by (obtain rfl : j = 2 := by omega); exact hc0, fun h9 => absurd h9 (by dsimp only; decide), by simpa using hkc⟩) ((show 6 - 3 < 6 - 2 by decide)) ⟨rfl, rfl, rfl, rfl, trivial⟩ (same)
  rw [show Yc (Je n root c rb kb vb bb) = some (2, Je n root c rb kb vb bb 2) from JF (Je n root c rb kb vb bb) 2 hc0 6 0 (by decide) (by decide) (fun j _ hj => hz j hj)]
  refine yS rfl ?_
  refine yN ?_
  refine yR ?_
  refine yM rfl ?_
  refine Qb (Ql (QL rfl rfl) (decide_eq_true hc0)) ?_
  refine yN ?_
  refine Qz rfl ?_
  refine yR ?_
  refine yM rfl ?_
  refine yM rfl ?_
  refine Qb (qq rfl) ?_
  refine Qh ((ZU Yd 2 (Je n root c rb kb vb bb 2)).comes) rfl rfl rfl fun g35 => ?_
  refine yS rfl ?_
  refine yN ?_
  refine Qs ?_
  refine Q3 ?_
  refine Qr ?_
  refine Qr ?_
  refine Q3 ?_
  refine Qr ?_
  exact Qu rfl rfl fun w s => ⟨⟨(g35, z, k'), hle, by dsimp only; simp at hkc; omega⟩, rfl, (same (L' := [.zone true z, CN gc k', .blk g35 (Yf Yd 2 (Je n root c rb kb vb bb 2)) 284]) w s).res (List.Sublist.refl _) (by simp [Fa.wr, Qfo])⟩
 ·refine Qd ?_
  refine Q5 ?_
  refine Qb (Ql (QT rfl rfl) rfl) ?_
  refine yN ?_
  refine Qd ?_
  refine Qz rfl ?_
  refine Qn ?_
  refine Qc ?_
  refine Qd ?_
  refine Qq ?_
  refine yR ?_
  refine yM rfl ?_
  refine Qb (QQ rfl rfl (m := 3) (hm := by decide)) ?_
  refine Qb (Jm (off := 3) rfl (out := [YX 3]) rfl (Yk 3 _ rfl)) ?_
  refine Qo (Q0) fun g11 => ?_
  refine yS rfl ?_
  refine Q7 (Qw rfl rfl) ?_
  refine yN ?_
  refine yR ?_
  refine Qb (Qe rfl) ?_
  refine Qb (Qf rfl) ?_
  refine yM rfl ?_
  refine Qh ((QoF z g18 ⟨some ⟨gh, 0, none⟩, root, c, b, p⟩ bb hbl _ rfl).comes) rfl rfl rfl fun ⟨⟨z2, A9, c9⟩, hz2, hr2⟩ => ?_
  dsimp only at hz2 hr2 ⊢
  rw [show Qdk (Ya bb) = Je n root c rb kb vb bb 3 from rfl]
  by_cases hc0 : Je n root c rb kb vb bb 3 = 0
  ·rw [hc0]
   refine yS rfl ?_
   refine yN ?_
   refine yR ?_
   refine yM rfl ?_
   refine Qb (Ql (QL rfl rfl) rfl) ?_
   refine yN ?_
   refine Qt rfl ?_
   refine Qn ?_
   refine Q2 ?_
   refine Qc ?_
   refine Q5 ?_
   refine Qb (QI rfl rfl) ?_
   refine yM rfl ?_
   refine QE ?_
   have hd3 : ∃ q A c', Ya bb = .ok q ∧ prD (Ya bb) A9 c9 = q.pr A c' ∧ RdZ z2 A (dgs q.ss) := by
    rcases hd : Ya bb with e | q
    ·refine (Qfi hd ?_).elim
     rw [show Je n root c rb kb vb bb 3 = Qdk (Ya bb) from rfl, hd] at hc0
     exact hc0
    exact ⟨q, A9, c9, rfl, rfl, hr2 q hd⟩
   exact QH (4, z2, (prD (Ya bb) A9 c9), k') (⟨hle.trans hz2, by dsimp only; decide, fun j hj => (Nat.lt_or_ge j 3).elim (hz j) fun h8 => by (obtain rfl : j = 3 := by omega); exact hc0, fun _ => hd3, by simpa using hkc⟩) ((show 6 - 4 < 6 - 3 by decide)) ⟨rfl, rfl, rfl, rfl, trivial⟩ (same)
  rw [show Yc (Je n root c rb kb vb bb) = some (3, Je n root c rb kb vb bb 3) from JF (Je n root c rb kb vb bb) 3 hc0 6 0 (by decide) (by decide) (fun j _ hj => hz j hj)]
  refine yS rfl ?_
  refine yN ?_
  refine yR ?_
  refine yM rfl ?_
  refine Qb (Ql (QL rfl rfl) (decide_eq_true hc0)) ?_
  refine yN ?_
  refine Qz rfl ?_
  refine yR ?_
  refine yM rfl ?_
  refine yM rfl ?_
  refine Qb (qq rfl) ?_
  refine Qh ((ZU Yd 3 (Je n root c rb kb vb bb 3)).comes) rfl rfl rfl fun g35 => ?_
  refine yS rfl ?_
  refine yN ?_
  refine Qs ?_
  refine Q3 ?_
  refine Qr ?_
  refine Qr ?_
  refine Q3 ?_
  refine Qr ?_
  exact Qu rfl rfl fun w s => ⟨⟨(g35, z2, k'), hle.trans hz2, by dsimp only; simp at hkc; omega⟩, rfl, (same (L' := [.zone true z2, CN gc k', .blk g35 (Yf Yd 3 (Je n root c rb kb vb bb 3)) 284]) w s).res (List.Sublist.refl _) (by simp [Fa.wr, Qfo])⟩
 ·refine Qd ?_
  refine Q5 ?_
  refine Qb (Ql (QT rfl rfl) rfl) ?_
  refine yN ?_
  refine Qd ?_
  refine Qz rfl ?_
  obtain ⟨q, A9, c9, hq, rfl, hqs⟩ := hde (by decide)
  have hkn2 : kb.length = 32 := by
   have h1 := hz 1 (by decide)
   rw [show Je n root c rb kb vb bb 1 = if c.key.n = 32 then 0 else 2 from rfl] at h1
   split at h1
   ·omega
   cases h1
  have hck := Qh9 hq
  have hs := QoG n hn z gh gc k' g18 (by simp at hkc; omega) ⟨some ⟨gh, 0, none⟩, root, c, b, q.pr A9 c9⟩ rfl kb vb hkn2 hvl _ rfl
  rw [show (if qt (q.pr A9 c9) (keyOf kb) (ZF n c.present vb) c.present then (0 : Int) else 12) = Je n root c rb kb vb bb 4 by unfold Je; rw [hq]; rfl] at hs
  refine Qn ?_
  refine Qc ?_
  refine Qd ?_
  refine Qq ?_
  refine yR ?_
  refine yM rfl ?_
  refine Qb (QQ rfl rfl (m := 4) (hm := by decide)) ?_
  refine Qb (Jm (off := 4) rfl (out := [YX 4]) rfl (Yk 4 _ rfl)) ?_
  refine Qo (Q0) fun g11 => ?_
  refine yS rfl ?_
  refine Q7 (Qw rfl rfl) ?_
  refine yN ?_
  refine yR ?_
  refine Qb (Qe rfl) ?_
  refine Qb (Qf rfl) ?_
  refine yM rfl ?_
  refine Qh (hs.comes) rfl rfl rfl fun _ => ?_
  by_cases hc0 : Je n root c rb kb vb bb 4 = 0
  ·rw [hc0]
   refine yS rfl ?_
   refine yN ?_
   refine yR ?_
   refine yM rfl ?_
   refine Qb (Ql (QL rfl rfl) rfl) ?_
   refine yN ?_
   refine Qt rfl ?_
   refine Qn ?_
   refine Q2 ?_
   refine Qc ?_
   refine Q5 ?_
   refine Qb (QI rfl rfl) ?_
   refine yM rfl ?_
   refine QE ?_
   exact QH (5, z, (q.pr A9 c9), (k' + if c.present then 1 else 0)) (⟨hle, by dsimp only; decide, fun j hj => (Nat.lt_or_ge j 4).elim (hz j) fun h8 => by (obtain rfl : j = 4 := by omega); exact hc0, fun _ => ⟨q, A9, c9, hq, rfl, hqs⟩, by simp at hkc ⊢; split <;> omega⟩) ((show 6 - 5 < 6 - 4 by decide)) ⟨rfl, rfl, rfl, rfl, trivial⟩ (same)
  rw [show Yc (Je n root c rb kb vb bb) = some (4, Je n root c rb kb vb bb 4) from JF (Je n root c rb kb vb bb) 4 hc0 6 0 (by decide) (by decide) (fun j _ hj => hz j hj)]
  refine yS rfl ?_
  refine yN ?_
  refine yR ?_
  refine yM rfl ?_
  refine Qb (Ql (QL rfl rfl) (decide_eq_true hc0)) ?_
  refine yN ?_
  refine Qz rfl ?_
  refine yR ?_
  refine yM rfl ?_
  refine yM rfl ?_
  refine Qb (qq rfl) ?_
  refine Qh ((ZU Yd 4 (Je n root c rb kb vb bb 4)).comes) rfl rfl rfl fun g35 => ?_
  refine yS rfl ?_
  refine yN ?_
  refine Qs ?_
  refine Q3 ?_
  refine Qr ?_
  refine Qr ?_
  refine Q3 ?_
  refine Qr ?_
  exact Qu rfl rfl fun w s => ⟨⟨(g35, z, (k' + if c.present then 1 else 0)), hle, by dsimp only; simp at hkc; split <;> omega⟩, rfl, (same (L' := [.zone true z, CN gc (k' + if c.present then 1 else 0), .blk g35 (Yf Yd 4 (Je n root c rb kb vb bb 4)) 284]) w s).res (List.Sublist.refl _) (by simp [Fa.wr, Qfo])⟩
 ·refine Qd ?_
  refine Q5 ?_
  refine Qb (Ql (QT rfl rfl) rfl) ?_
  refine yN ?_
  refine Qd ?_
  refine Qz rfl ?_
  obtain ⟨q, A9, c9, hq, rfl, hqs⟩ := hde (by decide)
  have hkn2 : kb.length = 32 := by
   have h1 := hz 1 (by decide)
   rw [show Je n root c rb kb vb bb 1 = if c.key.n = 32 then 0 else 2 from rfl] at h1
   split at h1
   ·omega
   cases h1
  have hck := Qh9 hq
  have hrl2 : rb.length = 32 := by
   have h1 := hz 0 (by decide)
   rw [show Je n root c rb kb vb bb 0 = if root.n = 32 then 0 else 4 from rfl] at h1
   split at h1
   ·omega
   cases h1
  have hdd : q.d ≤ 256 := by
   have h1 := Y5 hck
   have h2 : (q.pr none 0).depth = (q.d : Int) := rfl
   omega
  have hs := QoH n hn z gh gc k' g18 (by simp at hkc; omega) ⟨some ⟨gh, 0, none⟩, root, c, b, q.pr A9 c9⟩ rfl kb hkn2 rb hrl2 q A9 c9 rfl hck _ rfl
  rw [show (if decide (qy n q (keyOf kb) = keyOf rb) then (0 : Int) else 13) = Je n root c rb kb vb bb 5 by unfold Je; rw [hq]; rfl] at hs
  refine Qn ?_
  refine Qc ?_
  refine Qd ?_
  refine Qq ?_
  refine yR ?_
  refine yM rfl ?_
  refine Qb (QQ rfl rfl (m := 5) (hm := by decide)) ?_
  refine Qb (Jm (off := 5) rfl (out := [YX 5]) rfl (Yk 5 _ rfl)) ?_
  refine Qo (Q0) fun g11 => ?_
  refine yS rfl ?_
  refine Q7 (Qw rfl rfl) ?_
  refine yN ?_
  refine yR ?_
  refine Qb (Qe rfl) ?_
  refine Qb (Qf rfl) ?_
  refine yM rfl ?_
  refine Qh (hs.comes) rfl rfl rfl fun _ => ?_
  by_cases hc0 : Je n root c rb kb vb bb 5 = 0
  ·rw [hc0]
   refine yS rfl ?_
   refine yN ?_
   refine yR ?_
   refine yM rfl ?_
   refine Qb (Ql (QL rfl rfl) rfl) ?_
   refine yN ?_
   refine Qt rfl ?_
   refine Qn ?_
   refine Q2 ?_
   refine Qc ?_
   refine Q5 ?_
   refine Qb (QI rfl rfl) ?_
   refine yM rfl ?_
   refine QE ?_
   exact QH (6, z, (q.pr A9 c9), (k' + 1 + q.d + 1)) (⟨hle, by dsimp only; decide, fun j hj => (Nat.lt_or_ge j 5).elim (hz j) fun h8 => by (obtain rfl : j = 5 := by omega); exact hc0, fun _ => ⟨q, A9, c9, hq, rfl, hqs⟩, by simp at hkc ⊢; omega⟩) ((show 6 - 6 < 6 - 5 by decide)) ⟨rfl, rfl, rfl, rfl, trivial⟩ (same)
  rw [show Yc (Je n root c rb kb vb bb) = some (5, Je n root c rb kb vb bb 5) from JF (Je n root c rb kb vb bb) 5 hc0 6 0 (by decide) (by decide) (fun j _ hj => hz j hj)]
  refine yS rfl ?_
  refine yN ?_
  refine yR ?_
  refine yM rfl ?_
  refine Qb (Ql (QL rfl rfl) (decide_eq_true hc0)) ?_
  refine yN ?_
  refine Qz rfl ?_
  refine yR ?_
  refine yM rfl ?_
  refine yM rfl ?_
  refine Qb (qq rfl) ?_
  refine Qh ((ZU Yd 5 (Je n root c rb kb vb bb 5)).comes) rfl rfl rfl fun g35 => ?_
  refine yS rfl ?_
  refine yN ?_
  refine Qs ?_
  refine Q3 ?_
  refine Qr ?_
  refine Qr ?_
  refine Q3 ?_
  refine Qr ?_
  exact Qu rfl rfl fun w s => ⟨⟨(g35, z, (k' + 1 + q.d + 1)), hle, by dsimp only; simp at hkc; omega⟩, rfl, (same (L' := [.zone true z, CN gc (k' + 1 + q.d + 1), .blk g35 (Yf Yd 5 (Je n root c rb kb vb bb 5)) 284]) w s).res (List.Sublist.refl _) (by simp [Fa.wr, Qfo])⟩
 rw [show Yc (Je n root c rb kb vb bb) = none from qn _ 6 0 (fun j _ hj => hz j (by omega))]
 refine yR ?_
 refine Qb (Ql (QT rfl rfl) rfl) ?_
 refine yN ?_
 refine Qd ?_
 refine Qt rfl ?_
 refine QK ?_
 refine Qx ?_
 refine Qx ?_
 refine Q8 ?_
 refine Qc ?_
 refine yR ?_
 refine yS rfl ?_
 refine yN ?_
 refine Qs ?_
 exact Qu rfl rfl fun w s => ⟨⟨(0, z, k'), hle, by dsimp only; simp at hkc; omega⟩, rfl, (same (L' := [.zone true z, CN gc k']) w s).res (List.Sublist.refl _) (by simp [Fa.wr, Qfo])⟩
end
def Jy (c : Claim) : Int := if c.key.n = 32 then (if c.present = true ∧ 65535 < c.value.n then 3 else 0) else 2
theorem Qhu (c : Claim) : QC Tryz.prog 121 [.agg c.cells.toArray].toArray [] [] (fun _ : Unit => .int .i64 (Jy c)) (fun _ => []) := by
 have h1 := fun g => Qik ⟨none, ⟨none, 0, 0⟩, c, ⟨none, 0, 0⟩, Jr⟩ g
 have h2 := fun g => Qil ⟨none, ⟨none, 0, 0⟩, c, ⟨none, 0, 0⟩, Jr⟩ g
 refine Qk Tryz.func121 rfl (n := 25) rfl rfl ?_
 intro W
 refine yR ?_
 refine Qo (Q9 rfl) fun g1 => ?_
 refine yS rfl ?_
 refine yN ?_
 refine yR ?_
 refine Qb (Qm rfl) ?_
 refine Qb (QD rfl) ?_
 refine Qo (Q9 rfl) fun g9 => ?_
 refine yS rfl ?_
 refine yN ?_
 refine Qd ?_
 refine yR ?_
 refine Qh (Qim.comes) rfl rfl rfl fun g10 => ?_
 refine Qb (Qez rfl rfl rfl (m := 2) (c' := 5) (O' := 1)) ?_
 refine Qb (QF rfl) ?_
 refine yM rfl ?_
 refine yN ?_
 refine Qq ?_
 change H _ _ _ _ _ (_ :: .blk g9 (Chk.cells ⟨none, ⟨none, 0, 0⟩, c, ⟨none, 0, 0⟩, Jr⟩) _ :: _) _
 refine QS (fun (i : Nat) => i ≤ 2 ∧ (1 ≤ i → c.key.n = 32) ∧ (2 ≤ i → ¬ (c.present = true ∧ 65535 < c.value.n))) (fun (i : Nat) => [(3, .pointer (some ⟨g9, 0, none⟩)), (11, .slice (some ⟨g10, 1, none⟩) 2 5), (12, .int .i64 2), (13, .int .i64 (i : Int))]) (fun (i : Nat) => [.own (.slice (some ⟨g10, 0, none⟩) 6 6) 6 222 1 Qae, .blk g9 (Chk.cells ⟨none, ⟨none, 0, 0⟩, c, ⟨none, 0, 0⟩, Jr⟩) 217]) (fun (i : Nat) => 2 - i) 0 (⟨by decide, fun h => absurd h (by decide), fun h => absurd h (by decide)⟩) ⟨rfl, rfl, rfl, rfl, trivial⟩ (same) ?_
 rintro i ⟨hi, hi1, hi2⟩
 rcases (by omega : i = 0 ∨ i = 1 ∨ i = 2) with rfl | rfl | rfl
 ·by_cases hk : c.key.n = 32
  ·have h1 := h1 g9
   rw [show YM ⟨none, ⟨none, 0, 0⟩, c, ⟨none, 0, 0⟩, Jr⟩ 1 = 0 from if_pos hk] at h1
   refine yR ?_
   refine Qb (Ql (QT rfl rfl) rfl) ?_
   refine yN ?_
   refine Qd ?_
   refine Qz rfl ?_
   refine Qn ?_
   refine Qc ?_
   refine Qd ?_
   refine Qq ?_
   refine yR ?_
   refine Qb (QQ rfl rfl (m := 0) (hm := by decide)) ?_
   refine Qb (Jm (off := 1) rfl (out := [YX 1]) rfl (Yk 1 _ rfl)) ?_
   refine Qo (Q0) fun g5 => ?_
   refine Q7 (Qw rfl rfl) ?_
   refine yN ?_
   refine yR ?_
   refine Qb (Qe rfl) ?_
   refine Qb (Qf rfl) ?_
   refine yM rfl ?_
   refine Qh (h1.comes) rfl rfl rfl fun _ => ?_
   refine yS rfl ?_
   refine yN ?_
   refine yR ?_
   refine yM rfl ?_
   refine Qb (Ql (QL rfl rfl) rfl) ?_
   refine yN ?_
   refine Qt rfl ?_
   refine Qn ?_
   refine Q2 ?_
   refine Qc ?_
   refine Q5 ?_
   refine Qb (QI rfl rfl) ?_
   refine yM rfl ?_
   refine QE ?_
   exact QH 1 (⟨by decide, fun _ => hk, fun h => absurd h (by decide)⟩) ((show 2 - 1 < 2 - 0 by decide)) ⟨rfl, rfl, rfl, rfl, trivial⟩ (same)
  have h1 := h1 g9
  rw [show YM ⟨none, ⟨none, 0, 0⟩, c, ⟨none, 0, 0⟩, Jr⟩ 1 = 2 from if_neg hk] at h1
  rw [show Jy c = 2 from if_neg hk]
  refine yR ?_
  refine Qb (Ql (QT rfl rfl) rfl) ?_
  refine yN ?_
  refine Qd ?_
  refine Qz rfl ?_
  refine Qn ?_
  refine Qc ?_
  refine Qd ?_
  refine Qq ?_
  refine yR ?_
  refine Qb (QQ rfl rfl (m := 0) (hm := by decide)) ?_
  refine Qb (Jm (off := 1) rfl (out := [YX 1]) rfl (Yk 1 _ rfl)) ?_
  refine Qo (Q0) fun g5 => ?_
  refine Q7 (Qw rfl rfl) ?_
  refine yN ?_
  refine yR ?_
  refine Qb (Qe rfl) ?_
  refine Qb (Qf rfl) ?_
  refine yM rfl ?_
  refine Qh (h1.comes) rfl rfl rfl fun _ => ?_
  refine yS rfl ?_
  refine yN ?_
  refine yR ?_
  refine yM rfl ?_
  refine Qb (Ql (QL rfl rfl) rfl) ?_
  refine yN ?_
  refine Qz rfl ?_
  refine yR ?_
  refine yM rfl ?_
  refine yS rfl ?_
  refine yN ?_
  refine Qs ?_
  refine Q3 ?_
  refine Qr ?_
  refine Qr ?_
  refine Q3 ?_
  refine Qr ?_
  exact Qu rfl rfl fun w s => ⟨(), rfl, s.res (List.nil_sublist _) (by simp)⟩
 ·have hk := hi1 (by decide)
  by_cases hv : c.present = true ∧ 65535 < c.value.n
  ·have h2 := h2 g9
   rw [show YM ⟨none, ⟨none, 0, 0⟩, c, ⟨none, 0, 0⟩, Jr⟩ 2 = 3 from if_pos hv] at h2
   rw [show Jy c = 3 by unfold Jy; rw [if_pos hk, if_pos hv]]
   refine yR ?_
   refine Qb (Ql (QT rfl rfl) rfl) ?_
   refine yN ?_
   refine Qd ?_
   refine Qz rfl ?_
   refine Qn ?_
   refine Qc ?_
   refine Qd ?_
   refine Qq ?_
   refine yR ?_
   refine Qb (QQ rfl rfl (m := 1) (hm := by decide)) ?_
   refine Qb (Jm (off := 2) rfl (out := [YX 2]) rfl (Yk 2 _ rfl)) ?_
   refine Qo (Q0) fun g5 => ?_
   refine Q7 (Qw rfl rfl) ?_
   refine yN ?_
   refine yR ?_
   refine Qb (Qe rfl) ?_
   refine Qb (Qf rfl) ?_
   refine yM rfl ?_
   refine Qh (h2.comes) rfl rfl rfl fun _ => ?_
   refine yS rfl ?_
   refine yN ?_
   refine yR ?_
   refine yM rfl ?_
   refine Qb (Ql (QL rfl rfl) rfl) ?_
   refine yN ?_
   refine Qz rfl ?_
   refine yR ?_
   refine yM rfl ?_
   refine yS rfl ?_
   refine yN ?_
   refine Qs ?_
   refine Q3 ?_
   refine Qr ?_
   refine Qr ?_
   refine Q3 ?_
   refine Qr ?_
   exact Qu rfl rfl fun w s => ⟨(), rfl, s.res (List.nil_sublist _) (by simp)⟩
  have h2 := h2 g9
  rw [show YM ⟨none, ⟨none, 0, 0⟩, c, ⟨none, 0, 0⟩, Jr⟩ 2 = 0 from if_neg hv] at h2
  refine yR ?_
  refine Qb (Ql (QT rfl rfl) rfl) ?_
  refine yN ?_
  refine Qd ?_
  refine Qz rfl ?_
  refine Qn ?_
  refine Qc ?_
  refine Qd ?_
  refine Qq ?_
  refine yR ?_
  refine Qb (QQ rfl rfl (m := 1) (hm := by decide)) ?_
  refine Qb (Jm (off := 2) rfl (out := [YX 2]) rfl (Yk 2 _ rfl)) ?_
  refine Qo (Q0) fun g5 => ?_
  refine Q7 (Qw rfl rfl) ?_
  refine yN ?_
  refine yR ?_
  refine Qb (Qe rfl) ?_
  refine Qb (Qf rfl) ?_
  refine yM rfl ?_
  refine Qh (h2.comes) rfl rfl rfl fun _ => ?_
  refine yS rfl ?_
  refine yN ?_
  refine yR ?_
  refine yM rfl ?_
  refine Qb (Ql (QL rfl rfl) rfl) ?_
  refine yN ?_
  refine Qt rfl ?_
  refine Qn ?_
  refine Q2 ?_
  refine Qc ?_
  refine Q5 ?_
  refine Qb (QI rfl rfl) ?_
  refine yM rfl ?_
  refine QE ?_
  exact QH 2 (⟨by decide, fun _ => hk, fun _ => hv⟩) ((show 2 - 2 < 2 - 1 by decide)) ⟨rfl, rfl, rfl, rfl, trivial⟩ (same)
 have hk := hi1 (by decide)
 have hv := hi2 (by decide)
 rw [show Jy c = 0 by unfold Jy; rw [if_pos hk, if_neg hv]]
 refine yR ?_
 refine Qb (Ql (QT rfl rfl) rfl) ?_
 refine yN ?_
 refine Qd ?_
 refine Qt rfl ?_
 refine QK ?_
 refine Qx ?_
 refine Qx ?_
 refine Q8 ?_
 refine Qc ?_
 refine yR ?_
 refine yS rfl ?_
 refine yN ?_
 refine Qs ?_
 exact Qu rfl rfl fun w s => ⟨(), rfl, s.res (List.nil_sublist _) (by simp)⟩
end
section
open Go.RowKit
class TCmp (P : Program) (f : FuncId) : Prop where
 ok : ∀ args w, (callFunc f args).run P w = ((Extern.BytealgCompare.compare args).run P w).andThen fun v w' => .ok (.value v) w'
theorem Qg6 (l : List UInt8) : Lib.bytesOf (l.map fun x => (x.toNat : Int)) = l := by
 unfold Lib.bytesOf
 rw [List.map_map]
 conv => rhs; rw [← List.map_id l]
 apply List.map_congr_left
 intro x _
 simp
theorem Zn {P : Program} {w : World} {A : Option Addr} {l : List UInt8} {c : Nat} (hr : Rd w A (bc l)) : (Extern.Bytes.bytesOf (.slice A l.length c)).run P w = .ok ⟨l.toArray⟩ w := by
 cases A with
 | none =>
  have : l = [] := by
   cases l with
   | nil => rfl
   | cons x l => obtain ⟨b, o, e, _⟩ := hr 0 (.int .u8 x.toNat) rfl; cases e
  subst this
  rfl
 | some a =>
  have h := Lib.run_loadBytesX (P := P) (w := w) (l.map fun x => (x.toNat : Int)) a .empty (fun j x hj => by
   obtain ⟨y, hy, rfl⟩ : ∃ y, l[j]? = some y ∧ (y.toNat : Int) = x := by simpa using hj
   have hj' : (bc l)[j]? = some (.int .u8 (y.toNat : Int)) := by simp [bc, hy]
   obtain ⟨b, o, e, h2⟩ := hr j _ hj'
   injection e with e
   subst e
   rw [Addr.add_mid]
   exact h2)
  rw [List.length_map, Qg6] at h
  show (Extern.Bytes.loadBytes a l.length .empty).run P w = _
  rw [h]
  simp
section
variable {P : Program} {n : Nat} {D : List Deferred} {E : Env} {L : List Fa}
theorem Qpi {f : FuncId} [hf : TCmp P f] {x y : Operand} {ts : Array TypeId} {A B : Option Addr} {c c' : Nat} {a b : List UInt8} (hx : ev E x = some (.slice A a.length c)) (hy : ev E y = some (.slice B b.length c')) [hA : Rd1 L (.rd A (bc a))] [hB : Rd1 L (.rd B (bc b))] : QM P n D E L (.call ⟨.value (.func f), #[x, y], ts⟩) (.int .i64 (Lib.compareBytes a b)) := fun act w ka s o ho => by
 have h1 := Zn (P := P) (c := c) (hA.ok s).2.1
 have h2 := Zn (P := P) (c := c') (hB.ok s).2.1
 have e0 : ev E (.func f) = some (.func (.func f) #[] #[]) := rfl
 unfold execOp
 simp only [ho, resolve, ka.ev e0, Deferred.ofValue, Sem.run_bind, Sem.run_pure, Result.andThen_ok, invoke]
 have e1 : (#[x, y].map act.eval) = #[.slice A a.length c, .slice B b.length c'] := by simp [ka.ev hx, ka.ev hy]
 rw [e1]
 show (callFunc f #[.slice A a.length c, .slice B b.length c']).run P w = _
 have e2 : (Extern.BytealgCompare.compare #[.slice A a.length c, .slice B b.length c']).run P w = .ok (.int .i64 (Lib.compareBytes a b)) w := by
  change Sem.run P (do pure (goInt (Extern.BytealgCompare.cmp (← Extern.Bytes.bytesOf (.slice A a.length c)) (← Extern.Bytes.bytesOf (.slice B b.length c'))))) w = _
  simp only [Sem.run_bind, h1, h2, Result.andThen_ok, Sem.run_pure, Lib.cmp_eq]
  rfl
 rw [hf.ok, e2]
 rfl
end
end
section
open Go.RowKit
section
variable {P : Program} {nn : Nat} {D : List Deferred} {E : Env} {L : List Fa} {T : TypeId} {x q r : Operand} {e size bytes : Nat} {z : Value} {N c h m : Nat}
theorem Qm1 [E' : TS P T e size bytes z] {b O : Nat} {i2 i3 : Int} {k2 k3 : IntKind} (w : World) (h2 : NatOf i2 h) (h3 : NatOf i3 m) (a2 : h ≤ m) (a3 : m ≤ c) :
  (Instr.sliceAt T (.slice (some ⟨b, O, none⟩) N c) none (some (.int k2 i2)) (some (.int k3 i3))).run P w = .ok (.slice (some ⟨b, O, none⟩) h m) w := by
 obtain rfl := h2.eq
 obtain rfl := h3.eq
 obtain ⟨t, hi, _, hsz, _⟩ := info_parts E'.el.hi
 have c1 : (0 : Int) ≤ (m : Int) ∧ (m : Int) ≤ (c : Int) := ⟨by omega, by omega⟩
 have c2 : (0 : Int) ≤ (h : Int) ∧ (h : Int) ≤ (m : Int) := ⟨by omega, by omega⟩
 have c3 : (0 : Int) ≤ (0 : Int) ∧ (0 : Int) ≤ (h : Int) := ⟨by omega, by omega⟩
 unfold Instr.sliceAt
 simp only [Sem.run_bind, run_underlying E'.el.ht, Result.andThen_ok, Instr.slice, Instr.sliceBounds, Instr.sliceBound, asIntOf, Sem.run_pure, if_pos c1, if_pos c2, if_pos c3, Int.toNat_natCast, sizeOf, typeInfo, Option.isSome_some]
 simp [hi, hsz, Addr.add_mid]
theorem Qqg [E' : TS P T e size bytes z] {b O : Nat} {i2 i3 : Int} {k2 k3 : IntKind} (hx : ev E x = some (.slice (some ⟨b, O, none⟩) N c)) (hq : ev E q = some (.int k2 i2)) (hr : ev E r = some (.int k3 i3)) [h2 : NatOf i2 h] [h3 : NatOf i3 m] (a2 : h ≤ m := by omega) (a3 : m ≤ c := by omega) : QM P nn D E L (.slice T x none (some q) (some r)) (.slice (some ⟨b, O, none⟩) h m) := fun a w ka s o ho => by
 have := Qm1 (P := P) (T := T) (N := N) (b := b) (O := O) (k2 := k2) (k3 := k3) w h2 h3 a2 a3
 unfold execOp
 simp only [ho, ka.ev hx, Option.map_some, Option.map_none, ka.ev hq, ka.ev hr]
 rw [Sem.run_bind, this]
 rfl
theorem QkG {b O c size : Nat} (hc : 0 < c) : cutA (some ⟨b, O, none⟩) c 0 size = some ⟨b, O, none⟩ := by
 unfold cutA
 rw [if_neg (by omega)]
 simp [Addr.add_mid]
theorem Qhd [E' : TS P T e size bytes z] {b O : Nat} {j : Int} {k : IntKind} (hx : ev E x = some (.slice (some ⟨b, O, none⟩) N c)) (hq : ev E q = some (.int k j)) [hj : NatOf j h] (hl : h ≤ c := by omega) (hc : 0 < c := by omega) : QM P nn D E L (.slice T x none (some q) none) (.slice (some ⟨b, O, none⟩) h c) := by
 have := Qia (P := P) (n := nn) (D := D) (L := L) (E' := E') hx hq (hj := hj) hl
 rwa [QkG hc] at this
end
end
section
open Go.RowKit
section
variable {P : Program} {A : List Fa} {W : World} {n : Nat} {D : List Deferred} {E : Env} {L : List Fa} {f : FuncId} {l : List Operand} {ts : Array TypeId} {vs : List Value} {v : Value}
theorem QaE {a : Act} {w : World} {o : Oper} {x : Next} {w' : World} (ka : Kn n D E a) (ho : o.op = .call ⟨.value (.func f), l.toArray, ts⟩) (ha : evs E l = some vs) (hb : (callFunc f vs.toArray).run P w = .ok x w') : (execOp a.eval o).run P w = .ok x w' := by
 have e0 : ev E (.func f) = some (.func (.func f) #[] #[]) := rfl
 unfold execOp
 simp only [ho, resolve, ka.ev e0, Deferred.ofValue, Sem.run_bind, Sem.run_pure, Result.andThen_ok, invoke]
 rw [List.map_toArray, ka.evs ha]
 simpa using hb
theorem QdC (hb : ∀ w, (callFunc f vs.toArray).run P w = .ok (.value v) w) (ha : evs E l = some vs) : QM P n D E L (.call ⟨.value (.func f), l.toArray, ts⟩) v := fun a w ka s o ho => QaE ka ho ha (hb w)
theorem Qex {b : Nat} {u : Value} [hc : Cells b 0 L 0 [u]] (hb : ∀ w, w.cell? ⟨b, 0, none⟩ = some u → (callFunc f vs.toArray).run P w = .ok (.value v) w) (ha : evs E l = some vs) : QM P n D E L (.call ⟨.value (.func f), l.toArray, ts⟩) v := fun a w ka s o ho => QaE ka ho ha (hb w (hc.cell s 0 u rfl))
theorem Qiu {cs : List Value} {T : TypeId} {u : Nat → Value} (hb : ∀ w, (callFunc f vs.toArray).run P w = .ok (.value (u w.heap.size)) (w.alloc (.cells cs.toArray T))) (ha : evs E l = some vs) : JO P A W n D E L (.call ⟨.value (.func f), l.toArray, ts⟩) u (fun g => .blk g cs T :: L) := fun a w ka s o ho =>
 ⟨w.heap.size, _, QaE ka ho ha (hb w), s.alloc cs T⟩
theorem QmU {g b : Nat} {T : TypeId} {old u : Value} {M : List Fa} [hm : TakeB g L [old] T M] [hc : Cells b 0 L 0 [u]] (hb : ∀ w, w.cell? ⟨b, 0, none⟩ = some u → w.heap[g]? = some (.cells #[old] T (0, 0)) → (callFunc f vs.toArray).run P w = .ok (.value (.tuple #[])) (w.setCell ⟨g, 0, none⟩ u)) (ha : evs E l = some vs) : JO P A W n D E L (.call ⟨.value (.func f), l.toArray, ts⟩) (fun _ : Unit => .tuple #[]) (fun _ => .blk g [u] T :: M) := fun a w ka s o ho => by
 have h2 := s.perm hm.perm
 have hbk : w.heap[g]? = some (.cells [old].toArray T (0, 0)) := h2.ok (.blk _ _ _) (List.mem_cons_self ..)
 refine ⟨(), _, QaE ka ho ha (hb w (hc.cell s.toFx 0 u rfl) hbk), h2.put ?_ (fun B w0 hB hg => hB.setCell hg u) (by simp) (fun k hk => heap_setCell_other w _ k u hk)⟩
 rw [heap_setCell_same w g 0 _ T u hbk]
 rfl
theorem VK {x : Operand} {T : TypeId} {u : Value} {name : String} (hb : ∀ w, (callMethod (.iface T u) name vs.toArray).run P w = .ok (.value v) w) (hx : ev E x = some (.iface T u)) (ha : evs E l = some vs) : QM P n D E L (.call ⟨.invoke x name, l.toArray, ts⟩) v := fun a w ka s o ho => by
 unfold execOp
 simp only [ho, resolve, ka.ev hx, Sem.run_bind, Sem.run_pure, Result.andThen_ok, invoke]
 rw [List.map_toArray, ka.evs ha]
 have e0 : ((#[Value.iface T u] : Array Value) ++ vs.toArray)[0]? = some (.iface T u) := by simp
 rw [e0]
 simp only []
 have e : ((#[Value.iface T u] : Array Value) ++ vs.toArray).extract 1 ((#[Value.iface T u] : Array Value) ++ vs.toArray).size = vs.toArray := by simp
 rw [e]
 exact hb w
theorem Qrp {T T' : TypeId} {x y : Operand} {a b : ByteArray} (hx : ev E x = some (.string a)) (hy : ev E y = some (.string b)) : QM P n D E L (.binOp .eql T x y T') (.bool (a.toList == b.toList)) := fun act w ka s o ho => J7 ho (ka.ev hx) (ka.ev hy) rfl (by rw [binOp_string_eql]; rfl)
end
end
section
open Go.RowKit Go.Extern.Stop Go.Stop Go.Extern
abbrev hdl (T : Nat) : Value := .pointer (some ⟨6, T, none⟩)
abbrev rty (T : Nat) : Value := .iface 309 (.agg #[hdl T])
abbrev JX (T b : Nat) (fl : Int) : Value := .agg #[hdl T, .pointer (some ⟨b, 0, none⟩), .int .u64 fl]
theorem Qow (t : Addr) (w : World) : (callFunc 116 #[.iface 147 (.pointer (some t))]).run Tryz.prog w = .ok (.value (JX 147 w.heap.size 150)) (w.alloc (.cells #[.pointer (some t)] 147)) := by kernel_rfl
theorem Qox (t : Addr) (w : World) : (callFunc 116 #[.iface 127 (.pointer (some t))]).run Tryz.prog w = .ok (.value (JX 127 w.heap.size 150)) (w.alloc (.cells #[.pointer (some t)] 127)) := by kernel_rfl
theorem Qoy (t : Addr) (w : World) : (callFunc 116 #[.iface 145 (.pointer (some t))]).run Tryz.prog w = .ok (.value (JX 145 w.heap.size 150)) (w.alloc (.cells #[.pointer (some t)] 145)) := by kernel_rfl
theorem Qoz (e : Int) (w : World) : (callFunc 116 #[.iface 54 (.int .i64 e)]).run Tryz.prog w = .ok (.value (JX 54 w.heap.size 130)) (w.alloc (.cells #[.int .i64 e] 54)) := by kernel_rfl
theorem Qmy (b : Nat) (w : World) : (callFunc 117 #[JX 147 b 150]).run Tryz.prog w = .ok (.value (rty 147)) w := by kernel_rfl
theorem Qmz (b : Nat) (w : World) : (callFunc 117 #[JX 127 b 150]).run Tryz.prog w = .ok (.value (rty 127)) w := by kernel_rfl
theorem Qms (w : World) : (callMethod (rty 147) "Kind" #[]).run Tryz.prog w = .ok (.value (.int .u8 22)) w := by kernel_rfl
theorem Qmt (w : World) : (callMethod (rty 127) "Kind" #[]).run Tryz.prog w = .ok (.value (.int .u8 22)) w := by kernel_rfl
theorem Qmu (w : World) : (callMethod (rty 145) "Kind" #[]).run Tryz.prog w = .ok (.value (.int .u8 22)) w := by kernel_rfl
theorem Qmv (w : World) : (callMethod (rty 54) "Kind" #[]).run Tryz.prog w = .ok (.value (.int .u8 2)) w := by kernel_rfl
theorem Qmo (w : World) : (callMethod (rty 147) "Elem" #[]).run Tryz.prog w = .ok (.value (rty 145)) w := by kernel_rfl
theorem Qmp (w : World) : (callMethod (rty 127) "Elem" #[]).run Tryz.prog w = .ok (.value (rty 54)) w := by kernel_rfl
theorem Qmq (w : World) : (callMethod (rty 145) "Implements" #[rty 43]).run Tryz.prog w = .ok (.value (.bool true)) w := by kernel_rfl
theorem Qmr (w : World) : (callMethod (rty 54) "Implements" #[rty 43]).run Tryz.prog w = .ok (.value (.bool true)) w := by kernel_rfl
theorem QcC (v : Value) (w : World) : (callFunc 113 #[.iface 145 v]).run Tryz.prog w = .ok (.value (rty 145)) w := by kernel_rfl
theorem QcD (v : Value) (w : World) : (callFunc 113 #[.iface 54 v]).run Tryz.prog w = .ok (.value (rty 54)) w := by kernel_rfl
theorem Qml (w : World) : (callMethod (rty 145) "AssignableTo" #[rty 145]).run Tryz.prog w = .ok (.value (.bool true)) w := by kernel_rfl
theorem Qmm (w : World) : (callMethod (rty 145) "AssignableTo" #[rty 54]).run Tryz.prog w = .ok (.value (.bool false)) w := by kernel_rfl
theorem Qmn (w : World) : (callMethod (rty 54) "AssignableTo" #[rty 54]).run Tryz.prog w = .ok (.value (.bool true)) w := by kernel_rfl
end
section
open Go.RowKit Go.Extern.Stop Go.Stop Go.Extern
theorem rlm (z : Sem Value) (f : TypeId → Addr → Nat → Nat → Sem Value) (v : Value) :
  ReflectliteValue.method z f #[v] = (do match ← ReflectliteValue.parts v with | none => z | some (t, a, fl) => f t a fl (fl % 32)) := rfl
theorem rls (v x : Value) : ReflectliteValue.set #[v, x] = (do
  let (some (dst, a, fl), some (src, b, _)) := (← ReflectliteValue.parts v, ← ReflectliteValue.parts x)
   | unsupported (.noEntry "extern/(internal/reflectlite.Value).Set.zeroValue")
  if fl / ReflectliteValue.flagAddr % 2 == 0 then unsupported (.noEntry "extern/(internal/reflectlite.Value).Set.unaddressable")
  let val ← loadVar src b
  if ← Rtype.directlyAssignable dst src then storeVar dst a val
  else if ← Rtype.implements dst src then
   if (← Rtype.kind src) == 20 then
    match val with
    | .nilIface => unsupported (.noEntry "extern/reflectlite: a nil value of one interface type handed on as a value of another")
    | _ => storeVar dst a val
   else storeVar dst a (.iface src val)
  else panicString ("reflectlite.Set: value of type " ++ (← Rtype.spelt src) ++ " is not assignable to type " ++ (← Rtype.spelt dst))
  pure (.tuple #[])) := rfl
theorem Qmw (b : Nat) (w : World) : (ReflectliteValue.parts (JX 147 b 150)).run Tryz.prog w = .ok (some (147, ⟨b, 0, none⟩, 150)) w := by kernel_rfl
theorem Qqr (b : Nat) (w : World) : (ReflectliteValue.parts (JX 145 b 406)).run Tryz.prog w = .ok (some (145, ⟨b, 0, none⟩, 406)) w := by kernel_rfl
theorem Qqt (b : Nat) (w : World) : (ReflectliteValue.parts (JX 145 b 150)).run Tryz.prog w = .ok (some (145, ⟨b, 0, none⟩, 150)) w := by kernel_rfl
theorem Qos (b : Nat) (p : Addr) (w : World) (ha : w.cell? ⟨b, 0, none⟩ = some (.pointer (some p))) : (callFunc 118 #[JX 147 b 150]).run Tryz.prog w = .ok (.value (.bool false)) w := by
 have h : (ReflectliteValue.method (ReflectliteValue.valueError "reflectlite.Value.IsNil" 0) ReflectliteValue.isNil #[JX 147 b 150]).run Tryz.prog w = .ok (.bool false) w := by
  rw [rlm]
  simp only [Sem.run_bind, Qmw, Result.andThen]
  simp [ReflectliteValue.isNil, loadVar, isAgg, underlying, Tryz.underlying147, ha, Result.andThen]
 have hF := @run_callFunc_extern Tryz.prog 118 _ (ReflectliteValue.method (ReflectliteValue.valueError "reflectlite.Value.IsNil" 0) ReflectliteValue.isNil) Tryz.func118 (by kernel_rfl) (by kernel_rfl) (by kernel_rfl) (by kernel_rfl)
 rw [hF, h]
 rfl
theorem Qqn (w : World) : (Rtype.elem? 147).run Tryz.prog w = .ok (some 145) w := by kernel_rfl
theorem Qqp (p : Nat) (w : World) : (ReflectliteValue.mk 145 ⟨p, 0, none⟩ ReflectliteValue.flagAddr).run Tryz.prog w = .ok (JX 145 p 406) w := by kernel_rfl
theorem QjC (b p : Nat) (w : World) (ha : w.cell? ⟨b, 0, none⟩ = some (.pointer (some ⟨p, 0, none⟩))) : (callFunc 183 #[JX 147 b 150]).run Tryz.prog w = .ok (.value (JX 145 p 406)) w := by
 have h : (ReflectliteValue.method (ReflectliteValue.valueError "reflectlite.Value.Elem" 0) ReflectliteValue.elem #[JX 147 b 150]).run Tryz.prog w = .ok (JX 145 p 406) w := by
  rw [rlm]
  simp only [Sem.run_bind, Qmw, Result.andThen]
  simp [ReflectliteValue.elem, loadVar, isAgg, underlying, Tryz.underlying147, ha, Result.andThen, Qqn, Qqp]
 have hF := @run_callFunc_extern Tryz.prog 183 _ (ReflectliteValue.method (ReflectliteValue.valueError "reflectlite.Value.Elem" 0) ReflectliteValue.elem) Tryz.func183 (by kernel_rfl) (by kernel_rfl) (by kernel_rfl) (by kernel_rfl)
 rw [hF, h]
 rfl
theorem Qql (w : World) : (Rtype.directlyAssignable 145 145).run Tryz.prog w = .ok true w := by kernel_rfl
theorem Qou (t b : Nat) (e : Addr) (old : Value) (w : World) (hb : w.cell? ⟨b, 0, none⟩ = some (.pointer (some e))) (ht : w.heap[t]? = some (.cells #[old] 145 (0, 0))) : (callFunc 184 #[JX 145 t 406, JX 145 b 150]).run Tryz.prog w = .ok (.value (.tuple #[])) (w.setCell ⟨t, 0, none⟩ (.pointer (some e))) := by
 obtain ⟨hc, hf⟩ := QaR ht
 have h : (ReflectliteValue.set #[JX 145 t 406, JX 145 b 150]).run Tryz.prog w = .ok (.tuple #[]) (w.setCell ⟨t, 0, none⟩ (.pointer (some e))) := by
  rw [rls]
  simp only [Sem.run_bind, Qqr, Qqt, Result.andThen]
  simp [ReflectliteValue.flagAddr, loadVar, isAgg, underlying, Tryz.underlying145, hb, Result.andThen, Qql, storeVar, Value.cells, storeCells, Addr.add]
  rw [run_store Tryz.prog w ⟨t, 0, none⟩ _ _ (by rfl)]
  simp [hc, hf]
 have hF := @run_callFunc_extern Tryz.prog 184 _ ReflectliteValue.set Tryz.func184 (by kernel_rfl) (by kernel_rfl) (by kernel_rfl) (by kernel_rfl)
 rw [hF, h]
 rfl
theorem Qmx (b : Nat) (w : World) : (ReflectliteValue.parts (JX 127 b 150)).run Tryz.prog w = .ok (some (127, ⟨b, 0, none⟩, 150)) w := by kernel_rfl
theorem Qqs (b : Nat) (w : World) : (ReflectliteValue.parts (JX 54 b 386)).run Tryz.prog w = .ok (some (54, ⟨b, 0, none⟩, 386)) w := by kernel_rfl
theorem Qqu (b : Nat) (w : World) : (ReflectliteValue.parts (JX 54 b 130)).run Tryz.prog w = .ok (some (54, ⟨b, 0, none⟩, 130)) w := by kernel_rfl
theorem Qot (b : Nat) (p : Addr) (w : World) (ha : w.cell? ⟨b, 0, none⟩ = some (.pointer (some p))) : (callFunc 118 #[JX 127 b 150]).run Tryz.prog w = .ok (.value (.bool false)) w := by
 have h : (ReflectliteValue.method (ReflectliteValue.valueError "reflectlite.Value.IsNil" 0) ReflectliteValue.isNil #[JX 127 b 150]).run Tryz.prog w = .ok (.bool false) w := by
  rw [rlm]
  simp only [Sem.run_bind, Qmx, Result.andThen]
  simp [ReflectliteValue.isNil, loadVar, isAgg, underlying, Tryz.underlying127, ha, Result.andThen]
 have hF := @run_callFunc_extern Tryz.prog 118 _ (ReflectliteValue.method (ReflectliteValue.valueError "reflectlite.Value.IsNil" 0) ReflectliteValue.isNil) Tryz.func118 (by kernel_rfl) (by kernel_rfl) (by kernel_rfl) (by kernel_rfl)
 rw [hF, h]
 rfl
theorem Qqo (w : World) : (Rtype.elem? 127).run Tryz.prog w = .ok (some 54) w := by kernel_rfl
theorem Qqq (p : Nat) (w : World) : (ReflectliteValue.mk 54 ⟨p, 0, none⟩ ReflectliteValue.flagAddr).run Tryz.prog w = .ok (JX 54 p 386) w := by kernel_rfl
theorem QjD (b p : Nat) (w : World) (ha : w.cell? ⟨b, 0, none⟩ = some (.pointer (some ⟨p, 0, none⟩))) : (callFunc 183 #[JX 127 b 150]).run Tryz.prog w = .ok (.value (JX 54 p 386)) w := by
 have h : (ReflectliteValue.method (ReflectliteValue.valueError "reflectlite.Value.Elem" 0) ReflectliteValue.elem #[JX 127 b 150]).run Tryz.prog w = .ok (JX 54 p 386) w := by
  rw [rlm]
  simp only [Sem.run_bind, Qmx, Result.andThen]
  simp [ReflectliteValue.elem, loadVar, isAgg, underlying, Tryz.underlying127, ha, Result.andThen, Qqo, Qqq]
 have hF := @run_callFunc_extern Tryz.prog 183 _ (ReflectliteValue.method (ReflectliteValue.valueError "reflectlite.Value.Elem" 0) ReflectliteValue.elem) Tryz.func183 (by kernel_rfl) (by kernel_rfl) (by kernel_rfl) (by kernel_rfl)
 rw [hF, h]
 rfl
theorem Qqm (w : World) : (Rtype.directlyAssignable 54 54).run Tryz.prog w = .ok true w := by kernel_rfl
theorem Qov (t b : Nat) (e : Int) (old : Value) (w : World) (hb : w.cell? ⟨b, 0, none⟩ = some (.int .i64 e)) (ht : w.heap[t]? = some (.cells #[old] 54 (0, 0))) : (callFunc 184 #[JX 54 t 386, JX 54 b 130]).run Tryz.prog w = .ok (.value (.tuple #[])) (w.setCell ⟨t, 0, none⟩ (.int .i64 e)) := by
 obtain ⟨hc, hf⟩ := QaR ht
 have h : (ReflectliteValue.set #[JX 54 t 386, JX 54 b 130]).run Tryz.prog w = .ok (.tuple #[]) (w.setCell ⟨t, 0, none⟩ (.int .i64 e)) := by
  rw [rls]
  simp only [Sem.run_bind, Qqs, Qqu, Result.andThen]
  simp [ReflectliteValue.flagAddr, loadVar, isAgg, underlying, Tryz.underlying54, hb, Result.andThen, Qqm, storeVar, Value.cells, storeCells, Addr.add]
  rw [run_store Tryz.prog w ⟨t, 0, none⟩ _ _ (by rfl)]
  simp [hc, hf]
 have hF := @run_callFunc_extern Tryz.prog 184 _ ReflectliteValue.set Tryz.func184 (by kernel_rfl) (by kernel_rfl) (by kernel_rfl) (by kernel_rfl)
 rw [hF, h]
 rfl
end
section
open Go.RowKit Go.Extern.Stop Go.Stop Go.Extern
instance iU95_1 : TIf Tryz.prog 20 := ⟨by kernel_rfl⟩
instance iU95_2 : MethT Tryz.prog 145 "Unwrap" 308 := ⟨fun v args w => by kernel_rfl⟩
instance iU95_3 : TRow Tryz.prog 226 3 := ⟨⟨_, Tryz.underlying226, rfl⟩, by kernel_rfl⟩
instance iU95_4 : TZ Tryz.prog 226 [.pointer none, .pointer none, .int .u64 0] := ⟨⟨.agg #[.pointer none, .pointer none, .int .u64 0], by kernel_rfl, rfl⟩⟩
instance iU95_5 : TOne Tryz.prog 212 := ⟨⟨_, Tryz.underlying212, rfl⟩, by kernel_rfl⟩
abbrev ERT : Fa := .rd (some ⟨0, 0, none⟩) [rty 43]
theorem QlW {P : Program} {n : Nat} {D : List Deferred} {E : Env} {L : List Fa} {x : Operand} {xT T t : TypeId} {v z : Value} {want : Array (String × TypeId)} (hu : P.underlying T = some (.interface want)) (h : (P.info? t).map (fun i => (lacking want i.methods).isEmpty) = some false) (hz : (P.info? T).map (·.zero) = some (some z)) (hx : ev E x = some (.iface t v)) : QM P n D E L (.typeAssert x xT T true) (.tuple #[z, .bool false]) := fun a w ka s o ho => by
 unfold execOp
 simp only [ho, ka.ev hx]
 rw [Sem.run_bind, run_typeAssert_lacksB hu h hz]
 rfl
theorem Qoi {P : Program} {n : Nat} {D : List Deferred} {E : Env} {L : List Fa} {x : Operand} {xT T t : TypeId} {v : Value} {want : Array (String × TypeId)} (hu : P.underlying T = some (.interface want)) (h : (P.info? t).map (fun i => (lacking want i.methods).isEmpty) = some true) (hx : ev E x = some (.iface t v)) : QM P n D E L (.typeAssert x xT T true) (.tuple #[.iface t v, .bool true]) := fun a w ka s o ho => by
 unfold execOp
 simp only [ho, ka.ev hx]
 rw [Sem.run_bind, run_typeAssert_hasB hu h]
 rfl
theorem QiR (e : Nat) (op : ByteArray) (i c : Int) : QC Tryz.prog 308 [.pointer (some ⟨e, 0, none⟩)].toArray [.rd (some ⟨e, 0, none⟩) (Yf op i c)] [] (fun _ : Unit => .iface 54 (.int .i64 c)) (fun _ => []) := by
 refine Qk Tryz.func308 rfl (n := 9) rfl rfl ?_
 intro W
 refine yR ?_
 refine yS rfl ?_
 refine yN ?_
 refine Qd ?_
 refine yR ?_
 refine yM rfl ?_
 refine Qb (J2 rfl rfl) ?_
 refine yN ?_
 refine Qt rfl ?_
 refine Qn ?_
 refine Qc ?_
 refine yR ?_
 refine yM rfl ?_
 refine Qb (QA rfl) ?_
 refine Qb (Qe rfl) ?_
 refine Qb (Qf rfl) ?_
 refine yS rfl ?_
 refine yN ?_
 refine Qs ?_
 exact Qu rfl rfl fun w s => ⟨(), rfl, s.res (List.nil_sublist _) (by simp)⟩
theorem Qp6 (e t b : Nat) : QC Tryz.prog 119 [.iface 145 (.pointer (some ⟨e, 0, none⟩)), .iface 147 (.pointer (some ⟨t, 0, none⟩)), JX 147 b 150, rty 145].toArray [.rd (some ⟨b, 0, none⟩) [.pointer (some ⟨t, 0, none⟩)]] [.blk t [.pointer none] 145] (fun _ : Unit => .bool true) (fun _ => [.blk t [.pointer (some ⟨e, 0, none⟩)] 145]) := by
 refine Qk Tryz.func119 rfl (n := 62) rfl rfl ?_
 intro W
 refine yR ?_
 refine Qo (Q9 rfl) fun g6 => ?_
 refine yS rfl ?_
 refine yN ?_
 refine Qq ?_
 refine QS (fun (s : Unit) => True) (fun (s : Unit) => [(0, .iface 145 (.pointer (some ⟨e, 0, none⟩))), (3, rty 145), (6, .pointer (some ⟨g6, 0, none⟩))]) (fun (s : Unit) => [.blk g6 [hdl 147, .pointer (some ⟨b, 0, none⟩), .int .u64 150] 226, .blk t [.pointer none] 145, .rd (some ⟨b, 0, none⟩) [.pointer (some ⟨t, 0, none⟩)]]) (fun (s : Unit) => 0) () (trivial) ⟨rfl, rfl, rfl, trivial⟩ (same) ?_
 rintro _ _
 refine Qq ?_
 refine Qd ?_
 refine yR ?_
 refine yM rfl ?_
 refine Qb (QdC (QcC _) rfl) ?_
 refine yM rfl ?_
 refine Qb (VK Qml rfl rfl) ?_
 refine yN ?_
 refine Qz rfl ?_
 refine yR ?_
 refine Qb (Qm rfl) ?_
 refine Qb (Qex (u := .pointer (some ⟨t, 0, none⟩)) (fun w hw => QjC b t w hw) rfl) ?_
 refine yM rfl ?_
 refine Qo (Qiu (u := fun b => JX 145 b 150) (cs := [.pointer (some ⟨e, 0, none⟩)]) (Qoy ⟨e, 0, none⟩) rfl) fun g23 => ?_
 refine Qo (QmU (g := t) (u := .pointer (some ⟨e, 0, none⟩)) (fun w h1 h2 => Qou t g23 ⟨e, 0, none⟩ _ w h1 h2) rfl) fun g24 => ?_
 refine yN ?_
 refine yR ?_
 refine yS rfl ?_
 refine yN ?_
 refine Qs ?_
 refine Qr ?_
 refine Q3 ?_
 refine Qr ?_
 refine Q3 ?_
 exact Qu rfl rfl fun w s => ⟨(), rfl, (same (L' := [.blk t [.pointer (some ⟨e, 0, none⟩)] 145]) w s).res (List.Sublist.refl _) (by simp [Fa.wr])⟩
theorem QqW (e t : Nat) : QC Tryz.prog 60 [.iface 145 (.pointer (some ⟨e, 0, none⟩)), .iface 147 (.pointer (some ⟨t, 0, none⟩))].toArray [ERT] [.blk t [.pointer none] 145] (fun _ : Unit => .bool true) (fun _ => [.blk t [.pointer (some ⟨e, 0, none⟩)] 145]) := by
 refine Qk Tryz.func60 rfl (n := 42) rfl rfl ?_
 intro W
 refine yR ?_
 refine yS rfl ?_
 refine yN ?_
 refine Qd ?_
 refine yR ?_
 refine yM rfl ?_
 refine Qb (YP rfl) ?_
 refine yN ?_
 refine Qt rfl ?_
 refine Qn ?_
 refine Qc ?_
 refine Qd ?_
 refine yR ?_
 refine yM rfl ?_
 refine Qb (YP rfl) ?_
 refine yN ?_
 refine Qt rfl ?_
 refine Qn ?_
 refine Qc ?_
 refine yR ?_
 refine yM rfl ?_
 refine Qo (Qiu (u := fun b => JX 147 b 150) (cs := [.pointer (some ⟨t, 0, none⟩)]) (Qow ⟨t, 0, none⟩) rfl) fun g14 => ?_
 refine Qo (Q0) fun g5 => ?_
 refine Q7 (Qw rfl rfl) ?_
 refine yN ?_
 refine yR ?_
 refine Qb (Qm rfl) ?_
 refine Qb (QdC (Qmy g14) rfl) ?_
 refine yS rfl ?_
 refine yN ?_
 refine Qd ?_
 refine yR ?_
 refine yM rfl ?_
 refine Qb (VK Qms rfl rfl) ?_
 refine Qb (Ql (QL rfl rfl) rfl) ?_
 refine yM rfl ?_
 refine Qb (Qm rfl) ?_
 refine Qb (Qex (u := .pointer (some ⟨t, 0, none⟩)) (fun w hw => Qos g14 ⟨t, 0, none⟩ w hw) rfl) ?_
 refine Qb (Qy rfl rfl) ?_
 refine yN ?_
 refine Qt rfl ?_
 refine Qn ?_
 refine Qc ?_
 refine yR ?_
 refine yM rfl ?_
 refine Qb (VK Qmo rfl rfl) ?_
 refine yS rfl ?_
 refine yN ?_
 refine Qd ?_
 refine yR ?_
 refine yM rfl ?_
 refine Qb (VK Qmu rfl rfl) ?_
 refine Qb (Ql (QL rfl rfl) rfl) ?_
 refine yM rfl ?_
 refine yM rfl ?_
 refine Qb (Qf rfl) ?_
 refine Qb (VK Qmq rfl rfl) ?_
 refine Qb (Ji rfl) ?_
 refine Qb (Qy rfl rfl) ?_
 refine yN ?_
 refine Qt rfl ?_
 refine Qn ?_
 refine Qc ?_
 refine yR ?_
 refine yM rfl ?_
 refine yM rfl ?_
 refine Qb (Qm rfl) ?_
 refine yM rfl ?_
 refine Qh ((Qp6 e t g14).comes) rfl rfl rfl fun _ => ?_
 refine yS rfl ?_
 refine yN ?_
 refine Qs ?_
 exact Qu rfl rfl fun w s => ⟨(), rfl, (same (L' := [.blk t [.pointer (some ⟨e, 0, none⟩)] 145]) w s).res (List.Sublist.refl _) (by simp [Fa.wr])⟩
theorem Qp7 (e t b : Nat) (op : ByteArray) (i c : Int) : QC Tryz.prog 119 [.iface 145 (.pointer (some ⟨e, 0, none⟩)), .iface 127 (.pointer (some ⟨t, 0, none⟩)), JX 127 b 150, rty 54].toArray [.rd (some ⟨b, 0, none⟩) [.pointer (some ⟨t, 0, none⟩)], .rd (some ⟨e, 0, none⟩) (Yf op i c)] [.blk t [.int .i64 0] 54] (fun _ : Unit => .bool true) (fun _ => [.blk t [.int .i64 c] 54]) := by
 refine Qk Tryz.func119 rfl (n := 62) rfl rfl ?_
 intro W
 refine yR ?_
 refine Qo (Q9 rfl) fun g6 => ?_
 refine yS rfl ?_
 refine yN ?_
 refine Qq ?_
 refine QS (fun (s : Bool) => True) (fun (s : Bool) => [(0, if s then .iface 54 (.int .i64 c) else .iface 145 (.pointer (some ⟨e, 0, none⟩))), (3, rty 54), (6, .pointer (some ⟨g6, 0, none⟩))]) (fun (s : Bool) => [.blk g6 [hdl 127, .pointer (some ⟨b, 0, none⟩), .int .u64 150] 226, .blk t [.int .i64 0] 54, .rd (some ⟨b, 0, none⟩) [.pointer (some ⟨t, 0, none⟩)], .rd (some ⟨e, 0, none⟩) (Yf op i c)]) (fun (s : Bool) => (if s then 0 else 1)) false (trivial) ⟨rfl, rfl, rfl, trivial⟩ (same) ?_
 rintro s _
 cases s
 ·refine Qq ?_
  refine Qd ?_
  refine yR ?_
  refine yM rfl ?_
  refine Qb (QdC (QcC _) rfl) ?_
  refine yM rfl ?_
  refine Qb (VK Qmm rfl rfl) ?_
  refine yN ?_
  refine Qt rfl ?_
  refine Qn ?_
  refine Qc ?_
  refine Qd ?_
  refine yR ?_
  refine yM rfl ?_
  refine Qb (QlW (t := 145) (z := .nilIface) Tryz.underlying322 (by kernel_rfl) (by kernel_rfl) rfl) ?_
  refine yM rfl ?_
  refine Qb (Qj rfl rfl) ?_
  refine Qb (Qj rfl rfl) ?_
  refine yS rfl ?_
  refine yS rfl ?_
  refine yN ?_
  refine yR ?_
  refine yM rfl ?_
  refine yM rfl ?_
  refine Qg ?_
  refine Qg ?_
  refine Qg ?_
  refine Qb (Qy rfl rfl) ?_
  refine yN ?_
  refine Qt rfl ?_
  refine Qn ?_
  refine Qc ?_
  refine yR ?_
  refine yM rfl ?_
  refine yN ?_
  refine Qq ?_
  refine yR ?_
  refine Qb (Qoi (t := 145) Tryz.underlying314 (by kernel_rfl) rfl) ?_
  refine Qb (Qj rfl rfl) ?_
  refine Qb (Qj rfl rfl) ?_
  refine yN ?_
  refine Qz rfl ?_
  refine yR ?_
  refine yS rfl ?_
  refine yN ?_
  refine yR ?_
  refine yM rfl ?_
  refine QhM ((QiR e op i c).comes) rfl rfl rfl fun _ => ?_
  refine yS rfl ?_
  refine yN ?_
  refine yR ?_
  refine yM rfl ?_
  refine Qb (YP rfl) ?_
  refine yN ?_
  refine Qt rfl ?_
  refine Qn ?_
  refine Q2 ?_
  refine Q2 ?_
  exact QH true (trivial) ((show 0 < 1 by decide)) ⟨rfl, rfl, rfl, trivial⟩ (same)
 refine Qq ?_
 refine Qd ?_
 refine yR ?_
 refine yM rfl ?_
 refine Qb (QdC (QcD _) rfl) ?_
 refine yM rfl ?_
 refine Qb (VK Qmn rfl rfl) ?_
 refine yN ?_
 refine Qz rfl ?_
 refine yR ?_
 refine Qb (Qm rfl) ?_
 refine Qb (Qex (u := .pointer (some ⟨t, 0, none⟩)) (fun w hw => QjD b t w hw) rfl) ?_
 refine yM rfl ?_
 refine Qo (Qiu (u := fun b => JX 54 b 130) (cs := [.int .i64 c]) (Qoz c) rfl) fun g23 => ?_
 refine Qo (QmU (g := t) (u := .int .i64 c) (fun w h1 h2 => Qov t g23 c _ w h1 h2) rfl) fun g24 => ?_
 refine yN ?_
 refine yR ?_
 refine yS rfl ?_
 refine yN ?_
 refine Qs ?_
 refine Qr ?_
 refine Q3 ?_
 refine Qr ?_
 refine Q3 ?_
 exact Qu rfl rfl fun w s => ⟨(), rfl, (same (L' := [.blk t [.int .i64 c] 54]) w s).res (List.Sublist.refl _) (by simp [Fa.wr])⟩
theorem Qpc (e t : Nat) (op : ByteArray) (i c : Int) : QC Tryz.prog 60 [.iface 145 (.pointer (some ⟨e, 0, none⟩)), .iface 127 (.pointer (some ⟨t, 0, none⟩))].toArray [ERT, .rd (some ⟨e, 0, none⟩) (Yf op i c)] [.blk t [.int .i64 0] 54] (fun _ : Unit => .bool true) (fun _ => [.blk t [.int .i64 c] 54]) := by
 refine Qk Tryz.func60 rfl (n := 42) rfl rfl ?_
 intro W
 refine yR ?_
 refine yS rfl ?_
 refine yN ?_
 refine Qd ?_
 refine yR ?_
 refine yM rfl ?_
 refine Qb (YP rfl) ?_
 refine yN ?_
 refine Qt rfl ?_
 refine Qn ?_
 refine Qc ?_
 refine Qd ?_
 refine yR ?_
 refine yM rfl ?_
 refine Qb (YP rfl) ?_
 refine yN ?_
 refine Qt rfl ?_
 refine Qn ?_
 refine Qc ?_
 refine yR ?_
 refine yM rfl ?_
 refine Qo (Qiu (u := fun b => JX 127 b 150) (cs := [.pointer (some ⟨t, 0, none⟩)]) (Qox ⟨t, 0, none⟩) rfl) fun g14 => ?_
 refine Qo (Q0) fun g5 => ?_
 refine Q7 (Qw rfl rfl) ?_
 refine yN ?_
 refine yR ?_
 refine Qb (Qm rfl) ?_
 refine Qb (QdC (Qmz g14) rfl) ?_
 refine yS rfl ?_
 refine yN ?_
 refine Qd ?_
 refine yR ?_
 refine yM rfl ?_
 refine Qb (VK Qmt rfl rfl) ?_
 refine Qb (Ql (QL rfl rfl) rfl) ?_
 refine yM rfl ?_
 refine Qb (Qm rfl) ?_
 refine Qb (Qex (u := .pointer (some ⟨t, 0, none⟩)) (fun w hw => Qot g14 ⟨t, 0, none⟩ w hw) rfl) ?_
 refine Qb (Qy rfl rfl) ?_
 refine yN ?_
 refine Qt rfl ?_
 refine Qn ?_
 refine Qc ?_
 refine yR ?_
 refine yM rfl ?_
 refine Qb (VK Qmp rfl rfl) ?_
 refine yS rfl ?_
 refine yN ?_
 refine Qd ?_
 refine yR ?_
 refine yM rfl ?_
 refine Qb (VK Qmv rfl rfl) ?_
 refine Qb (Ql (QL rfl rfl) rfl) ?_
 refine yM rfl ?_
 refine yM rfl ?_
 refine Qb (Qf rfl) ?_
 refine Qb (VK Qmr rfl rfl) ?_
 refine Qb (Ji rfl) ?_
 refine Qb (Qy rfl rfl) ?_
 refine yN ?_
 refine Qt rfl ?_
 refine Qn ?_
 refine Qc ?_
 refine yR ?_
 refine yM rfl ?_
 refine yM rfl ?_
 refine Qb (Qm rfl) ?_
 refine yM rfl ?_
 refine Qh ((Qp7 e t g14 op i c).comes) rfl rfl rfl fun _ => ?_
 refine yS rfl ?_
 refine yN ?_
 refine Qs ?_
 exact Qu rfl rfl fun w s => ⟨(), rfl, (same (L' := [.blk t [.int .i64 c] 54]) w s).res (List.Sublist.refl _) (by simp [Fa.wr])⟩
theorem Qpv (e : Nat) (op : ByteArray) (i c : Int) : QC Tryz.prog 72 [.iface 145 (.pointer (some ⟨e, 0, none⟩))].toArray [ERT, .rd (some ⟨e, 0, none⟩) (Yf op i c)] [] (fun _ : Unit => .int .i64 c) (fun _ => []) := by
 refine Qk Tryz.func72 rfl (n := 12) rfl rfl ?_
 intro W
 refine yR ?_
 refine yS rfl ?_
 refine yN ?_
 refine yR ?_
 refine Qo (Q0) fun g3 => ?_
 refine yN ?_
 refine Qd ?_
 refine Qq ?_
 refine yR ?_
 refine yM rfl ?_
 refine Qb (YP rfl) ?_
 refine yS rfl ?_
 refine yN ?_
 refine Qt rfl ?_
 refine yR ?_
 refine yM rfl ?_
 refine Qb (qq rfl) ?_
 refine Qh ((Qpc e g3 op i c).comes) rfl rfl rfl fun _ => ?_
 refine yS rfl ?_
 refine yN ?_
 refine Qz rfl ?_
 refine yR ?_
 refine Qb (Qf rfl) ?_
 refine yS rfl ?_
 refine yN ?_
 refine Qs ?_
 refine Q3 ?_
 refine Qr ?_
 exact Qu rfl rfl fun w s => ⟨(), rfl, s.res (List.nil_sublist _) (by simp)⟩
theorem Qnb (e : Nat) (op : ByteArray) (i c : Int) : QC Tryz.prog 94 [.iface 145 (.pointer (some ⟨e, 0, none⟩))].toArray [ERT, .rd (some ⟨e, 0, none⟩) (Yf op i c)] [] (fun _ : Unit => .tuple #[.string op, .int .i64 i, .bool true]) (fun _ => []) := by
 refine Qk Tryz.func94 rfl (n := 18) rfl rfl ?_
 intro W
 refine yR ?_
 refine yS rfl ?_
 refine yS rfl ?_
 refine yS rfl ?_
 refine yN ?_
 refine yR ?_
 refine Qo (Q0) fun g5 => ?_
 refine yN ?_
 refine Qd ?_
 refine yR ?_
 refine yM rfl ?_
 refine Qb (qq rfl) ?_
 refine Qh ((QqW e g5).comes) rfl rfl rfl fun _ => ?_
 refine Qb (Ji rfl) ?_
 refine yN ?_
 refine Qt rfl ?_
 refine Qn ?_
 refine Qc ?_
 refine Qd ?_
 refine Q1 [.blk g5 [.pointer (some ⟨e, 0, none⟩)] 145, .rd (some ⟨e, 0, none⟩) (Yf op i c)] [] QJ (same) ?_
 refine Qp 0 rfl (Qf rfl) ?_
 refine Qa 1 rfl (QA rfl) ?_
 refine Qa 2 rfl (Qe rfl) ?_
 refine Qp 3 rfl (Qf rfl) ?_
 refine Qp 4 rfl (Qf rfl) ?_
 refine Qa 5 rfl (QA rfl) ?_
 refine Qa 6 rfl (Qe rfl) ?_
 refine Qp 7 rfl (Qf rfl) ?_
 refine Qa 8 rfl (Q6 rfl) ?_
 refine Qa 9 rfl (Q6 rfl) ?_
 refine Qa 10 rfl (Q6 rfl) ?_
 refine QB (by kernel_rfl) ?_
 refine Qc ?_
 refine Qs ?_
 exact qM rfl rfl rfl rfl fun w s => ⟨(), rfl, s.res (List.nil_sublist _) (by simp)⟩
end
section
open Go.RowKit Go.ChangeShapes Go.WideShapes
section
variable {H : Type} {enc : TypeId × Value → H} {w : World} {base : Nat} {spare : Nat → Bool} {held : Bool} {v : Value} {d : DataW H} {ps : List MemPlace} {r : Reach} {b0 : Nat}
theorem Qk3 : Tryz.prog.cellsOf 4 = 1 := by kernel_rfl
theorem Qh4 : Tryz.prog.cellsOf 50 = 3 := by kernel_rfl
theorem Qea : ∃ f1 f2 f3 : Field, Tryz.prog.underlying 50 = some (.struct #[f1, f2, f3]) ∧ f1.type = 35 ∧ f2.type = 35 ∧ f3.type = 4 ∧ f1.offset = 0 ∧ f2.offset = 1 ∧ f3.offset = 2 :=
 ⟨_, _, _, Tryz.underlying50, rfl, rfl, rfl, rfl, rfl, rfl⟩
theorem qc {fuel : Nat} {cs : List Value} {x : DataW H × List MemPlace} (h : DataW.trod enc Tryz.prog w base spare held fuel 35 cs = some x) : ∃ (s : Sl) (l : List UInt8), cs = [.slice s.A s.n s.c] ∧ SlZ (World.zh w) s l := by
 obtain ⟨l, A, c, e2, hlc, -, hA, hr, -⟩ := Qbz (f := fun b : UInt8 => [Value.int .u8 b.toNat]) (fun _ => rfl) Nat.one_pos Tryz.underlying35 Qr3 (fun _ => True) (fun fuel cs x h => by
  obtain ⟨n, rfl, _, hw⟩ := DataW.trod_int Tryz.underlying5 h
  have := bounds_u8 hw
  exact ⟨Qhk (.int .u8 n), by rw [Qhl this.1 this.2], trivial⟩) h
 rw [Qi5] at hr
 refine ⟨⟨A, l.length, c⟩, l, e2, ⟨rfl, hlc, fun h0 => ?_, RdZ.of hr⟩⟩
 have := hA h0
 exact ⟨(show l.length = 0 by omega), this⟩
end
abbrev ZW : List (String × DataW Unit) := [("errors.errorType", Rows.laid_errors_errorType), ("sparsetree/sha.rounds", Rows.laid_sparsetree_sha_rounds)]
theorem gET : Tryz.prog.globalNamed "errors.errorType" = some 0 := by kernel_rfl
theorem QrF : (Tryz.prog.cutTypes.find? (·.1 == "internal/reflectlite.rtype")).map (·.2) = some 309 := by kernel_rfl
theorem Ql6 : ((List.range Tryz.prog.types.size).filter fun t => Tryz.prog.rowNamed t [101, 114, 114, 111, 114]) = [43] := by kernel_rfl
theorem Qdx {W : World} (h : laidMetH Tryz.prog ZW W) : laidMetH Tryz.prog Qlz W ∧ handlesMet Tryz.prog [("errors.errorType", Rows.laid_errors_errorType)] W := by
 have h' : laidMet Tryz.prog Qlz W ∧ handlesMet Tryz.prog [("errors.errorType", Rows.laid_errors_errorType)] W := h
 refine ⟨?_, h'.2⟩
 rw [MakeChecks.laidMetH_plain _ _ _ (by kernel_rfl)]
 exact h'.1
theorem QkU {W : World} (h : laidMetH Tryz.prog ZW W) : Rd W (some ⟨0, 0, none⟩) [rty 43] := by
 obtain ⟨name, u, ty, e1, e2, e3, e4, e5⟩ := (Qdx h).2 _ (List.mem_singleton.2 rfl)
 have en : name = [101, 114, 114, 111, 114] := (Option.some.inj e1).symm
 subst en
 obtain rfl := Option.some.inj (QrF.symm.trans e2)
 have hm : ty ∈ (List.range Tryz.prog.types.size).filter fun t => Tryz.prog.rowNamed t [101, 114, 114, 111, 114] := List.mem_filter.2 ⟨List.mem_range.2 e3, e4⟩
 rw [Ql6] at hm
 obtain rfl := List.mem_singleton.1 hm
 have hh : typeHandle Tryz.prog 43 = hdl 43 := by kernel_rfl
 rw [hh] at e5
 have hc := World.var?_cell gET e5 0
 intro j u hu
 refine ⟨0, 0, rfl, ?_⟩
 match j, hu with
 | 0, hu =>
  rw [← hu]
  simpa using hc
 | j + 1, hu => exact absurd hu (by simp)
theorem QiL (os : Os) (args : Array Value) : laidMetH Tryz.prog ZW ((World.doorLaid Tryz.prog 36 os).forCall (fun _ _ => 0) ⟨#[], args, []⟩).memory :=
 laidMetH_of_parts3 (fuel := 8) (laidMet_of_run' 8 (by kernel_rfl) (by kernel_rfl)) (by kernel_rfl) (by kernel_rfl)
end
section
open Go.RowKit
inductive Sub where
 | one (x : Item)
 | two (l r : Sub)
def QaD : Nat → List Item → Option (Sub × List Item)
 | _, [] => none
 | 0, x :: rest => if x.kind = 2 then none else some (.one x, rest)
 | d + 1, x :: rest => if x.kind = 2 then (QaD d rest).bind fun p => (QaD d p.2).bind fun q => some (.two p.1 q.1, q.2) else some (.one x, rest)
def QpR (x : Item) : Bool := decide (0 ≤ x.kind) && decide (x.kind ≤ 3)
def QiB (x : Item) : Bool := (x.kind == 3 || decide (x.digest = QN)) && (x.kind == 1 || decide (x.leaf = Yi))
def Qru (l : List Item) (r : Option (Sub × List Item)) : Int := match r with | none => -1 | some p => (l.length : Int) - p.2.length
end
section
open Go.RowKit
def Sub.tag : Sub → TypeId
 | .one _ => 270
 | .two _ _ => 266
def Sub.val : Sub → Value
 | .one x => .agg x.cells.toArray
 | .two l r => .agg #[.iface l.tag l.val, .iface r.tag r.val]
end
section
open Go.RowKit Go.ChangeShapes Go.WideShapes
end
section
open Go.RowKit
theorem Qi9 {p : Proof} (h0 : okJ p 0 = true) (h1 : okJ p 1 = true) (h2 : okJ p 2 = true) (h3 : okJ p 3 = true) (h4 : okJ p 4 = true) : Jk p = 0 := by
 unfold Jk
 rw [h0, if_neg (by simp), h1, if_neg (by simp), h2, if_neg (by simp), h3, if_neg (by simp), h4, if_neg (by simp)]
theorem Qjq {b : B32} (h : 0 < (Jl b).length) : Yl b 256 = (((Jl b).getD ((Jl b).length - 1) 0 : Nat) : Int) := by
 rw [Qa3, List.getLast?_eq_getElem?, List.getD]
 cases hx : (Jl b)[(Jl b).length - 1]? with
 | none => rw [List.getElem?_eq_none_iff] at hx; omega
 | some i => rfl
theorem Qjp {b : B32} (h : (Jl b).length = 0) : Yl b 256 = -1 := by
 rw [Qa3, List.eq_nil_of_length_eq_zero h]
 rfl
end
section
open Go.RowKit
end
section
open Go.RowKit
end
section
open Go.RowKit
def Qav (f : Nat → UInt8) (k : Nat) : List UInt8 := (List.range k).map f ++ List.replicate (32 - k) 0
theorem QiV (f : Nat → UInt8) {k : Nat} (h : k ≤ 32) : (Qav f k).length = 32 := by simp [Qav]; omega
theorem QiW (f : Nat → UInt8) {k : Nat} (h : k < 32) : (Qav f k).set k (f k) = Qav f (k + 1) := by
 unfold Qav
 rw [List.set_append_right _ _ (by simp), show 32 - k = (32 - (k + 1)) + 1 by omega, List.replicate_succ]
 simp only [List.length_map, List.length_range, Nat.sub_self, List.set_cons_zero]
 rw [List.range_succ, List.map_append, List.append_assoc]
 rfl
theorem QiU (l : List UInt8) (o : Nat) : Qav (fun j => l.getD (o + j) 0) 32 = (Jf l o).1 := by
 show (List.range 32).map _ ++ List.replicate 0 0 = _
 rw [List.replicate_zero, List.append_nil]
 rfl
theorem Qb1 (l : List UInt8) (A : Option Addr) (c : Nat) (hl : l.length = 32) : QC Tryz.prog 38 [.slice A l.length c].toArray [.rd A (bc l)] [] (fun _ : Unit => .agg (keyOf l).cells.toArray) (fun _ => []) := by
 have hko : (Jf l 0) = keyOf l := by
  have h1 := YY (l := l) (o := 0) (by omega)
  rw [List.drop_zero, List.drop_of_length_le (by omega), List.append_nil] at h1
  unfold keyOf
  rw [dif_pos hl]
  exact Subtype.ext h1.symm
 rw [← hko]
 refine Qk Tryz.func38 rfl (n := 16) rfl rfl ?_
 intro W
 refine Jq (φ := ∃ b o, A = some ⟨b, o, none⟩) (fun w s => Rd.some (s.ok (.rd A (bc l)) (by simp)) (by rw [Jt]; omega)) ?_
 rintro ⟨b, o, rfl⟩
 refine yR ?_
 refine Qo (Q0) fun g2 => ?_
 refine yN ?_
 refine yR ?_
 refine Qo (Q0) fun g3 => ?_
 refine yN ?_
 refine Qd ?_
 refine yR ?_
 refine yS rfl ?_
 refine yN ?_
 refine Qq ?_
 change H _ _ _ _ _ (.blk g3 (bc (Qav (fun j => l.getD (0 + j) 0) 0)) _ :: _) _
 refine QS (fun (k : Nat) => k ≤ 32) (fun (k : Nat) => [(4, .int .i64 (k : Int)), (3, .pointer (some ⟨g3, 0, none⟩)), (2, .pointer (some ⟨g2, 0, none⟩)), (0, .slice (some ⟨b, o, none⟩) l.length c)]) (fun (k : Nat) => [.blk g3 (bc (Qav (fun j => l.getD (0 + j) 0) k)) 34, .blk g2 QN.cells 34, .rd (some ⟨b, o, none⟩) (bc l)]) (fun (k : Nat) => 32 - k) 0 ((show 0 ≤ 32 by omega)) ⟨rfl, rfl, rfl, rfl, trivial⟩ (same) ?_
 rintro k hk
 refine Qd ?_
 refine yR ?_
 refine yM rfl ?_
 refine Qb (QT rfl rfl) ?_
 refine yN ?_
 refine QU rfl (fun hlt => ?_) (fun hlt => ?_)
 ·have hfl := QiV (fun j => l.getD (0 + j) 0) (k := k) hk
  refine Qn ?_
  refine Qc ?_
  refine Qd ?_
  refine Qq ?_
  refine Q5 ?_
  refine yM rfl ?_
  refine yM rfl ?_
  refine yM rfl ?_
  refine Qb (QQ rfl rfl) ?_
  refine Qb (QX rfl (J1 (l := l) (i := k) (by omega))) ?_
  refine Qb (QP rfl rfl) ?_
  refine Q7 (Qad rfl rfl) ?_
  refine QE ?_
  refine Q2 ?_
  refine Qc ?_
  refine Q5 ?_
  refine yM rfl ?_
  refine Qb (QI rfl rfl) ?_
  refine yS rfl ?_
  refine QE ?_
  change H _ _ _ _ _ (.blk g3 (bc ((Qav (fun j => l.getD (0 + j) 0) k).set k (l.getD k 0))) _ :: _) _
  rw [show l.getD k 0 = l.getD (0 + k) 0 by rw [Nat.zero_add], QiW (fun j => l.getD (0 + j) 0) (by omega)]
  exact QH (k + 1) ((show k + 1 ≤ 32 by omega)) ((show 32 - (k + 1) < 32 - k by omega)) ⟨rfl, rfl, rfl, rfl, trivial⟩ (same)
 obtain rfl : k = 32 := by omega
 rw [QiU]
 change H _ _ _ _ _ (.blk g3 (Jf l 0).cells _ :: _) _
 refine QK ?_
 refine Qx ?_
 refine Qx ?_
 refine Q8 ?_
 refine Qc ?_
 refine yR ?_
 refine Qb (Qm rfl) ?_
 refine Q7 (Qw rfl rfl) ?_
 refine yN ?_
 refine Qs ?_
 exact Qu rfl (QZ rfl) fun w s => ⟨(), rfl, s.res (List.nil_sublist _) (by simp)⟩
end
end Go.Proofs.YtjhlbbgikccclaaGreatDoor
