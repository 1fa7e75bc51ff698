/- joined texts -/
import Derived.Test.YtjhlbbgikccclaaGreatDoorF3
import Derived.Laws.CopyOwn
set_option linter.all false
namespace Go.Proofs.YtjhlbbgikccclaaGreatDoor
section
open Go.RowKit
section
variable {P : Program} {n : Nat} {D : List Deferred} {E : Env} {L : List Fa} {T T' : TypeId} {x y : Operand} {k k' : IntKind} {i j : Int} {m m' : Nat}
theorem QrD [h1 : TInt P T k] [h2 : TInt P T' k'] [hk : UK k' m'] (hx : ev E x = some (.int k i)) : QM P n D E L (.convert T T' x) (.int k' ((BitVec.ofInt m' i).toNat : Int)) := fun c w ka s o ho => by
 unfold execOp
 simp only [ho, ka.ev hx, convert, Sem.run_bind, run_underlying h1.und, run_underlying h2.und, Result.andThen_ok, Conv.intToInt, hk.wrap, BitVec.toNat_ofInt]
 have : (0 : Int) ≤ i % ((2 ^ m' : Nat) : Int) := Int.emod_nonneg _ (by have := Nat.two_pow_pos m'; omega)
 simp only [Sem.run_pure, Result.andThen_ok]
 congr 3
 push_cast at this ⊢
 omega
theorem Zi {q : Nat} [h1 : TInt P T k] [h2 : TInt P T' k'] [hk : UK k' m'] (hx : ev E x = some (.int k i)) [hq : NatOf i q] : QM P n D E L (.convert T T' x) (.int k' ((BitVec.ofNat m' q).toNat : Int)) := fun c w ka s o ho => by
 obtain rfl := hq.eq
 unfold execOp
 simp only [ho, ka.ev hx, convert, Sem.run_bind, run_underlying h1.und, run_underlying h2.und, Result.andThen_ok, Conv.intToInt, hk.wrap, BitVec.toNat_ofNat]
 simp [Int.natCast_emod]
theorem Zj {a : BitVec m} [h1 : TInt P T k] [h2 : TInt P T' .i64] [UK k m] (hx : ev E x = some (.int k i)) [ha : Wd m i a] (hm : m ≤ 32 := by decide) : QM P n D E L (.convert T T' x) (.int .i64 (a.toNat : Int)) := by
 obtain rfl := ha.eq
 refine QlX hx (IntWalk.i64_in _ ?_)
 have h1 := a.isLt
 have h2 : 2 ^ m ≤ 2 ^ 32 := Nat.pow_le_pow_right (by decide) hm
 omega
theorem Qro {q : Nat} [h1 : TInt P T k] [h2 : TInt P T' k'] [hk : UK k' m'] (hx : ev E x = some (.int k i)) (h : i = (q : Int)) (hb : q < 2 ^ m') : QM P n D E L (.convert T T' x) (.int k' (q : Int)) := by
 subst h
 refine QlX hx ?_
 rw [hk.wrap, Int.emod_eq_of_lt (by omega) (by exact_mod_cast hb)]
theorem Qma {i j : Int} {ts : Array TypeId} (hx : ev E x = some (.int k i)) (hy : ev E y = some (.int k j)) : QM P n D E L (.call { callee := .builtin .min, args := #[x, y], argTypes := ts }) (.int k (if j < i then j else i)) := fun c w ka s o ho => by
 unfold execOp
 simp [ho, resolve, invoke, builtin, ka.ev hx, ka.ev hy, Builtin.min_, Builtin.min2]
theorem Qpk {i j : Int} {ts : Array TypeId} (hx : ev E x = some (.int k i)) (hy : ev E y = some (.int k j)) : QM P n D E L (.call { callee := .builtin .max, args := #[x, y], argTypes := ts }) (.int k (if j > i then j else i)) := fun c w ka s o ho => by
 unfold execOp
 simp [ho, resolve, invoke, builtin, ka.ev hx, ka.ev hy, Builtin.max_, Builtin.max2]
theorem QbC {op : Op} {u v : Value} (h : QM P n D E L op u) (e : u = v) : QM P n D E L op v := e ▸ h
theorem Jv {op : Op} {i j : Int} (h : QM P n D E L op (.int k i)) (e : i = j) : QM P n D E L op (.int k j) := e ▸ h
theorem Ql {op : Op} {i j : Bool} (h : QM P n D E L op (.bool i)) (e : i = j) : QM P n D E L op (.bool j) := e ▸ h
end
def ic (l : List Nat) : List Value := l.map fun i => .int .i64 ((i : Nat) : Int)
theorem Qpd {l : List Nat} {i : Nat} (h : i < l.length) : (ic l)[i]? = some (.int .i64 ((l.getD i 0 : Nat) : Int)) := by simp [ic, h]
theorem Qlp (l : List Nat) : (ic l).length = l.length := by simp [ic]
theorem Qky (l : List UInt8) (i : Nat) (b : UInt8) : (bc l).set i (.int .u8 (b.toNat : Int)) = bc (l.set i b) := by simp [bc, List.map_set]
theorem Qq4 {m : Nat} (k : IntKind) (l : List (BitVec m)) (i : Nat) (b : BitVec m) : (wc k l).set i (.int k (b.toNat : Int)) = wc k (l.set i b) := by simp [wc, List.map_set]
section
variable {P : Program} {A : List Fa} {W : World} {n : Nat} {D : List Deferred} {E : Env} {L M : List Fa} {T : TypeId} {x y : Operand} {i : Int}
theorem Qad {T' g off : Nat} [TOne P T] {l : List UInt8} {a : BitVec 8} (hp : ev E x = some (.pointer (some ⟨g, off, none⟩))) (hx : ev E y = some (.int .u8 i)) [hm : TakeB g L (bc l) T' M] [ha : Wd 8 i a] (hf : off < l.length := by omega) : Vj P A W n D E L (.store T x y) (.blk g (bc (l.set off (UInt8.ofBitVec a))) T' :: M) := by
 obtain rfl := ha.eq
 exact Qpm hp hx rfl (by rw [Jt]; exact hf) (Qky l off (UInt8.ofBitVec a))
theorem Qii {g N c e off : Nat} [TOne P T] {l : List UInt8} {a : BitVec 8} (hp : ev E x = some (.pointer (some ⟨g, off, none⟩))) (hx : ev E y = some (.int .u8 i)) [hm : TakeG g L N c e 1 (bc l) M] [ha : Wd 8 i a] (hf : off < l.length := by omega) : Vj P A W n D E L (.store T x y) (.own (.slice (some ⟨g, 0, none⟩) N c) N e 1 (bc (l.set off (UInt8.ofBitVec a))) :: M) := by
 obtain rfl := ha.eq
 exact Qhg hp hx rfl (by rw [Jt]; exact hf) (Qky l off (UInt8.ofBitVec a))
theorem Qbg {T' g off m : Nat} {k : IntKind} [TOne P T] {l : List (BitVec m)} {a : BitVec m} (hp : ev E x = some (.pointer (some ⟨g, off, none⟩))) (hx : ev E y = some (.int k i)) [hm : TakeB g L (wc k l) T' M] [ha : Wd m i a] (hf : off < l.length := by omega) : Vj P A W n D E L (.store T x y) (.blk g (wc k (l.set off a)) T' :: M) := by
 obtain rfl := ha.eq
 exact Qpm hp hx rfl (by rw [Qq3]; exact hf) (Qq4 k l off a)
theorem Yo {t e size bytes : Nat} {z : Value} [E' : TS P t e size bytes z] {N m c b O off k : Nat} {v : Value} {xs cs out : List Value} (hs : ev E x = some v) (hx : ev E y = some (.slice (some ⟨b, O, none⟩) m c)) [hd : TakeO v L N e size xs M] [hc : Cells b O M off cs] {m1 : Nat} (h1m : m = m1 + 1 := by rfl) (hk : m * size = k := by rfl) [hr : RowAt cs off k out] [h1 : Row out k] (hb : (N + m) * bytes ≤ 140737488355328 := by omega) :
  JO P A W n D E L (.call { callee := .builtin .append, args := #[x, y], argTypes := #[t, t] }) (fun u : Nat × Nat => .slice (some ⟨u.1, 0, none⟩) (N + m) u.2) (fun u => .own (.slice (some ⟨u.1, 0, none⟩) (N + m) u.2) (N + m) e size (xs ++ out) :: M) := fun a w ka s o hop => by
 have h2 := s.perm hd.perm
 have hrd : Rd w (some ⟨b, O, none⟩) out := fun j u hu => ⟨b, O, rfl, hc.cell h2.toFx.tail j u (hr.at_ j u hu)⟩
 obtain ⟨v', w', hrun, h3, h4, h5⟩ := Qit (base := 0) hop E'.el (ka.ev hs) (h2.ok (.own _ _ _ _ _) (List.mem_cons_self ..)) (ka.ev hx) (by simp) (by rw [hr.len, hk]) hrd h1.one hb (Nat.zero_le _)
 have hS := h2.grow h3 h4 h5
 rcases h3.2 with ⟨_, h6⟩ | ⟨g, cap, cur, rfl, _⟩
 ·omega
 exact ⟨(g, cap), w', hrun, hS⟩
theorem QmT {t e size bytes : Nat} {z : Value} [E' : TS P t e size bytes z] {N m c : Nat} {B : Option Addr} {v : Value} {xs cs : List Value} (hs : ev E x = some v) (hx : ev E y = some (.slice B m c)) [hd : TakeO v L N e size xs M] [hr : Rd1 M (.rd B cs)] (hB : B = none → m = 0 ∧ c = 0) (hl : cs.length = m * size) (h1 : ∀ u ∈ cs, u.oneCell' = true) (hb : (N + m) * bytes ≤ 140737488355328 := by omega) :
  JO P A W n D E L (.call { callee := .builtin .append, args := #[x, y], argTypes := #[t, t] }) (fun u : Option Addr × Nat => .slice u.1 (N + m) u.2) (fun u => .own (.slice u.1 (N + m) u.2) (N + m) e size (xs ++ cs) :: M) := fun a w ka s o hop => by
 have h2 := s.perm hd.perm
 obtain ⟨v', w', hrun, h3, h4, h5⟩ := Qit (base := 0) hop E'.el (ka.ev hs) (h2.ok (.own _ _ _ _ _) (List.mem_cons_self ..)) (ka.ev hx) hB hl (hr.ok h2.toFx.tail).2.1 h1 hb (Nat.zero_le _)
 have hS := h2.grow h3 h4 h5
 obtain ⟨A', c', rfl, _, _, _⟩ := Qd3 h3
 exact ⟨(A', c'), w', hrun, hS⟩
theorem QoY {dT sT e g N c m c' bytes : Nat} {z : Value} [E' : TS P dT e 1 bytes z] {B : Option Addr} {ys xs : List Value} (hd : ev E x = some (.slice (some ⟨g, 0, none⟩) N c)) (hs : ev E y = some (.slice B m c')) [ht : TakeO (.slice (some ⟨g, 0, none⟩) N c) L N e 1 ys M] [hr : Rd1 M (.rd B xs)] (hB : B = none → m = 0) (hl : xs.length = m) (hm : m ≤ N) (h1 : ∀ u ∈ xs, u.oneCell' = true) :
  JO P A W n D E L (.call { callee := .builtin .copy, args := #[x, y], argTypes := #[dT, sT] }) (fun _ : Unit => .int .i64 (m : Int)) (fun _ => .own (.slice (some ⟨g, 0, none⟩) N c) N e 1 (xs ++ ys.drop m) :: M) := fun a w ka s o hop => by
 have h2 := s.perm ht.perm
 have ho : w.ownsRow 0 e 1 (.slice (some ⟨g, 0, none⟩) N c) N ys := h2.ok (.own _ _ _ _ _) (List.mem_cons_self ..)
 obtain ⟨cur, hb, h3, h4, h5, h6⟩ := JT ho
 have hR : Rd w B xs := (hr.ok h2.toFx.tail).2.1
 by_cases h0 : m = 0
 ·subst h0
  obtain rfl : xs = [] := List.eq_nil_of_length_eq_zero hl
  have hrun := run_copy_none (P := P) w dT sT o.type e (some ⟨g, 0, none⟩) B N c 0 c' E'.el.ht (ZB (E' := E')) (by simp)
  refine ⟨(), w, ?_, by simpa using h2⟩
  unfold execOp
  simp [hop, resolve, invoke, builtin, ka.ev hd, ka.ev hs, hrun, Result.andThen, goInt]
 obtain ⟨b, off, rfl, _, hcells⟩ := hR.open_ (by omega)
 have hyl : ys.length = N := by simpa using ho.1
 have hcl : cur.length = c := by simpa using h5
 have hrun := run_copy_row (P := P) w dT sT o.type e g 0 N c ⟨b, off, none⟩ m c' cur.toArray e xs E'.el.ht (ZB (E' := E')) hb (by rw [hl]; exact (Nat.min_eq_left hm).symm) (fun j v hv => by rw [Addr.add_mid]; exact hcells j v hv) (by simp; omega) h1
 have hbl : Below 0 w (w.setRow g (cur.toArray.toList.take 0 ++ (xs ++ cur.toArray.toList.drop (0 + xs.length))).toArray) := below_setRow (Below.refl 0 w) (Nat.zero_le _) _
 refine ⟨(), _, ?_, h2.turn rfl (fun k hk => .inl hk) (qC (setRow_heap w g _ _ e _ hb) (by simp; omega) h3 h4 (by simp; omega) ?_) hbl.os hbl.tape hbl.output hbl.size fun k _ hne => setRow_other w g k _ fun e => hne (show some g = some k by rw [e])⟩
 ·unfold execOp
  simp only [hop, resolve, invoke, builtin, ka.ev hd, ka.ev hs, List.map_toArray, List.map_cons, List.map_nil, Sem.run_bind, Sem.run_pure, Result.andThen_ok, hrun, hl]
  rfl
 simp only [List.take_zero, List.nil_append, Nat.zero_add, Nat.mul_one, hl]
 rw [← h6, Nat.mul_one, List.drop_take]
 rw [List.take_append]
 simp [hl, List.take_of_length_le (show xs.length ≤ N by omega)]
theorem QoX {dT sT e g N c m c' bytes : Nat} {z : Value} [E' : TS P dT e 1 bytes z] {B : Option Addr} {ly lx : List UInt8} (hd : ev E x = some (.slice (some ⟨g, 0, none⟩) N c)) (hs : ev E y = some (.slice B m c')) (hB : B = none → m = 0) (hl : lx.length = m) (hm : m ≤ N := by omega) [ht : TakeO (.slice (some ⟨g, 0, none⟩) N c) L N e 1 (bc ly) M] [hr : Rd1 M (.rd B (bc lx))] :
  JO P A W n D E L (.call { callee := .builtin .copy, args := #[x, y], argTypes := #[dT, sT] }) (fun _ : Unit => .int .i64 (m : Int)) (fun _ => .own (.slice (some ⟨g, 0, none⟩) N c) N e 1 (bc (lx ++ ly.drop m)) :: M) := by
 have := QoY (P := P) (A := A) (W := W) (n := n) (D := D) (sT := sT) (E' := E') hd hs hB ((Jt lx).trans hl) hm (YZ lx) (ht := ht)
 rwa [← Qh2, ← Zu] at this
theorem VH {e bytes : Nat} [E' : TS P T e 1 bytes (.int .u8 0)] {c : Nat} {i j : Int} (hx : ev E x = some (.int .i64 i)) (hy : ev E y = some (.int .i64 j)) [h1 : NatOf i c] [h2 : NatOf j c] (hb : c * bytes ≤ 281474976710656 := by omega) :
  JO P A W n D E L (.makeSlice T x y) (fun g : Nat => .slice (some ⟨g, 0, none⟩) c c) (fun g => .own (.slice (some ⟨g, 0, none⟩) c c) c e 1 (bc (List.replicate c 0)) :: L) := by
 have := Qhs (P := P) (A := A) (W := W) (n := n) (D := D) (L := L) hx hy hb (E' := E')
 simp only [Qgt] at this
 exact this
theorem Vd {t e bytes : Nat} {z : Value} [E' : TS P t e 1 bytes z] {N m c N' : Nat} {B : Option Addr} {v : Value} {lx ly : List UInt8} (hs : ev E x = some v) (hx : ev E y = some (.slice B m c)) (hB : B = none → m = 0 ∧ c = 0) (hl : ly.length = m) [hd : TakeO v L N e 1 (bc lx) M] [hr : Rd1 M (.rd B (bc ly))] (hb : (N + m) * bytes ≤ 140737488355328 := by omega) (hN : N + m = N' := by first | (simp only [Nat.zero_add]; exact rfl) | exact rfl) :
  JO P A W n D E L (.call { callee := .builtin .append, args := #[x, y], argTypes := #[t, t] }) (fun u : Option Addr × Nat => .slice u.1 N' u.2) (fun u => .own (.slice u.1 N' u.2) N' e 1 (bc (lx ++ ly)) :: M) := by
 subst hN
 have := QmT (P := P) (A := A) (W := W) (n := n) (D := D) (E' := E') hs hx hB (by rw [Jt, hl, Nat.mul_one]) (YZ ly) hb (hd := hd) (hr := hr)
 rwa [← Zu] at this
theorem QeB {t e bytes b O off c N N' : Nat} {z : Value} [E' : TS P t e 1 bytes z] {v : Value} {lx : List UInt8} {cs : List Value} {a : BitVec 8} (hs : ev E x = some v) (hx : ev E y = some (.slice (some ⟨b, O, none⟩) 1 c)) [hd : TakeO v L N e 1 (bc lx) M] [hc : Cells b O M off cs] [hr : CellAt cs off (.int .u8 i)] [ha : Wd 8 i a] (hb : (N + 1) * bytes ≤ 140737488355328 := by omega) (hN : N + 1 = N' := by first | (simp only [Nat.zero_add]; exact rfl) | exact rfl) :
  JO P A W n D E L (.call { callee := .builtin .append, args := #[x, y], argTypes := #[t, t] }) (fun u : Nat × Nat => .slice (some ⟨u.1, 0, none⟩) N' u.2) (fun u => .own (.slice (some ⟨u.1, 0, none⟩) N' u.2) N' e 1 (bc (lx ++ [UInt8.ofBitVec a])) :: M) := by
 subst hN
 obtain rfl := ha.eq
 have hrow : RowAt cs off 1 [.int .u8 (a.toNat : Int)] := ⟨fun j u hu => by cases j with | zero => simpa using hu ▸ hr.at_ | succ j => simp at hu, rfl⟩
 have := Yo (P := P) (A := A) (W := W) (n := n) (D := D) (E' := E') hs hx (h1m := rfl) (hk := rfl) hb (hd := hd) (hc := hc) (hr := hrow) (h1 := Yy rfl)
 rw [show bc (lx ++ [UInt8.ofBitVec a]) = bc lx ++ [.int .u8 (a.toNat : Int)] by rw [Zu]; rfl]
 exact this
theorem QoU {t e bytes b O off c N N' m : Nat} {z : Value} {k : IntKind} [E' : TS P t e 1 bytes z] {v : Value} {lx : List (BitVec m)} {cs : List Value} {a : BitVec m} (hs : ev E x = some v) (hx : ev E y = some (.slice (some ⟨b, O, none⟩) 1 c)) [hd : TakeO v L N e 1 (wc k lx) M] [hc : Cells b O M off cs] [hr : CellAt cs off (.int k i)] [ha : Wd m i a] (hb : (N + 1) * bytes ≤ 140737488355328 := by omega) (hN : N + 1 = N' := by first | (simp only [Nat.zero_add]; exact rfl) | exact rfl) :
  JO P A W n D E L (.call { callee := .builtin .append, args := #[x, y], argTypes := #[t, t] }) (fun u : Nat × Nat => .slice (some ⟨u.1, 0, none⟩) N' u.2) (fun u => .own (.slice (some ⟨u.1, 0, none⟩) N' u.2) N' e 1 (wc k (lx ++ [a])) :: M) := by
 subst hN
 obtain rfl := ha.eq
 have hrow : RowAt cs off 1 [.int k (a.toNat : Int)] := ⟨fun j u hu => by cases j with | zero => simpa using hu ▸ hr.at_ | succ j => simp at hu, rfl⟩
 have := Yo (P := P) (A := A) (W := W) (n := n) (D := D) (E' := E') hs hx (h1m := rfl) (hk := rfl) hb (hd := hd) (hc := hc) (hr := hrow) (h1 := Yy rfl)
 rw [show wc k (lx ++ [a]) = wc k lx ++ [.int k (a.toNat : Int)] by simp [wc]]
 exact this
theorem QoT {t e bytes b O off c N N' q : Nat} {z : Value} [E' : TS P t e 1 bytes z] {v : Value} {lx : List Nat} {cs : List Value} (hs : ev E x = some v) (hx : ev E y = some (.slice (some ⟨b, O, none⟩) 1 c)) [hd : TakeO v L N e 1 (ic lx) M] [hc : Cells b O M off cs] [hr : CellAt cs off (.int .i64 i)] [ha : NatOf i q] (hb : (N + 1) * bytes ≤ 140737488355328 := by omega) (hN : N + 1 = N' := by first | (simp only [Nat.zero_add]; exact rfl) | exact rfl) :
  JO P A W n D E L (.call { callee := .builtin .append, args := #[x, y], argTypes := #[t, t] }) (fun u : Nat × Nat => .slice (some ⟨u.1, 0, none⟩) N' u.2) (fun u => .own (.slice (some ⟨u.1, 0, none⟩) N' u.2) N' e 1 (ic (lx ++ [q])) :: M) := by
 subst hN
 obtain rfl := ha.eq
 have hrow : RowAt cs off 1 [.int .i64 (q : Int)] := ⟨fun j u hu => by cases j with | zero => simpa using hu ▸ hr.at_ | succ j => simp at hu, rfl⟩
 have := Yo (P := P) (A := A) (W := W) (n := n) (D := D) (E' := E') hs hx (h1m := rfl) (hk := rfl) hb (hd := hd) (hc := hc) (hr := hrow) (h1 := Yy rfl)
 rw [show ic (lx ++ [q]) = ic lx ++ [.int .i64 (q : Int)] by simp [ic]]
 exact this
theorem Sx.ownLe {w : World} {B : Option Addr} {N c e size : Nat} {xs : List Value} (s : Sx A W w L) [hd : TakeO (.slice B N c) L N e size xs M] : N ≤ c ∧ xs.length = N * size ∧ (B = none → N = 0 ∧ c = 0) := by
 obtain ⟨A', c', e', h1, h2, h3⟩ := Qd3 ((s.perm hd.perm).ok (.own _ _ _ _ _) (List.mem_cons_self ..))
 injection e' with e1 _ e2
 subst e1 e2
 exact ⟨h1, h3, h2⟩
end
section
variable {P : Program} {A : List Fa} {W : World} {n : Nat} {D : List Deferred} {E : Env} {L M : List Fa} {x y : Operand} {i : Int}
theorem Qrj {t e size bytes : Nat} {z : Value} [E' : TS P t e size bytes z] {N m c b O off k g0 c0 : Nat} {xs cs out : List Value} (hs : ev E x = some (.slice (some ⟨g0, 0, none⟩) N c0)) (hx : ev E y = some (.slice (some ⟨b, O, none⟩) m c)) [hd : TakeO (.slice (some ⟨g0, 0, none⟩) N c0) L N e size xs M] [hc : Cells b O M off cs] {m1 : Nat} (h1m : m = m1 + 1 := by rfl) (hk : m * size = k := by rfl) [hr : RowAt cs off k out] [h1 : Row out k] (hb : (N + m) * bytes ≤ 140737488355328 := by omega) :
  Qhx P A W n D E L [.rd (some ⟨g0, 0, none⟩) xs] (.call { callee := .builtin .append, args := #[x, y], argTypes := #[t, t] }) (fun u : Nat × Nat => .slice (some ⟨u.1, 0, none⟩) (N + m) u.2) (fun u => .own (.slice (some ⟨u.1, 0, none⟩) (N + m) u.2) (N + m) e size (xs ++ out) :: M) := fun a w ka s hLr o hop => by
 have h2 := s.perm hd.perm
 have hrd : Rd w (some ⟨b, O, none⟩) out := fun j u hu => ⟨b, O, rfl, hc.cell h2.toFx.tail j u (hr.at_ j u hu)⟩
 have hold : Fa.holds w (.rd (some ⟨g0, 0, none⟩) xs) := hLr.ok _ (List.mem_cons_self ..)
 obtain ⟨v', w', hrun, h3, h4, h5⟩ := QmQ (base := 0) hop E'.el (ka.ev hs) (h2.ok (.own _ _ _ _ _) (List.mem_cons_self ..)) (ka.ev hx) (by simp) (by rw [hr.len, hk]) hrd h1.one hb (Nat.zero_le _)
 have hS := h2.grow h3 h4 (h5.imp_right And.left)
 rcases h3.2 with ⟨_, h6⟩ | ⟨g, cap, cur, rfl, _⟩
 ·omega
 refine ⟨(g, cap), w', hrun, hS, ⟨fun f hf => ?_, List.pairwise_singleton _ _⟩⟩
 rw [List.mem_singleton.1 hf]
 rcases h5 with h5 | ⟨_, h5⟩
 ·have h6 : some g = some g0 := h5
  injection h6 with h6
  subst h6
  intro j u hu
  refine ⟨g, 0, rfl, ?_⟩
  have := Qa5 h3 (j := j) (v := u) (by rw [List.getElem?_append_left (List.getElem?_eq_some_iff.1 hu).1]; exact hu)
  simpa using this
 exact Fa.kept hold h5.size fun k hk => h5.block k (Fa.bound hold hk)
theorem QnP {t e bytes b O off c N N' m g0 c0 : Nat} {z : Value} {k : IntKind} [E' : TS P t e 1 bytes z] {lx : List (BitVec m)} {cs : List Value} {a : BitVec m} (hs : ev E x = some (.slice (some ⟨g0, 0, none⟩) N c0)) (hx : ev E y = some (.slice (some ⟨b, O, none⟩) 1 c)) [hd : TakeO (.slice (some ⟨g0, 0, none⟩) N c0) L N e 1 (wc k lx) M] [hc : Cells b O M off cs] [hr : CellAt cs off (.int k i)] [ha : Wd m i a] (hb : (N + 1) * bytes ≤ 140737488355328 := by omega) (hN : N + 1 = N' := by first | (simp only [Nat.zero_add]; exact rfl) | exact rfl) :
  Qhx P A W n D E L [.rd (some ⟨g0, 0, none⟩) (wc k lx)] (.call { callee := .builtin .append, args := #[x, y], argTypes := #[t, t] }) (fun u : Nat × Nat => .slice (some ⟨u.1, 0, none⟩) N' u.2) (fun u => .own (.slice (some ⟨u.1, 0, none⟩) N' u.2) N' e 1 (wc k (lx ++ [a])) :: M) := by
 subst hN
 obtain rfl := ha.eq
 have hrow : RowAt cs off 1 [.int k (a.toNat : Int)] := ⟨fun j u hu => by cases j with | zero => simpa using hu ▸ hr.at_ | succ j => simp at hu, rfl⟩
 have := Qrj (P := P) (A := A) (W := W) (n := n) (D := D) (E' := E') hs hx (h1m := rfl) (hk := rfl) hb (hd := hd) (hc := hc) (hr := hrow) (h1 := Yy rfl)
 rw [show wc k (lx ++ [a]) = wc k lx ++ [.int k (a.toNat : Int)] by simp [wc]]
 exact this
end
end
section
open Go.RowKit
def QeJ (P : Program) (gf : FuncId) (lb : List Value) (R A : List Fa) {τ : Type} (N : Nat) (enc : Nat → τ → List Value) (G : Nat → τ → List Fa) (A' : List Fa) : Prop :=
 ∀ (l : Nat) (J : Nat → List Fa → Prop) (Rm m0 : List Fa) (w : World), (∀ k m, J k m → ∀ f ∈ m, f.wr = true) →
  (∀ k u m, k < N → J k m → ∀ w, Fx w (G k u ++ m) → qw w (G k u ++ m) Rm → YieldAt Fence.wide 0 P l (enc k u).toArray w fun e w' => e = .returned (.bool true) ∧ ∃ m', J (k + 1) m' ∧ Rx (G k u ++ m) w w' m') →
  J 0 m0 → Fx w (A ++ m0) → qw w (A ++ m0) (R ++ Rm) →
  Calls P gf (.func (.yield l) #[] #[] :: lb).toArray w fun e w' => ∃ v m', e = .returned v ∧ J N m' ∧ Rx (A ++ m0) w w' (A' ++ m')
theorem Qe8 {A A' : List Fa} (h : A.Perm A') (k : Nat) : wf A k ↔ wf A' k := ⟨fun ⟨f, hf, h1⟩ => ⟨f, h.mem_iff.1 hf, h1⟩, fun ⟨f, hf, h1⟩ => ⟨f, h.mem_iff.2 hf, h1⟩⟩
theorem Rx.permA {A A' : List Fa} {W w : World} {N : List Fa} (hr : Rx A W w N) (h : A.Perm A') : Rx A' W w N :=
 ⟨⟨hr.toFx, hr.os, hr.tape, hr.output, hr.size, fun k hk hn => hr.block k hk fun hw => hn ((Qe8 h k).1 hw), fun f hf hw k hk => (hr.fresh f hf hw k hk).imp_right (Qe8 h k).1⟩, fun f hf k hk => (hr.all f hf k hk).imp_right (Qe8 h k).1⟩
theorem qw.perm {w : World} {A A' R : List Fa} (hr : qw w A R) (h : A.Perm A') : qw w A' R := fun r hrm => ⟨(hr r hrm).1, (hr r hrm).2.1, fun a ha => (hr r hrm).2.2 a (h.mem_iff.2 ha)⟩
instance (priority := 2000) (G m Rm L M' M : List Fa) [h : Take G L M'] [k : TakeT m Rm M' M] : TakeT (G ++ m) Rm L M := ⟨by
 refine h.perm.trans ?_
 rw [List.append_assoc]
 exact List.Perm.append_left _ k.perm⟩
section
variable {A : List Fa} {W : World} {n : Nat} {D : List Deferred} {E : Env} {L M : List Fa} {P : Program} {Q : Exit → Act → World → Prop}
theorem Qax {τ : Type} {N : Nat} {G : Nat → τ → List Fa} {g : Operand} {ps : List Nat} {assign body : Code} {gf : FuncId} {lb : List Value} {R Ai Ai' : List Fa} {enc : Nat → τ → List Value} (it : QeJ P gf lb R Ai N enc G Ai') (hg : ev E g = some (.func (.func gf) #[] lb.toArray)) [eg : Ent P gf]
  (J : Nat → List Fa → Prop) (m0 Rm : List Fa) [ht : Take (Ai ++ m0) L M] [hr : Rds M (R ++ Rm)] (hJw : ∀ k m, J k m → ∀ f ∈ m, f.wr = true) (h0 : J 0 m0) (hps : (ps.all fun p => Nat.blt p n) = true) (hen : ∀ k u, (enc k u).length = ps.length)
  (hround : ∀ (l : Nat) (r : Loop) (k : Nat) (u : τ) (m : List Fa) (W1 : World), r.state = .ready → r.pending = none → k < N → J k m →
   H (.obj l (.loop r) :: (G k u ++ m)) W1 n [] (Zc ps (enc k u) E) (.obj l (.loop r) :: ((G k u ++ m) ++ Rm)) (assign.wpIn (FR (some l)) 0 P (Exit.then (fun a₁ w₁ => ∃ w₂, (Instr.beginRound l).run P w₁ = .ok () w₂ ∧ body.wpIn (FR (some l)) 0 P (roundPost P l (Vw l r (J (k + 1)) (G k u ++ m) W1)) a₁ w₂) (fun _ _ _ => False))))
  (hdone : ∀ (b : Nat) (m : List Fa), J N m → H A W n ({ target := .collected b, args := #[] } :: D) E ((Ai' ++ m) ++ (.obj b (.deferred (some [])) :: M)) (Q .normal)) :
  H A W n D E L ((Code.rangeFunc g ps.toArray assign body).wpIn (FR none) 0 P Q) := fun a w ka s => by
 refine wpIn_rangeFunc ?_
 intro fn hfn
 obtain ⟨rec, hrec⟩ : ∃ rec : Loop, rec = { state := .ready, pending := none, fn, tmps := a.tmps, params := ps.toArray, assign, body, defers := w.heap.size } := ⟨_, rfl⟩
 have s1 := (s.allocObj (.deferred (some []))).allocObj (.loop rec)
 rw [World.size_alloc] at s1
 generalize hW1 : (w.alloc (.deferred (some []))).alloc (.loop rec) = W1 at s1
 have s2 := s1.zag ht.perm
 have hev : a.eval g = .func (.func gf) #[] lb.toArray := ka.ev hg
 refine ⟨w.heap.size + 1, [{ target := .collected w.heap.size, args := #[] }], W1, { target := .fn (.func gf) lb.toArray, args := #[.func (.yield (w.heap.size + 1)) #[] #[]] }, W1, gf, #[.func (.yield (w.heap.size + 1)) #[] #[]] ++ lb.toArray, W1, ?_, ?_, ?_, ?_, (fun h => by cases h), ?_⟩
 ·rw [← hW1, hrec]
  exact run_enterLoop_outer _ _ _ _ _
 ·simp only [resolve, hev]
  simp [go_sem]
 ·intro f' _
  trivial
 ·simp only [invoke]
  exact eg.ok _ _
 have hcall := it (w.heap.size + 1) (fun k m => ∃ m1, m = .obj (w.heap.size + 1) (.loop rec) :: m1 ∧ J k m1) Rm (.obj (w.heap.size + 1) (.loop rec) :: m0) W1 (by rintro k m ⟨m1, rfl, hm⟩ f hf; exact (List.mem_cons.1 hf).elim (fun h => by rw [h]; rfl) (hJw k m1 hm f)) ?_ ⟨m0, rfl, h0⟩ (s2.toFx.sub (List.sublist_append_left _ _)) ?_
 ·rw [show (#[.func (.yield (w.heap.size + 1)) #[] #[]] ++ lb.toArray : Array Value) = (.func (.yield (w.heap.size + 1)) #[] #[] :: lb).toArray by simp]
  refine (Qal hcall).mono ?_
  rintro e w3 ⟨v, m', rfl, ⟨m1, rfl, hJ⟩, hx⟩
  have s3 := s2.ret hx
  have s4 := s3.perm (M := .obj (w.heap.size + 1) (.loop rec) :: ((Ai' ++ m1) ++ (.obj w.heap.size (.deferred (some [])) :: M))) (by
   simp only [List.append_assoc, List.cons_append]
   exact List.perm_middle)
  have ho : w3.heap[w.heap.size + 1]? = some (.loop rec) := s4.ok (.obj _ _) (List.mem_cons_self ..)
  refine ⟨none, w3.putObj (w.heap.size + 1) (.loop { rec with state := .exhausted }), ?_, ?_⟩
  ·have := run_endLoop (P := P) ho (by rw [hrec]; simp)
   have hpn : rec.pending = none := by rw [hrec]
   rw [this, hpn]
  exact hdone _ m1 hJ _ _ ⟨ka.size, by show [_] ++ a.defers = _; rw [ka.defers]; rfl, ka.val⟩ (s4.putObj _).tail
 ·rintro k u m hkN ⟨m1, rfl, hJ⟩ w4 hf0 hR0
  have hpm : (G k u ++ .obj (w.heap.size + 1) (.loop rec) :: m1).Perm (.obj (w.heap.size + 1) (.loop rec) :: (G k u ++ m1)) := List.perm_middle
  have hf := hf0.perm hpm
  have hR := hR0.perm hpm
  have ho : w4.heap[w.heap.size + 1]? = some (.loop rec) := hf.ok (.obj _ _) (List.mem_cons_self ..)
  have hy := run_yield (P := P) (args := (enc k u).toArray) ho (by rw [hrec]; simpa using hen k u)
  refine ⟨_, _, _, _, hy, ?_⟩
  have hk : Kn n [] E { tmps := a.tmps, defers := [] } := ⟨ka.size, rfl, ka.val⟩
  have hk2 := Kn.par ps (enc k u) E a.tmps hps hk
  have hh := hround (w.heap.size + 1) rec k u m1 w4 (by rw [hrec]) (by rw [hrec]) hkN hJ _ w4 hk2 (Sx.start hf hR)
  rw [hrec] at hh ⊢
  refine (roundIn_of_wpIn (F := Fence.wide) trivial (R := Vw (w.heap.size + 1) rec (J (k + 1)) (G k u ++ m1) w4) ?_).mono ?_
  ·rw [hrec]
   simp only [List.zip_toArray, List.foldl_toArray]
   exact hh
  rintro e w5 ⟨rfl, m', hJ', hx⟩
  rw [← hrec]
  exact ⟨rfl, _, ⟨m', rfl, hJ'⟩, hx.permA hpm.symm⟩
 refine s2.reads (M := .obj w.heap.size (.deferred (some [])) :: M) (List.Perm.refl _) ⟨fun hw r hrm => ?_⟩
 obtain ⟨h1, h2, h3⟩ := hr.ok hw.tail r hrm
 exact ⟨h1, h2, fun k hk => let ⟨f, hf, hfk⟩ := h3 k hk; ⟨f, List.mem_cons_of_mem _ hf, hfk⟩⟩
theorem Qcv {L1 LL : List Fa → List Fa → List Fa} {gf n : Nat} {fn : Func} {c : Code} {lb : List Value} {R Ai Ai' : List Fa} {τ : Type} {N : Nat} {enc : Nat → τ → List Value} {G : Nat → τ → List Fa} (hf : P.funcs[gf]? = some fn) (hb : fn.body = some c) (hn : fn.ntmps = n) (hl : Nat.ble (lb.length + 1) n = true) [hL1 : ∀ m0 Rm, App R (m0 ++ Rm) (L1 m0 Rm)] [hL2 : ∀ m0 Rm, App Ai (L1 m0 Rm) (LL m0 Rm)]
  (h : ∀ (l : Nat) (J : Nat → List Fa → Prop) (Rm m0 : List Fa) (W : World), (∀ k m, J k m → ∀ f ∈ m, f.wr = true) → (∀ r ∈ Rm, r.wr = false) → (∀ k u m, k < N → J k m → YA P l (enc k u) Rm (G k u ++ m) (J (k + 1))) → J 0 m0 →
   H (Ai ++ m0) W n [] (Y7 0 (.func (.yield l) #[] #[] :: lb)) (LL m0 Rm) (c.wpIn (FR none) 0 P (bodyPostM (FR none) 0 P fn fun e w' => ∃ v m', e = .returned v ∧ J N m' ∧ Rx (Ai ++ m0) W w' (Ai' ++ m')))) : QeJ P gf lb R Ai N enc G Ai' := fun l J Rm m0 w hJw hy h0 hA hR => by
 have hl' : (Value.func (.yield l) #[] #[] :: lb).length ≤ n := by simpa using hl
 have hp : (Ai ++ m0 ++ (R ++ Rm)).Perm (Ai ++ (R ++ (m0 ++ Rm))) := by
  rw [List.append_assoc]
  refine List.Perm.append_left _ ?_
  rw [← List.append_assoc, ← List.append_assoc]
  exact List.Perm.append_right _ List.perm_append_comm
 have s := (Sx.start hA hR).perm hp
 rw [(hL1 m0 Rm).eq, (hL2 m0 Rm).eq] at s
 refine (callsIn_wide (n := 0)).1 (callsIn_of_wp_marks hf hb trivial (h l J Rm m0 w hJw (fun r hr => (hR r (List.mem_append_right _ hr)).1) hy h0 _ w ⟨?_, rfl, fun t u ht => ?_⟩ s))
 ·simp only [hn, Array.size_append, List.size_toArray, Array.size_replicate]
  omega
 obtain ⟨_, h2⟩ := JZ (.func (.yield l) #[] #[] :: lb) 0 t u ht
 have hlt : t < (Value.func (.yield l) #[] #[] :: lb).length := by
  obtain ⟨h3, _⟩ := List.getElem?_eq_some_iff.1 h2
  simpa using h3
 rw [Array.getElem?_append_left (by simpa using hlt)]
 simpa using h2
end
end
section
open Go.RowKit
abbrev Zh := Nat → Option Obj
def Zh.cell (h : Zh) (b o : Nat) : Option Value := match h b with
 | some (.cells c _ _) => c[o]?
 | _ => none
class LeZ (h : outParam Zh) (h' : Zh) : Prop where
 le : ∀ k o, h k = some o → h' k = some o
theorem LeZ.refl (h : Zh) : LeZ h h := ⟨fun _ _ h => h⟩
theorem LeZ.trans {a b c : Zh} (h : LeZ a b) (h' : LeZ b c) : LeZ a c := ⟨fun k o e => h'.le k o (h.le k o e)⟩
theorem LeZ.cell {h h' : Zh} (hl : LeZ h h') {b o : Nat} {v : Value} (hc : h.cell b o = some v) : h'.cell b o = some v := by
 unfold Zh.cell at *
 cases hb : h b with
 | none => rw [hb] at hc; cases hc
 | some x => rw [hl.le b x hb]; rw [hb] at hc; exact hc
class RdZ (h : Zh) (A : Option Addr) (cs : outParam (List Value)) : Prop where
 at_ : ∀ j v, cs[j]? = some v → ∃ b o, A = some ⟨b, o, none⟩ ∧ h.cell b (o + j) = some v
theorem RdZ.nil (h : Zh) (A : Option Addr) : RdZ h A [] := ⟨fun j v e => by simp at e⟩
theorem RdZ.mono {h h' : Zh} (hl : LeZ h h') {A : Option Addr} {cs : List Value} (hr : RdZ h A cs) : RdZ h' A cs := ⟨fun j v hv => by
 obtain ⟨b, o, e, hc⟩ := hr.at_ j v hv
 exact ⟨b, o, e, hl.cell hc⟩⟩
theorem RdZ.part {h : Zh} {b o off n : Nat} {cs out : List Value} (hr : RdZ h (some ⟨b, o, none⟩) cs) (hp : RowAt cs off n out) : RdZ h (some ⟨b, o + off, none⟩) out := ⟨fun j v hv => by
 obtain ⟨b', o', e, hc⟩ := hr.at_ (off + j) v (hp.at_ j v hv)
 injection e with e
 injection e with e1 e2
 subst e1 e2
 exact ⟨b, o + off, rfl, by rw [Nat.add_assoc]; exact hc⟩⟩
theorem Zh.cell_of {h : Zh} {w : World} (hw : ∀ k o, h k = some o → w.heap[k]? = some o) {b o : Nat} {v : Value} (hc : h.cell b o = some v) : w.cell? ⟨b, o, none⟩ = some v := by
 unfold Zh.cell at hc
 cases hb : h b with
 | none => rw [hb] at hc; cases hc
 | some x =>
  rw [hb] at hc
  simp only [World.cell?, hw b x hb]
  cases x with
  | cells c T z => simpa using hc
  | _ => cases hc
theorem RdZ.rd {h : Zh} {w : World} (hw : ∀ k o, h k = some o → w.heap[k]? = some o) {A : Option Addr} {cs : List Value} (hr : RdZ h A cs) : Rd w A cs := fun j v hv => by
 obtain ⟨b, o, e, hc⟩ := hr.at_ j v hv
 exact ⟨b, o, e, Zh.cell_of hw hc⟩
def World.zh (w : World) : Zh := fun k => w.heap[k]?
theorem RdZ.of {w : World} {A : Option Addr} {cs : List Value} (hr : Rd w A cs) : RdZ (World.zh w) A cs := ⟨fun j v hv => by
 obtain ⟨b, o, e, hc⟩ := hr j v hv
 refine ⟨b, o, e, ?_⟩
 unfold Zh.cell World.zh
 simp only [World.cell?] at hc
 split at hc
 ·rename_i h1
  rw [h1]
  simpa using hc
 cases hc⟩
section
variable {b : Bool} {h : Zh} {L M : List Fa}
theorem Fx.zone {w : World} (hS : Fx w (.zone b h :: L)) : ∀ k o, h k = some o → w.heap[k]? = some o := hS.ok (.zone b h) (List.mem_cons_self ..)
theorem ZS {g O off : Nat} {cs : List Value} (hr : ∀ j v, cs[off + j]? = some v → h.cell g (O + j) = some v) : Cells g O (.zone b h :: L) off cs := ⟨fun hS j v hv => Zh.cell_of hS.zone (hr j v hv)⟩
theorem RdZ.cell {g o : Nat} {cs : List Value} (hr : RdZ h (some ⟨g, o, none⟩) cs) {j : Nat} {v : Value} (hv : cs[j]? = some v) : h.cell g (o + j) = some v := by
 obtain ⟨b', o', e, hc⟩ := hr.at_ j v hv
 injection e with e
 injection e with e1 e2
 subst e1 e2
 exact hc
instance (g o off : Nat) (cs : List Value) [hr : RdZ h (some ⟨g, o, none⟩) cs] : Cells g (o + off) (.zone b h :: L) off cs := ZS fun j v hv => by rw [Nat.add_assoc]; exact hr.cell hv
instance (g o : Nat) (cs : List Value) [hr : RdZ h (some ⟨g, o, none⟩) cs] : Cells g o (.zone b h :: L) 0 cs := ZS fun j v hv => hr.cell (by rwa [Nat.zero_add] at hv)
instance (priority := 900) (g O : Nat) (cs : List Value) [hr : RdZ h (some ⟨g, 0, none⟩) cs] : Cells g O (.zone b h :: L) O cs := ZS fun j v hv => by have := hr.cell hv; rwa [Nat.zero_add] at this
theorem QjY {A : Option Addr} {cs : List Value} (hr : RdZ h A cs) {k : Nat} (hk : (Fa.rd A cs).foot k) : (Fa.zone b h).foot k := by
 obtain ⟨hne, o, rfl⟩ := hk
 cases cs with
 | nil => exact (hne rfl).elim
 | cons v cs =>
  have := hr.cell (j := 0) (v := v) rfl
  unfold Zh.cell at this
  cases hb : h k with
  | none => rw [hb] at this; cases this
  | some x => exact ⟨x, hb⟩
instance (priority := 1400) (A : Option Addr) (cs : List Value) [hr : RdZ h A cs] : Rd1 (.zone b h :: L) (.rd A cs) := ⟨fun hw => ⟨rfl, hr.rd hw.zone, fun k hk => ⟨_, List.mem_cons_self .., QjY hr hk⟩⟩⟩
instance (priority := 1500) : Rd1 (.zone b h :: L) (.zone false h) := ⟨fun hw => ⟨rfl, hw.zone, fun k hk => ⟨_, List.mem_cons_self .., hk⟩⟩⟩
instance (priority := 1450) (h' : Zh) [hl : LeZ h h'] : Rd1 (.zone b h' :: L) (.zone false h) := ⟨fun hw => ⟨rfl, fun k o ho => hw.zone k o (hl.le k o ho), fun k ⟨o, ho⟩ => ⟨_, List.mem_cons_self .., o, hl.le k o ho⟩⟩⟩
class TakeZ (L : List Fa) (h : outParam Zh) (M : outParam (List Fa)) : Prop where
 perm : L.Perm (.zone true h :: M)
instance (h : Zh) (L : List Fa) : TakeZ (.zone true h :: L) h L := ⟨List.Perm.refl _⟩
instance (priority := 100) (f : Fa) (h : Zh) (L M : List Fa) [k : TakeZ L h M] : TakeZ (f :: L) h (f :: M) := ⟨(k.perm.cons f).trans (.swap ..)⟩
end
section
variable {A : List Fa} {W w : World} {n : Nat} {D : List Deferred} {E : Env} {L M M' : List Fa} {K : Act → World → Prop}
theorem Sx.merge {f f1 f2 : Fa} (s : Sx A W w (f1 :: f2 :: L)) (h1 : f1.wr = true) (h2 : f2.wr = true) (hf : f.holds w) (hft : ∀ k, f.foot k → f1.foot k ∨ f2.foot k) : Sx A W w (f :: L) := by
 obtain ⟨p1, p2⟩ := List.pairwise_cons.1 s.sep
 obtain ⟨p3, p4⟩ := List.pairwise_cons.1 p2
 refine ⟨⟨fun g hg => ?_, List.pairwise_cons.2 ⟨fun g hg _ k a b => ?_, p4⟩⟩, s.os, s.tape, s.output, s.size, s.block, fun g hg hw k hk => ?_⟩
 ·rcases List.mem_cons.1 hg with rfl | hg
  ·exact hf
  exact s.ok g (List.mem_cons_of_mem _ (List.mem_cons_of_mem _ hg))
 ·rcases hft k a with a | a
  ·exact p1 g (List.mem_cons_of_mem _ hg) (by rw [h1]; rfl) k a b
  exact p3 g hg (by rw [h2]; rfl) k a b
 rcases List.mem_cons.1 hg with rfl | hg
 ·rcases hft k hk with a | a
  ·exact s.fresh f1 (List.mem_cons_self ..) h1 k a
  exact s.fresh f2 (List.mem_cons_of_mem _ (List.mem_cons_self ..)) h2 k a
 exact s.fresh g (List.mem_cons_of_mem _ (List.mem_cons_of_mem _ hg)) hw k hk
theorem Sx.apart {f1 f2 : Fa} (s : Sx A W w (f1 :: f2 :: L)) (h1 : f1.wr = true) {k : Nat} (a : f1.foot k) (b : f2.foot k) : False :=
 (List.pairwise_cons.1 s.sep).1 f2 (List.mem_cons_self ..) (by rw [h1]; rfl) k a b
def Zh.add (h : Zh) (g : Nat) (o : Obj) : Zh := fun k => if k = g then some o else h k
theorem Zh.add_le {h : Zh} {g : Nat} {o : Obj} (hn : h g = none) : LeZ h (h.add g o) := ⟨fun k o' hk => by
 unfold Zh.add
 by_cases e : k = g
 ·rw [e, hn] at hk; cases hk
 rw [if_neg e]; exact hk⟩
theorem Sx.freeze {f : Fa} {h : Zh} {g : Nat} {o : Obj} (s : Sx A W w (f :: .zone true h :: L)) (hf : f.wr = true) (hg : f.foot g) (ho : w.heap[g]? = some o) : LeZ h (h.add g o) ∧ Sx A W w (.zone true (h.add g o) :: L) := by
 have hn : h g = none := by
  cases hb : h g with
  | none => rfl
  | some x => exact (s.apart hf hg ⟨x, hb⟩).elim
 refine ⟨Zh.add_le hn, s.merge hf rfl (fun k o' hk => ?_) fun k ⟨o', hk⟩ => ?_⟩
 all_goals
  unfold Zh.add at hk
  by_cases e : k = g
 ·rw [if_pos e] at hk; injection hk with hk; rw [e, ← hk]; exact ho
 ·rw [if_neg e] at hk; exact s.ok (.zone true h) (List.mem_cons_of_mem _ (List.mem_cons_self ..)) k o' hk
 ·exact .inl (e ▸ hg)
 rw [if_neg e] at hk; exact .inr ⟨o', hk⟩
theorem Zh.add_cell {h : Zh} {g : Nat} {c : Array Value} {T : TypeId} {z : Nat × Nat} (j : Nat) : (h.add g (.cells c T z)).cell g j = c[j]? := by
 unfold Zh.cell Zh.add
 simp
theorem qL (g : Nat) {cs : List Value} {T : TypeId} {h : Zh} [ht : TakeB g L cs T M] [hz : TakeZ M h M'] (k : ∀ h', LeZ h h' → RdZ h' (some ⟨g, 0, none⟩) cs → H A W n D E (.zone true h' :: M') K) : H A W n D E L K := fun a w ka s => by
 have s2 := (s.perm ht.perm).perm (hz.perm.cons _)
 obtain ⟨h1, h2⟩ := s2.freeze rfl rfl (s2.ok (.blk g cs T) (List.mem_cons_self ..))
 exact k _ h1 ⟨fun j v hv => ⟨g, 0, rfl, by rw [Zh.add_cell, Nat.zero_add]; simpa using hv⟩⟩ a w ka h2
theorem Jp (v : Value) {N e size : Nat} {xs : List Value} {h : Zh} [ht : TakeO v L N e size xs M] [hz : TakeZ M h M'] (k : ∀ h' B c, v = .slice B N c → N ≤ c → xs.length = N * size → (B = none → N = 0 ∧ c = 0) → LeZ h h' → RdZ h' B xs → H A W n D E (.zone true h' :: M') K) : H A W n D E L K := fun a w ka s => by
 have s2 := (s.perm ht.perm).perm (hz.perm.cons _)
 have ho : w.ownsRow 0 e size v N xs := s2.ok (.own v N e size xs) (List.mem_cons_self ..)
 rcases ho.2 with ⟨h1, h2⟩ | ⟨g, cap, cur, h1, _, h3, h4, h5, h6, h7⟩
 ·have h0 : N = 0 := h2
  have hxs : xs = [] := List.eq_nil_of_length_eq_zero (by rw [ho.1, h0, Nat.zero_mul])
  refine k h none 0 (by rw [h1, h0]) (by omega) ho.1 (fun _ => ⟨h0, rfl⟩) (LeZ.refl h) (by rw [hxs]; exact RdZ.nil _ _) a w ka s2.tail
 subst h1
 obtain ⟨e1, e2⟩ := s2.freeze rfl (rfl : (Fa.own (.slice (some ⟨g, 0, none⟩) N cap) N e size xs).foot g) h3
 refine k _ (some ⟨g, 0, none⟩) cap rfl h4 ho.1 (fun e => by cases e) e1 ⟨fun j u hu => ⟨g, 0, rfl, ?_⟩⟩ a w ka e2
 rw [Zh.add_cell, Nat.zero_add, ← Array.getElem?_toList]
 rw [← h7, List.getElem?_take] at hu
 split at hu
 ·exact hu
 cases hu
end
end
section
open Go.RowKit
class TConc (P : Program) (T : TypeId) : Prop where
 und : ∃ d, P.underlying T = some d ∧ ∀ l, d ≠ .interface l
class MethT (P : Program) (T : TypeId) (name : String) (f : outParam FuncId) : Prop where
 ok : ∀ v args w, (callMethod (.iface T v) name args).run P w = .ok (.enter f (#[v] ++ args)) w
section
variable {P : Program} {n : Nat} {D : List Deferred} {E : Env} {L : List Fa} {T T' xT : TypeId} {x y : Operand}
theorem Zm {w : World} {u : Value} {ok : Bool} [hT : TConc P T] : (Instr.typeAssert (.iface T u) xT T ok).run P w = .ok (if ok then .tuple #[u, .bool true] else u) w := by
 obtain ⟨d, hu, hd⟩ := hT.und
 unfold Instr.typeAssert
 rw [Sem.run_bind, run_underlying hu]
 simp only [Result.andThen_ok]
 cases d <;> first | (exact absurd rfl (hd _)) | (cases ok <;> simp)
theorem QcU {w : World} {u z : Value} (ho : ¬ T' = T) (hz : (zeroValue T).run P w = .ok z w) [hT : TConc P T] : (Instr.typeAssert (.iface T' u) xT T true).run P w = .ok (.tuple #[z, .bool false]) w := by
 obtain ⟨d, hu, hd⟩ := hT.und
 unfold Instr.typeAssert
 rw [Sem.run_bind, run_underlying hu]
 simp only [Result.andThen_ok]
 cases d <;> first | (exact absurd rfl (hd _)) | (simp [ho, hz])
class TZero (P : Program) (T : TypeId) (z : outParam Value) : Prop where
 run : ∀ w, (zeroValue T).run P w = .ok z w
theorem QlU {u : Value} [hT : TConc P T] (hx : ev E x = some (.iface T u)) : QM P n D E L (.typeAssert x xT T true) (.tuple #[u, .bool true]) := fun a w ka s o ho => by
 unfold execOp
 simp only [ho, ka.ev hx]
 rw [Sem.run_bind, Zm]
 rfl
theorem QlV {u z : Value} [hT : TConc P T] [hz : TZero P T z] (hx : ev E x = some (.iface T' u)) (hne : ¬ T' = T := by decide) : QM P n D E L (.typeAssert x xT T true) (.tuple #[z, .bool false]) := fun a w ka s o ho => by
 unfold execOp
 simp only [ho, ka.ev hx]
 rw [Sem.run_bind, QcU hne (hz.run w)]
 rfl
theorem Qph {u : Value} [hT : TConc P T] (hx : ev E x = some (.iface T u)) : QM P n D E L (.typeAssert x xT T false) u := fun a w ka s o ho => by
 unfold execOp
 simp only [ho, ka.ev hx]
 rw [Sem.run_bind, Zm]
 rfl
theorem qq {v : Value} [hT : TConc P T] (hx : ev E x = some v) : QM P n D E L (.makeInterface T x) (.iface T v) := by
 obtain ⟨d, hu, hd⟩ := hT.und
 refine Qol hu ?_ hx
 cases d <;> first | rfl | exact absurd rfl (hd _)
theorem QbD (w : World) (d : Nat) {e : TypeId} (B : Option Addr) (N c : Nat) (h : P.underlying T = some (.slice e)) : (Op.equalIn (d + 1) T (.slice B N c) (.slice none 0 0)).run P w = .ok B.isNone w := by
 cases B <;> simp [Op.equalIn, run_underlying h]
theorem Qhe (w : World) {e : TypeId} (B : Option Addr) (N c : Nat) (h : P.underlying T = some (.slice e)) : (binOp .eql T (.slice B N c) (.slice none 0 0)).run P w = .ok (.bool B.isNone) w := by
 simp only [binOp]
 simp [Op.equal, Op.maxDepth, QbD w 9999 B N c h]
theorem Qe0 {e size bytes : Nat} {z : Value} [E' : TS P T e size bytes z] {B : Option Addr} {N c : Nat} (hx : ev E x = some (.slice B N c)) (hy : ev E y = some (.slice none 0 0)) : QM P n D E L (.binOp .eql T x y T') (.bool B.isNone) := fun a w ka s o ho =>
 J7 ho (ka.ev hx) (ka.ev hy) rfl (Qhe w B N c E'.el.ht)
class TFT (P : Program) (T : TypeId) (i : Nat) (off ft : outParam Nat) : Prop where
 fld : ∃ (fs : Array Field) (f : Field), P.underlying T = some (.struct fs) ∧ fs[i]? = some f ∧ f.offset = off ∧ f.type = ft
theorem Qfr {cs out : List Value} {off m : Nat} (h : RowAt cs off m out) : cs.toArray.extract off (off + m) = out.toArray := by
 apply Array.ext'
 simp only [List.extract_toArray, List.extract_eq_drop_take']
 apply List.ext_getElem?
 intro j
 rw [List.getElem?_drop, List.getElem?_take]
 by_cases hj : j < m
 ·rw [if_pos (by omega)]
  have hl := h.len
  rw [List.getElem?_eq_getElem (l := out) (by omega)]
  exact h.at_ j _ (List.getElem?_eq_getElem (by omega))
 rw [if_neg (by omega), List.getElem?_eq_none (by rw [h.len]; omega)]
theorem YC {i off ft m : Nat} {cs out : List Value} [h : TFT P T i off ft] [hr : TRow P ft m] (hx : ev E x = some (.agg cs.toArray)) [hp : RowAt cs off m out] : QM P n D E L (.field T x i) (.agg out.toArray) := fun a w ka s o ho => by
 obtain ⟨fs, f, hu, hf, rfl, rfl⟩ := h.fld
 obtain ⟨d, hu', hd⟩ := hr.und
 have hpr := QaB (w := w) hu' hd hr.size cs.toArray f.offset
 rw [Qfr hp] at hpr
 unfold execOp
 simp only [ho, ka.ev hx, Instr.field, Sem.run_bind, run_underlying hu, Result.andThen_ok, hf, asAgg, Sem.run_pure, hpr]
theorem Qhc {i off ft : Nat} {cs : List Value} {v : Value} [h : TFT P T i off ft] [hr : TOne P ft] (hx : ev E x = some (.agg cs.toArray)) [hp : CellAt cs off v] : QM P n D E L (.field T x i) v := fun a w ka s o ho => by
 obtain ⟨fs, f, hu, hf, rfl, rfl⟩ := h.fld
 obtain ⟨d, hu', hd⟩ := hr.und
 have hpr : (part f.type cs.toArray f.offset).run P w = .ok v w := by
  have hagg : (isAgg f.type).run P w = .ok false w := by
   unfold isAgg
   rw [Sem.run_bind, run_underlying hu' w]
   cases d <;> simp_all
  unfold part
  rw [Sem.run_bind, hagg]
  have := hp.at_
  simp [this]
 unfold execOp
 simp only [ho, ka.ev hx, Instr.field, Sem.run_bind, run_underlying hu, Result.andThen_ok, hf, asAgg, Sem.run_pure, hpr]
end
section
variable {A : List Fa} {W : World} {n : Nat} {D : List Deferred} {E : Env} {L : List Fa} {P : Program} {ro : Option Nat} {Q : Exit → Act → World → Prop} {ops : Array Oper} {rest : List Oper} {d : Nat} {ty : TypeId} {pos : String} {af : Array Edge} {g : Option (Nat × Bool)}
theorem QoV {a : Act} {w : World} {o : Oper} {x : Operand} {l : List Operand} {ts : Array TypeId} {f : FuncId} {T : TypeId} {u : Value} {name : String} {argv : List Value} [hm : MethT P T name f] (ka : Kn n D E a) (ho : o.op = .call ⟨.invoke x name, l.toArray, ts⟩) (hx : ev E x = some (.iface T u)) (ha : evs E l = some argv) :
  (execOp a.eval o).run P w = .ok (.enter f (u :: argv).toArray) w := by
 unfold execOp
 simp only [ho, resolve, ka.ev hx, Sem.run_bind, Sem.run_pure, Result.andThen_ok, invoke]
 rw [List.map_toArray, ka.evs ha]
 have e0 : ((#[Value.iface T u] : Array Value) ++ argv.toArray)[0]? = some (.iface T u) := by simp
 rw [e0]
 simp only []
 have e : ((#[Value.iface T u] : Array Value) ++ argv.toArray).extract 1 ((#[Value.iface T u] : Array Value) ++ argv.toArray).size = argv.toArray := by simp
 rw [e]
 have := hm.ok u argv.toArray w
 rw [show ((u :: argv).toArray : Array Value) = #[u] ++ argv.toArray by simp]
 exact this
theorem QhM {x : Operand} {l : List Operand} {ts : Array TypeId} {f : FuncId} {T : TypeId} {u : Value} {name : String} {argv args : List Value} [MethT P T name f] {τ : Type} {v : τ → Value} {L' : τ → List Fa} (hc : JN P A W L f args.toArray v L') (hx : ev E x = some (.iface T u)) (ha : evs E l = some argv) (he : u :: argv = args)
  (k : ∀ x, H A W n D ((d, v x) :: E) (L' x) (wpListIn (FR ro) 0 P ops Q rest)) (hd : Nat.blt d n = true := by exact rfl) (hg : wn ops E g = some true := by exact rfl) : H A W n D E L (wpListIn (FR ro) 0 P ops Q (⟨some d, .call ⟨.invoke x name, l.toArray, ts⟩, ty, pos, af, g⟩ :: rest)) := fun a w ka s => by
 unfold wpListIn
 rw [JE ka hg, if_pos rfl]
 refine Zq (QoV ka rfl hx ha) (he ▸ hc w s) ?_
 rintro e w' ⟨y, rfl, hy⟩
 exact ⟨_, rfl, k y _ _ (ka.put hd _) hy⟩
theorem Qmj {fn : Func} {a : Act} {w : World} {r s q : ResultVar} {v u x : Value} (ka : Kn n D E a) (hw : Fx w L) (hf : fn.results = #[r, s, q]) (h : VR P E L r v) (h1 : VR P E L s u) (h2 : VR P E L q x) : (results fn a.tmps).run P w = .ok (.tuple #[v, u, x]) w := by
 cases r with
 | tmp t0 =>
  have e0 := Yx ka h; rw [Array.getD_eq_getD_getElem?] at e0
  cases s with
  | tmp t1 =>
   have e1 := Yx ka h1; rw [Array.getD_eq_getD_getElem?] at e1
   cases q with
   | tmp t2 =>
    have e2 := Yx ka h2; rw [Array.getD_eq_getD_getElem?] at e2
    simp [results, hf, e0, e1, e2, asAddr]
   | cell p2 T2 =>
    obtain ⟨b2, e2, f2⟩ := JU ka hw h2; rw [Array.getD_eq_getD_getElem?] at e2
    simp [results, hf, e0, e1, e2, f2, asAddr]
  | cell p1 T1 =>
   obtain ⟨b1, e1, f1⟩ := JU ka hw h1; rw [Array.getD_eq_getD_getElem?] at e1
   cases q with
   | tmp t2 =>
    have e2 := Yx ka h2; rw [Array.getD_eq_getD_getElem?] at e2
    simp [results, hf, e0, e1, f1, e2, asAddr]
   | cell p2 T2 =>
    obtain ⟨b2, e2, f2⟩ := JU ka hw h2; rw [Array.getD_eq_getD_getElem?] at e2
    simp [results, hf, e0, e1, f1, e2, f2, asAddr]
 | cell p0 T0 =>
  obtain ⟨b0, e0, f0⟩ := JU ka hw h; rw [Array.getD_eq_getD_getElem?] at e0
  cases s with
  | tmp t1 =>
   have e1 := Yx ka h1; rw [Array.getD_eq_getD_getElem?] at e1
   cases q with
   | tmp t2 =>
    have e2 := Yx ka h2; rw [Array.getD_eq_getD_getElem?] at e2
    simp [results, hf, e0, f0, e1, e2, asAddr]
   | cell p2 T2 =>
    obtain ⟨b2, e2, f2⟩ := JU ka hw h2; rw [Array.getD_eq_getD_getElem?] at e2
    simp [results, hf, e0, f0, e1, e2, f2, asAddr]
  | cell p1 T1 =>
   obtain ⟨b1, e1, f1⟩ := JU ka hw h1; rw [Array.getD_eq_getD_getElem?] at e1
   cases q with
   | tmp t2 =>
    have e2 := Yx ka h2; rw [Array.getD_eq_getD_getElem?] at e2
    simp [results, hf, e0, f0, e1, f1, e2, asAddr]
   | cell p2 T2 =>
    obtain ⟨b2, e2, f2⟩ := JU ka hw h2; rw [Array.getD_eq_getD_getElem?] at e2
    simp [results, hf, e0, f0, e1, f1, e2, f2, asAddr]
theorem qM {fn : Func} {R : Ending → World → Prop} {F : Fence} {m : Nat} {r s q : ResultVar} {v u x : Value} (hf : fn.results = #[r, s, q]) (h : VR P E L r v) (h1 : VR P E L s u) (h2 : VR P E L q x) (hR : ∀ w, Sx A W w L → R (.returned (.tuple #[v, u, x])) w) : H A W n [] E L (bodyPostM F m P fn R .ret) := fun a w ka s' => by
 show LeavesInM F m P fn a.tmps R a.defers .returning w
 rw [ka.defers]
 exact ⟨_, Qmj ka s'.toFx hf h h1 h2, hR w s'⟩
end
end
end Go.Proofs.YtjhlbbgikccclaaGreatDoor
