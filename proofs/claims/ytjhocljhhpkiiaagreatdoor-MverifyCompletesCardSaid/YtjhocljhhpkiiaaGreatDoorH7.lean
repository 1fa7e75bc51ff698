/- SHA-256 in plain Lean, as the reference reckons it; Rotations; the padding; The reference's padding and schedule; The reference's schedule; The reference's sum (joined texts: E7 U1 U2 U3 U4) -/
import Derived.Test.YtjhocljhhpkiiaaGreatDoorH6
set_option linter.all false
/- E7 -/
namespace Go.Proofs.YtjhocljhhpkiiaaGreatDoor
set_option linter.unusedSimpArgs false
set_option linter.unusedVariables false
abbrev W32 := BitVec 32
def rotr (x : W32) (n : Nat) : W32 := (x >>> n) ||| (x <<< (32 - n))
def sg0 (x : W32) : W32 := (rotr x 7 ^^^ rotr x 18) ^^^ (x >>> 3)
def sg1 (x : W32) : W32 := (rotr x 17 ^^^ rotr x 19) ^^^ (x >>> 10)
def bg1 (x : W32) : W32 := (rotr x 6 ^^^ rotr x 11) ^^^ rotr x 25
def bg0 (x : W32) : W32 := (rotr x 2 ^^^ rotr x 13) ^^^ rotr x 22
def ch (e f g : W32) : W32 := (e &&& f) ^^^ (~~~e &&& g)
def maj (a b c : W32) : W32 := ((a &&& b) ^^^ (a &&& c)) ^^^ (b &&& c)
theorem ch_eq (e f g : W32) : g ^^^ (e &&& (f ^^^ g)) = ch e f g := by
  unfold ch
  ext i hi
  simp only [BitVec.getElem_xor, BitVec.getElem_and, BitVec.getElem_not]
  cases e[i] <;> cases f[i] <;> cases g[i] <;> rfl
theorem maj_eq (a b c : W32) : (a &&& b) ||| (c &&& (a ||| b)) = maj a b c := by
  unfold maj
  ext i hi
  simp only [BitVec.getElem_xor, BitVec.getElem_and, BitVec.getElem_or]
  cases a[i] <;> cases b[i] <;> cases c[i] <;> rfl
def xorl (x : W32) (l : List Nat) : W32 := l.foldl (fun s n => s ^^^ rotr x n) 0
theorem xorl2 (x : W32) (a b : Nat) : xorl x [a, b] = rotr x a ^^^ rotr x b := by simp [xorl]
theorem xorl3 (x : W32) (a b c : Nat) : xorl x [a, b, c] = (rotr x a ^^^ rotr x b) ^^^ rotr x c := by simp [xorl]
theorem take_snoc {α : Type} {d : α} {l : List α} {k : Nat} (h : k < l.length) : l.take (k + 1) = l.take k ++ [l.getD k d] := by
  rw [List.take_succ_eq_append_getElem h]
  simp [List.getD, h]
theorem xorl_step (x : W32) {l : List Nat} {k : Nat} (h : k < l.length) : xorl x (l.take (k + 1)) = xorl x (l.take k) ^^^ rotr x (l.getD k 0) := by
  rw [take_snoc h (d := 0)]
  simp [xorl, List.foldl_append]
structure S8 where
  a : W32
  b : W32
  c : W32
  d : W32
  e : W32
  f : W32
  g : W32
  h : W32
def S8.l (s : S8) : List W32 := [s.a, s.b, s.c, s.d, s.e, s.f, s.g, s.h]
def t1 (k w : W32) (s : S8) : W32 := s.h + bg1 s.e + ch s.e s.f s.g + k + w
def t2 (s : S8) : W32 := bg0 s.a + maj s.a s.b s.c
def rnd (k w : W32) (s : S8) : S8 := ⟨t1 k w s + t2 s, s.a, s.b, s.c, s.d + t1 k w s, s.e, s.f, s.g⟩
def S8.add (s t : S8) : S8 := ⟨s.a + t.a, s.b + t.b, s.c + t.c, s.d + t.d, s.e + t.e, s.f + t.f, s.g + t.g, s.h + t.h⟩
def K64 : List W32 := [0x428a2f98, 0x71374491, 0xb5c0fbcf, 0xe9b5dba5, 0x3956c25b, 0x59f111f1, 0x923f82a4, 0xab1c5ed5, 0xd807aa98, 0x12835b01, 0x243185be, 0x550c7dc3, 0x72be5d74, 0x80deb1fe, 0x9bdc06a7, 0xc19bf174, 0xe49b69c1, 0xefbe4786, 0x0fc19dc6, 0x240ca1cc, 0x2de92c6f, 0x4a7484aa, 0x5cb0a9dc, 0x76f988da, 0x983e5152, 0xa831c66d, 0xb00327c8, 0xbf597fc7, 0xc6e00bf3, 0xd5a79147, 0x06ca6351, 0x14292967, 0x27b70a85, 0x2e1b2138, 0x4d2c6dfc, 0x53380d13, 0x650a7354, 0x766a0abb, 0x81c2c92e, 0x92722c85, 0xa2bfe8a1, 0xa81a664b, 0xc24b8b70, 0xc76c51a3, 0xd192e819, 0xd6990624, 0xf40e3585, 0x106aa070, 0x19a4c116, 0x1e376c08, 0x2748774c, 0x34b0bcb5, 0x391c0cb3, 0x4ed8aa4a, 0x5b9cca4f, 0x682e6ff3, 0x748f82ee, 0x78a5636f, 0x84c87814, 0x8cc70208, 0x90befffa, 0xa4506ceb, 0xbef9a3f7, 0xc67178f2]
theorem K64_len : K64.length = 64 := rfl
def H0 : S8 := ⟨0x6a09e667, 0xbb67ae85, 0x3c6ef372, 0xa54ff53a, 0x510e527f, 0x9b05688c, 0x1f83d9ab, 0x5be0cd19⟩
/-- word i of a block -/
def wrd (b : List UInt8) (i : Nat) : W32 := ((((b.getD (4 * i) 0).toBitVec.setWidth 32 <<< 24) ||| ((b.getD (4 * i + 1) 0).toBitVec.setWidth 32 <<< 16)) ||| ((b.getD (4 * i + 2) 0).toBitVec.setWidth 32 <<< 8)) ||| (b.getD (4 * i + 3) 0).toBitVec.setWidth 32
/-- the words of a block, one after the other -/
def nextW (l : List W32) : W32 := ((l.getD (l.length - 16) 0 + sg0 (l.getD (l.length - 15) 0)) + l.getD (l.length - 7) 0) + sg1 (l.getD (l.length - 2) 0)
def sch (b : List UInt8) : Nat → List W32
  | 0 => []
  | n + 1 => sch b n ++ [if n < 16 then wrd b n else nextW (sch b n)]
theorem sch_len (b : List UInt8) : ∀ n, (sch b n).length = n
  | 0 => rfl
  | n + 1 => by rw [sch, List.length_append, sch_len b n]; rfl
theorem sch_get (b : List UInt8) : ∀ (n m i : Nat), i < n → n ≤ m → (sch b m).getD i 0 = (sch b n).getD i 0 := by
  intro n m i hi hm
  induction m with
  | zero => omega
  | succ m ih =>
    by_cases e : n = m + 1
    · rw [e]
    · have hlt : i < (sch b m).length := by rw [sch_len]; omega
      rw [← ih (by omega), sch]
      simp [List.getD, List.getElem?_append_left hlt]
theorem sch_last (b : List UInt8) (n : Nat) : (sch b (n + 1)).getD n 0 = if n < 16 then wrd b n else nextW (sch b n) := by
  have h := sch_len b n
  rw [sch]
  simp [List.getD, List.getElem?_append_right (show (sch b n).length ≤ n by omega), h]
/-- word n of the schedule -/
def wat (b : List UInt8) (n : Nat) : W32 := (sch b 64).getD n 0
theorem wat_lo {b : List UInt8} {n : Nat} (h : n < 16) : wat b n = wrd b n := by
  unfold wat
  rw [sch_get b (n + 1) 64 n (by omega) (by omega), sch_last, if_pos h]
theorem wat_hi {b : List UInt8} {n : Nat} (h : 16 ≤ n) (h' : n < 64) : wat b n = ((wat b (n - 16) + sg0 (wat b (n - 15))) + wat b (n - 7)) + sg1 (wat b (n - 2)) := by
  unfold wat
  rw [sch_get b (n + 1) 64 n (by omega) (by omega), sch_last, if_neg (by omega), nextW, sch_len,
    sch_get b n 64 (n - 16) (by omega) (by omega), sch_get b n 64 (n - 15) (by omega) (by omega), sch_get b n 64 (n - 7) (by omega) (by omega), sch_get b n 64 (n - 2) (by omega) (by omega)]
/-- after so many rounds -/
def rnds (b : List UInt8) (s : S8) : Nat → S8
  | 0 => s
  | n + 1 => rnd (K64.getD n 0) (wat b n) (rnds b s n)
def comp (b : List UInt8) (s : S8) : S8 := s.add (rnds b s 64)
/-- the blocks, one after the other -/
def comps (l : List (List UInt8)) (s : S8) : S8 := l.foldl (fun s b => comp b s) s
theorem comps_snoc (l : List (List UInt8)) (b : List UInt8) (s : S8) : comps (l ++ [b]) s = comp b (comps l s) := by
  unfold comps
  rw [List.foldl_append]
  simp only [List.foldl_cons, List.foldl_nil]
/-- the byte i of 8, the highest first -/
def lenB (n i : Nat) : UInt8 := UInt8.ofBitVec ((BitVec.ofNat 64 (8 * n) >>> (8 * (7 - i))).setWidth 8)
def padN (n : Nat) : Nat := 64 * ((n + 72) / 64)
def pad (b : List UInt8) : List UInt8 := b ++ (128 :: List.replicate (padN b.length - b.length - 9) 0) ++ (List.range 8).map (lenB b.length)
theorem padN_ge (n : Nat) : n + 9 ≤ padN n := by unfold padN; omega
theorem pad_len (b : List UInt8) : (pad b).length = padN b.length := by
  have h := padN_ge b.length
  unfold pad
  generalize padN b.length = p at *
  rw [List.length_append, List.length_append, List.length_cons, List.length_replicate, List.length_map, List.length_range]
  omega
/-- ahead of the length -/
def padZ (b : List UInt8) : List UInt8 := b ++ (128 :: List.replicate (padN b.length - b.length - 1) 0)
def blk64 (l : List UInt8) (i : Nat) : List UInt8 := (l.drop (64 * i)).take 64
def blks (l : List UInt8) : List (List UInt8) := (List.range (l.length / 64)).map (blk64 l)
/-- byte i of a state -/
def outB (s : S8) (i : Nat) : UInt8 := UInt8.ofBitVec ((s.l.getD (i / 4) 0 >>> (24 - 8 * (i % 4))).setWidth 8)
def outL (s : S8) : List UInt8 := (List.range 32).map (outB s)
def sha (b : List UInt8) : B32 := ⟨outL (comps (blks (pad b)) H0), by simp [outL]⟩
/-- the length, written byte by byte from the end -/
def padI (b : List UInt8) : Nat → List UInt8
  | 0 => padZ b
  | i + 1 => (padI b i).set (padN b.length - 1 - i) (lenB b.length (7 - i))
theorem padI_len (b : List UInt8) : ∀ i, (padI b i).length = padN b.length
  | 0 => by
    have h := padN_ge b.length
    unfold padI padZ
    generalize padN b.length = p at *
    simp
    omega
  | i + 1 => by rw [padI, List.length_set, padI_len b i]
theorem padI_get (b : List UInt8) : ∀ i, i ≤ 8 → ∀ j, (padI b i)[j]? = if padN b.length - i ≤ j ∧ j < padN b.length then some (lenB b.length (j + 8 - padN b.length)) else (padZ b)[j]?
  | 0, _, j => by
    unfold padI
    rw [if_neg (by omega)]
  | i + 1, hi, j => by
    have hp := padN_ge b.length
    have hl := padI_len b i
    have ih := padI_get b i (by omega) j
    rw [padI, List.getElem?_set, hl]
    generalize padN b.length = p at *
    by_cases e : p - 1 - i = j
    · rw [if_pos e, if_pos (by omega), if_pos (by omega), show 7 - i = j + 8 - p by omega]
    · rw [if_neg e, ih]
      by_cases h : p - i ≤ j ∧ j < p
      · rw [if_pos h, if_pos (by omega)]
      · rw [if_neg h, if_neg (by omega)]
theorem padI_8 (b : List UInt8) : padI b 8 = pad b := by
  apply List.ext_getElem?
  intro j
  rw [padI_get b 8 (Nat.le_refl _) j]
  have hp := padN_ge b.length
  unfold pad padZ
  generalize padN b.length = p at *
  have hl : (b ++ (128 :: List.replicate (p - b.length - 9) 0)).length = p - 8 := by
    rw [List.length_append, List.length_cons, List.length_replicate]; omega
  by_cases h : p - 8 ≤ j ∧ j < p
  · rw [if_pos h, List.getElem?_append_right (by omega), hl, List.getElem?_map, List.getElem?_range (by omega), Option.map_some]
    congr 2
    omega
  · rw [if_neg h]
    by_cases h2 : j < p - 8
    · rw [List.getElem?_append_left (l₁ := b ++ (128 :: List.replicate (p - b.length - 9) 0)) (by omega)]
      by_cases h3 : j < b.length
      · rw [List.getElem?_append_left h3, List.getElem?_append_left h3]
      · rw [List.getElem?_append_right (by omega), List.getElem?_append_right (by omega)]
        cases hj : j - b.length with
        | zero => rfl
        | succ q =>
          rw [List.getElem?_cons_succ, List.getElem?_cons_succ, List.getElem?_replicate, List.getElem?_replicate, if_pos (by omega), if_pos (by omega)]
    · rw [List.getElem?_eq_none (by rw [List.length_append, List.length_cons, List.length_replicate]; omega), List.getElem?_eq_none (by rw [List.length_append, hl, List.length_map, List.length_range]; omega)]
end Go.Proofs.YtjhocljhhpkiiaaGreatDoor
/- U1 -/
namespace Go.Proofs.YtjhocljhhpkiiaaGreatDoor
set_option linter.unusedSimpArgs false
set_option linter.unusedVariables false
open Go.RowKit
section
variable {P : Program} {n : Nat} {D : List Deferred} {E : Env} {L : List Fa} {T T' : TypeId} {x y : Operand} {k : IntKind} {i j : Int} {m : Nat}
theorem r_subU {p q : Nat} [hk : UK k m] (hx : ev E x = some (.int k i)) (hy : ev E y = some (.int k j)) [ha : NatOf i p] [hb : NatOf j q] (h : q ≤ p ∧ p < 2 ^ m) : Runs0 P n D E L (.binOp .sub T x y T') (.int k ((p - q : Nat) : Int)) := fun c w ka s o ho => by
  obtain rfl := ha.eq
  obtain rfl := hb.eq
  refine run_bin ho (ka.ev hx) (ka.ev hy) (by cases k <;> rfl) ?_
  have e : binOp .sub T (.int k (p : Int)) (.int k (q : Int)) = Op.intArith .sub k p q := by simp [binOp]
  rw [e]
  simp only [Op.intArith, hk.wrap]
  rw [Int.emod_eq_of_lt (by omega) (by have h2 := h.2; have : ((p : Nat) : Int) < ((2 ^ m : Nat) : Int) := by exact_mod_cast h2
                                       push_cast at this; omega)]
  rw [Int.ofNat_sub h.1]
  rfl
end
theorem rot_and (n : Nat) (h : 1 ≤ n ∧ n ≤ 31) : (((BitVec.ofInt 64 (-(n : Int))) &&& BitVec.ofNat 64 31).toNat : Int) = ((32 - n : Nat) : Int) := by
  have key : ∀ k : Fin 32, 1 ≤ k.val → ((BitVec.ofInt 64 (-(k.val : Int))) &&& BitVec.ofNat 64 31).toNat = 32 - k.val := by decide +kernel
  have := key ⟨n, by omega⟩ h.1
  simp only at this
  rw [this]
theorem rot_eq (x : W32) (n : Nat) (h : 1 ≤ n ∧ n ≤ 31) : (x <<< (32 - n)) ||| (x >>> (32 - (32 - n))) = rotr x n := by
  rw [show 32 - (32 - n) = n by omega, BitVec.or_comm]; rfl
theorem Rot_s (x : W32) (n : Nat) (h : 1 ≤ n ∧ n ≤ 31) : Spec Tryz.prog 214 [.int .u32 (x.toNat : Int), .int .i64 (-(n : Int))].toArray [] [] (fun _ : Unit => .int .u32 ((rotr x n).toNat : Int)) (fun _ => []) := by
  refine spec_of Tryz.func214 rfl (n := 17) rfl rfl ?_
  intro W
  refine h_seq ?_
  refine h_reg ?_
  refine h_op (r_assign rfl) ?_
  refine h_nil ?_
  refine q_then ?_
  refine h_seq ?_
  refine h_reg ?_
  refine h_op (r_move rfl) ?_
  refine h_op (r_cI rfl) ?_
  refine h_op (r_int (r_and rfl rfl) (rot_and n h)) ?_
  refine h_op (r_assign rfl) ?_
  refine h_nil ?_
  refine q_then ?_
  refine h_seq ?_
  refine h_reg ?_
  refine h_op (r_move rfl) ?_
  refine h_op (r_move rfl) ?_
  refine h_op (r_shl rfl rfl) ?_
  refine h_op (r_move rfl) ?_
  refine h_op (r_move rfl) ?_
  refine h_op (r_subU rfl rfl ⟨by omega, by omega⟩) ?_
  refine h_op (r_shr rfl rfl) ?_
  refine h_op (r_or rfl rfl) ?_
  refine h_op (r_assign rfl) ?_
  refine h_nil ?_
  refine q_then ?_
  refine h_ret ?_
  exact h_ret1 rfl rfl fun w s => ⟨(), by rw [← rot_eq x n h], s.res (List.Sublist.refl _) (by simp)⟩
theorem turn_s (x : W32) (n : Nat) (h : 1 ≤ n ∧ n ≤ 31) : Spec Tryz.prog 138 [.int .u32 (x.toNat : Int), .int .u64 (n : Int)].toArray [] [] (fun _ : Unit => .int .u32 ((rotr x n).toNat : Int)) (fun _ => []) := by
  refine spec_of Tryz.func138 rfl (n := 13) rfl rfl ?_
  intro W
  refine h_seq ?_
  refine h_reg ?_
  refine h_op (r_assign rfl) ?_
  refine h_nil ?_
  refine q_then ?_
  refine h_seq ?_
  refine h_reg ?_
  refine h_op (r_move rfl) ?_
  refine h_op (r_move rfl) ?_
  refine h_op (r_shr rfl rfl) ?_
  refine h_op (r_move rfl) ?_
  refine h_op (r_move rfl) ?_
  refine h_op (r_subU rfl rfl ⟨by omega, by omega⟩) ?_
  refine h_op (r_shl rfl rfl) ?_
  refine h_op (r_or rfl rfl) ?_
  refine h_op (r_assign rfl) ?_
  refine h_nil ?_
  refine q_then ?_
  refine h_ret ?_
  exact h_ret1 rfl rfl fun w s => ⟨(), rfl, s.res (List.Sublist.refl _) (by simp)⟩
theorem right_s (x : W32) (l : List Nat) (hl : ∀ n ∈ l, 1 ≤ n ∧ n ≤ 31) (b o c : Nat) (hn : l.length ≤ 100) : Spec Tryz.prog 184 [.int .u32 (x.toNat : Int), .slice (some ⟨b, o, none⟩) l.length c].toArray [.rd (some ⟨b, o, none⟩) (ic l)] [] (fun _ : Unit => .int .u32 ((xorl x l).toNat : Int)) (fun _ => []) := by
  refine spec_of Tryz.func184 rfl (n := 22) rfl rfl ?_
  intro W
  refine h_seq ?_
  refine h_reg ?_
  refine h_op (r_assign rfl) ?_
  refine h_nil ?_
  refine q_then ?_
  refine h_seq ?_
  refine h_reg ?_
  refine h_op (r_assign rfl) ?_
  refine h_nil ?_
  refine q_then ?_
  refine h_seq ?_
  refine h_seq ?_
  refine h_reg ?_
  refine h_op (r_move rfl) ?_
  refine h_op (r_len rfl) ?_
  refine h_op (r_move rfl) ?_
  refine h_nil ?_
  refine q_then ?_
  refine h_block ?_
  refine h_loop (fun (k : Nat) => k ≤ l.length) (fun (k : Nat) => [(10, .int .i64 (k : Int)), (9, .int .i64 (l.length : Int)), (8, .slice (some ⟨b, o, none⟩) l.length c), (5, .int .u32 ((xorl x (l.take k)).toNat : Int)), (0, .int .u32 (x.toNat : Int))]) (fun (k : Nat) => [.rd (some ⟨b, o, none⟩) (ic l)]) (fun (k : Nat) => l.length - k) 0 (Nat.zero_le _) ⟨rfl, rfl, rfl, rfl, rfl, trivial⟩ (fun _ s => s) ?_
  intro k hk
  refine h_seq ?_
  refine h_reg ?_
  refine h_op (r_lss rfl rfl) ?_
  refine h_nil ?_
  refine q_then ?_
  refine h_seq ?_
  refine h_cond rfl (fun h => ?_) (fun h => ?_)
  · have hb := hl (l.getD k 0) (by rw [List.getD, List.getElem?_eq_getElem (by omega)]; exact List.getElem_mem _)
    refine h_skip ?_
    refine q_then ?_
    refine h_seq ?_
    refine h_block ?_
    refine h_seq ?_
    refine h_reg ?_
    refine h_op (r_idx rfl rfl) ?_
    refine h_op (r_nth rfl (ic_at (by omega))) ?_
    refine h_op (r_assign rfl) ?_
    refine h_nil ?_
    refine q_then ?_
    refine h_reg ?_
    refine h_op (r_move rfl) ?_
    refine h_op (r_move rfl) ?_
    refine h_op (r_move rfl) ?_
    refine h_op (r_neg rfl) ?_
    refine h_call ((Rot_s x (l.getD k 0) hb).comes) rfl rfl rfl fun _ => ?_
    refine h_op (r_xor rfl rfl) ?_
    refine h_op (r_assign rfl) ?_
    refine h_nil ?_
    refine q_block ?_
    refine q_then ?_
    refine h_reg ?_
    refine h_op (r_add rfl rfl) ?_
    refine h_op (r_move rfl) ?_
    refine h_nil ?_
    exact h_back (k + 1) (by omega) (by omega) ⟨rfl, rfl, rfl, by rw [xorl_step x (by omega)]; rfl, rfl, trivial⟩ (same)
  · refine h_exit ?_
    refine q_thenE ?_
    refine q_thenE ?_
    refine q_blockE ?_
    refine q_then ?_
    refine h_seq ?_
    refine h_reg ?_
    refine h_op (r_move rfl) ?_
    refine h_op (r_assign rfl) ?_
    refine h_nil ?_
    refine q_then ?_
    refine h_ret ?_
    obtain rfl : k = l.length := by omega
    exact h_ret1 rfl rfl fun w s => ⟨(), by rw [List.take_length], s.res (List.nil_sublist _) (by simp)⟩
theorem Blocks_s (m : Nat) (h : m ≤ 1000000000000) : Spec Tryz.prog 186 [.int .i64 (m : Int)].toArray [] [] (fun _ : Unit => .int .i64 (((m + 72) / 64 : Nat) : Int)) (fun _ => []) := by
  refine spec_of Tryz.func186 rfl (n := 13) rfl rfl ?_
  intro W
  refine h_seq ?_
  refine h_reg ?_
  refine h_op (r_assign rfl) ?_
  refine h_nil ?_
  refine q_then ?_
  refine h_seq ?_
  refine h_seq ?_
  refine h_reg ?_
  refine h_op (r_move rfl) ?_
  refine h_op (r_bool (r_lss rfl rfl) (decide_eq_false (by omega))) ?_
  refine h_op (r_move rfl) ?_
  refine h_op (r_move rfl) ?_
  refine h_op (r_bool (r_gtr rfl rfl) (decide_eq_false (by omega))) ?_
  refine h_op (r_pick rfl rfl) ?_
  refine h_nil ?_
  refine q_then ?_
  refine h_condF rfl ?_
  refine h_skip ?_
  refine q_then ?_
  refine h_seq ?_
  refine h_reg ?_
  refine h_op (r_move rfl) ?_
  refine h_op (r_add rfl rfl) ?_
  refine h_op (r_add rfl rfl) ?_
  refine h_op (r_int (r_quo rfl rfl) (show _ = (((m + 72) / 64 : Nat) : Int) by omega)) ?_
  refine h_op (r_assign rfl) ?_
  refine h_nil ?_
  refine q_then ?_
  refine h_ret ?_
  exact h_ret1 rfl rfl fun w s => ⟨(), rfl, s.res (List.Sublist.refl _) (by simp)⟩
theorem padZ_eq (l : List UInt8) : (l ++ (List.replicate (padN l.length) (0 : UInt8)).drop l.length).set l.length (UInt8.ofBitVec 128) = padZ l := by
  have h := padN_ge l.length
  unfold padZ
  generalize padN l.length = p at *
  rw [List.set_append_right _ _ (Nat.le_refl _), Nat.sub_self, List.drop_replicate]
  obtain ⟨q, hq⟩ : ∃ q, p - l.length = q + 1 := ⟨p - l.length - 1, by omega⟩
  rw [hq, List.replicate_succ, List.set_cons_zero]
  rfl
theorem lenB_eq (n i : Nat) (h : i ≤ 7) (hn : n ≤ 1000000000000) : UInt8.ofBitVec (((BitVec.ofNat 64 n * 8) >>> (8 * i)).setWidth 8) = lenB n (7 - i) := by
  unfold lenB
  rw [show 7 - (7 - i) = i by omega, show BitVec.ofNat 64 n * 8 = BitVec.ofNat 64 (8 * n) by rw [Nat.mul_comm, BitVec.ofNat_mul]; rfl]
theorem Pad_s (l : List UInt8) (A : Option Addr) (c : Nat) (hA : A = none → l.length = 0 ∧ c = 0) (hn : l.length ≤ 100000000000) : Spec Tryz.prog 133 [.slice A l.length c].toArray [.rd A (bc l)] [] (fun u : Nat × Nat => .slice (some ⟨u.1, 0, none⟩) (pad l).length u.2) (fun u => [.own (.slice (some ⟨u.1, 0, none⟩) (pad l).length u.2) (pad l).length 5 1 (bc (pad l))]) := by
  rw [← padI_8, padI_len]
  have hp : 64 * ((l.length + 72) / 64) = padN l.length := rfl
  have hp2 := padN_ge l.length
  have hp3 : padN l.length ≤ l.length + 72 := by unfold padN; omega
  have hz := padZ_eq l
  have h8 := padI_len l
  have hst : ∀ i, i < 8 → padI l (i + 1) = (padI l i).set (padN l.length - 1 - i) (lenB l.length (7 - i)) := fun i _ => by rw [padI]
  have h0 : padI l 0 = padZ l := rfl
  generalize padN l.length = p at *
  obtain ⟨q, hq⟩ : ∃ q, q = l ++ List.drop l.length (List.replicate p 0) := ⟨_, rfl⟩
  have hql : q.length = p := by rw [hq, List.length_append, List.length_drop, List.length_replicate]; omega
  rw [← hq] at hz
  refine spec_of Tryz.func133 rfl (n := 39) rfl rfl ?_
  intro W
  refine h_seq ?_
  refine h_reg ?_
  refine h_op (r_assign rfl) ?_
  refine h_nil ?_
  refine q_then ?_
  refine h_seq ?_
  refine h_reg ?_
  refine h_op (r_move rfl) ?_
  refine h_op (r_len rfl) ?_
  refine h_call ((Blocks_s l.length (by omega)).comes) rfl rfl rfl fun _ => ?_
  refine h_op (r_int (r_mul rfl rfl) (show _ = (p : Int) by omega)) ?_
  refine h_opX (x_makeB rfl rfl) fun g10 => ?_
  refine h_op (r_assign rfl) ?_
  refine h_nil ?_
  refine q_then ?_
  refine h_seq ?_
  refine h_reg ?_
  refine h_op (r_move rfl) ?_
  refine h_op (r_move rfl) ?_
  refine h_opX (x_copyB rfl rfl (fun e => (hA e).1) rfl) fun _ => ?_
  refine h_nil ?_
  refine q_then ?_
  refine h_seq ?_
  refine h_reg ?_
  refine h_op (r_move rfl) ?_
  refine h_op (r_move rfl) ?_
  refine h_op (r_len rfl) ?_
  rw [← hq]
  refine h_op (r_idx rfl rfl) ?_
  refine h_opS (s_setBO rfl rfl) ?_
  refine h_nil ?_
  refine q_then ?_
  refine h_seq ?_
  refine h_reg ?_
  refine h_op (r_move rfl) ?_
  refine h_op (r_len rfl) ?_
  refine h_op (r_cNW rfl) ?_
  refine h_op (r_mulW rfl rfl) ?_
  refine h_op (r_assign rfl) ?_
  refine h_nil ?_
  refine q_then ?_
  refine h_seq ?_
  refine h_seq ?_
  refine h_reg ?_
  refine h_op (r_move rfl) ?_
  refine h_nil ?_
  refine q_then ?_
  refine h_block ?_
  rw [hz]
  refine h_loop (fun (i : Nat) => i ≤ 8) (fun (i : Nat) => [(22, .int .i64 (i : Int)), (3, .slice (some ⟨g10, 0, none⟩) p p), (4, .int .u64 ((BitVec.ofNat 64 l.length * 8).toNat : Int))]) (fun (i : Nat) => [.own (.slice (some ⟨g10, 0, none⟩) p p) p 5 1 (bc (padI l i))]) (fun (i : Nat) => 8 - i) 0 (by omega) ⟨rfl, rfl, rfl, trivial⟩ (by rw [h0]; exact same) ?_
  intro i hi
  have hl := h8 i
  refine h_seq ?_
  refine h_reg ?_
  refine h_op (r_lss rfl rfl) ?_
  refine h_nil ?_
  refine q_then ?_
  refine h_seq ?_
  refine h_cond rfl (fun h => ?_) (fun h => ?_)
  · refine h_skip ?_
    refine q_then ?_
    refine h_seq ?_
    refine h_block ?_
    refine h_seq ?_
    refine h_reg ?_
    refine h_op (r_move rfl) ?_
    refine h_op (r_assign rfl) ?_
    refine h_nil ?_
    refine q_then ?_
    refine h_reg ?_
    refine h_op (r_move rfl) ?_
    refine h_op (r_move rfl) ?_
    refine h_op (r_len rfl) ?_
    refine h_op (r_subN rfl rfl) ?_
    refine h_op (r_move rfl) ?_
    refine h_op (r_subN rfl rfl) ?_
    refine h_op (r_move rfl) ?_
    refine h_op (r_move rfl) ?_
    refine h_op (r_mul rfl rfl) ?_
    refine h_op (r_shr rfl rfl) ?_
    refine h_op (r_cW rfl) ?_
    refine h_op (r_idx rfl rfl) ?_
    refine h_opS (s_setBO rfl rfl) ?_
    refine h_nil ?_
    refine q_block ?_
    refine q_then ?_
    rw [lenB_eq l.length i (by omega) (by omega), ← hst i (by omega)]
    refine h_reg ?_
    refine h_op (r_add rfl rfl) ?_
    refine h_op (r_move rfl) ?_
    refine h_nil ?_
    exact h_back (i + 1) (by omega) (by omega) ⟨rfl, rfl, rfl, trivial⟩ (same)
  · refine h_exit ?_
    refine q_thenE ?_
    refine q_thenE ?_
    refine q_blockE ?_
    refine q_then ?_
    refine h_seq ?_
    refine h_reg ?_
    refine h_op (r_move rfl) ?_
    refine h_op (r_assign rfl) ?_
    refine h_nil ?_
    refine q_then ?_
    refine h_ret ?_
    obtain rfl : i = 8 := by omega
    exact h_ret1 rfl rfl fun w s => ⟨(g10, p), rfl, s.res (List.Sublist.refl _) (by simp [Fa.wr])⟩
end Go.Proofs.YtjhocljhhpkiiaaGreatDoor
/- U2 -/
namespace Go.Proofs.YtjhocljhhpkiiaaGreatDoor
set_option linter.unusedSimpArgs false
set_option linter.unusedVariables false
open Go.RowKit
def idxd : Nat → List Value → List (Nat × Value)
  | _, [] => []
  | k, v :: l => (k, v) :: idxd (k + 1) l
theorem parts_idxd : ∀ (l : List Value) (k : Nat), (∀ v ∈ l, v.oneCell' = true) → Parts 1 k (idxd k l) l
  | [], k, _ => inferInstanceAs (Parts 1 k [] [])
  | v :: l, k, h => by
    have h1 : v.oneCell' = true := h v (by simp)
    have hv : VCells v [v] := ⟨by cases v <;> first | rfl | simp [Value.oneCell'] at h1⟩
    exact Parts.cons hv (row_one h1) (parts_idxd l (k + 1) fun u hu => h u (by simp [hu]))
theorem wc_one {m : Nat} (k : IntKind) (l : List (BitVec m)) : ∀ v ∈ wc k l, v.oneCell' = true := by
  intro v hv
  obtain ⟨x, _, rfl⟩ := List.mem_map.1 hv
  rfl
instance rowK64 : Row (wc .u32 K64) 64 := ⟨rfl, wc_one _ _⟩
theorem primes_parts : Parts 1 0 (idxd 0 (wc .u32 K64)) (wc .u32 K64) := parts_idxd _ 0 (wc_one _ _)
theorem primes_s : Spec Tryz.prog 135 ([] : List Value).toArray [] [] (fun g : Nat => .slice (some ⟨g, 0, none⟩) 64 64) (fun g => [.own (.slice (some ⟨g, 0, none⟩) 64 64) 64 204 1 (wc .u32 K64)]) := by
  refine spec_of Tryz.func135 rfl (n := 2) rfl rfl ?_
  intro W
  refine h_seq ?_
  refine h_reg ?_
  refine h_op (r_assign rfl) ?_
  refine h_nil ?_
  refine q_then ?_
  refine h_seq ?_
  refine h_reg ?_
  refine h_opX (x_bsl (ps := idxd 0 (wc .u32 K64)) rfl rfl (hf := primes_parts) (ho := rowK64)) fun g1 => ?_
  refine h_op (r_assign rfl) ?_
  refine h_nil ?_
  refine q_then ?_
  refine h_ret ?_
  exact h_ret1 rfl rfl fun w s => ⟨g1, rfl, s.res (List.Sublist.refl _) (by simp [Fa.wr])⟩
def padR (l : List UInt8) (k : Nat) : List UInt8 := (l ++ [128]) ++ List.replicate k 0
theorem padR_step (l : List UInt8) (k : Nat) : padR l k ++ [UInt8.ofBitVec 0] = padR l (k + 1) := by
  unfold padR
  rw [List.replicate_succ', List.append_assoc]
  rfl
def padJ (l : List UInt8) (j : Nat) : List UInt8 := padR l (padN l.length - l.length - 9) ++ (List.range j).map (lenB l.length)
theorem padJ_step (l : List UInt8) (j : Nat) : padJ l j ++ [lenB l.length j] = padJ l (j + 1) := by
  unfold padJ
  rw [List.range_succ, List.map_append, List.append_assoc]
  rfl
theorem padJ_8 (l : List UInt8) : padJ l 8 = pad l := by
  unfold padJ padR pad
  simp only [List.append_assoc, List.cons_append, List.nil_append]
theorem lenB_eq2 (n j : Nat) (h : j ≤ 7) (hn : n ≤ 1000000000000) : UInt8.ofBitVec (((BitVec.ofNat 64 n * 8) >>> (56 - 8 * j)).setWidth 8) = lenB n j := by
  have := lenB_eq n (7 - j) (by omega) hn
  rwa [show 8 * (7 - j) = 56 - 8 * j by omega, show 7 - (7 - j) = j by omega] at this
theorem refPad_s (l : List UInt8) (A : Option Addr) (c : Nat) (hA : A = none → l.length = 0 ∧ c = 0) (hn : l.length ≤ 100000000000) : Spec Tryz.prog 136 [.slice A l.length c].toArray [.rd A (bc l)] [] (fun u : Nat × Nat => .slice (some ⟨u.1, 0, none⟩) (pad l).length u.2) (fun u => [.own (.slice (some ⟨u.1, 0, none⟩) (pad l).length u.2) (pad l).length 5 1 (bc (pad l))]) := by
  rw [pad_len]
  have hp : 64 * ((l.length + 72) / 64) = padN l.length := rfl
  have hp2 := padN_ge l.length
  have hj0 : ∀ k, k = padN l.length - l.length - 9 → padR l k = padJ l 0 := fun k hk => by unfold padJ; rw [hk]; simp
  generalize padN l.length = p at *
  refine spec_of Tryz.func136 rfl (n := 36) rfl rfl ?_
  intro W
  refine h_seq ?_
  refine h_reg ?_
  refine h_op (r_assign rfl) ?_
  refine h_nil ?_
  refine q_then ?_
  refine h_seq ?_
  refine h_reg ?_
  refine h_opX (x_bsl0 (xs := bc [])) fun g6 => ?_
  refine h_op (r_move rfl) ?_
  refine h_opX (x_appAB rfl rfl hA rfl) fun ⟨A8, c8⟩ => ?_
  refine h_op (r_assign rfl) ?_
  refine h_nil ?_
  refine q_then ?_
  refine h_seq ?_
  refine h_reg ?_
  refine h_op (r_move rfl) ?_
  refine h_opX (x_bsl rfl rfl) fun g10 => ?_
  refine h_opX (x_app1B rfl rfl) fun ⟨g11, c11⟩ => ?_
  refine h_op (r_assign rfl) ?_
  refine h_nil ?_
  refine q_then ?_
  refine h_seq ?_
  refine h_block ?_
  rw [show ([] ++ l) ++ [UInt8.ofBitVec 128] = padR l 0 by simp [padR]]
  refine h_loop (fun (s : Nat × Nat × Nat) => l.length + 1 + s.1 ≤ p - 8) (fun (s : Nat × Nat × Nat) => [(3, .slice (some ⟨s.2.1, 0, none⟩) (l.length + 1 + s.1) s.2.2), (0, .slice A l.length c)]) (fun (s : Nat × Nat × Nat) => [.own (.slice (some ⟨s.2.1, 0, none⟩) (l.length + 1 + s.1) s.2.2) (l.length + 1 + s.1) 5 1 (bc (padR l s.1))]) (fun (s : Nat × Nat × Nat) => p - s.1) (0, g11, c11) ((show l.length + 1 + 0 ≤ p - 8 by omega)) ⟨rfl, rfl, trivial⟩ (same) ?_
  rintro ⟨k, g, cp⟩ hk
  simp only at hk
  refine h_seq ?_
  refine h_seq ?_
  refine h_reg ?_
  refine h_op (r_move rfl) ?_
  refine h_op (r_len rfl) ?_
  refine h_op (r_rem rfl rfl) ?_
  refine h_op (r_neq rfl rfl) ?_
  refine h_nil ?_
  refine q_then ?_
  refine h_cond rfl (fun h => ?_) (fun h => ?_)
  · have hlt : l.length + 1 + k < p - 8 := by omega
    refine h_skip ?_
    refine q_then ?_
    refine h_block ?_
    refine h_reg ?_
    refine h_op (r_move rfl) ?_
    refine h_opX (x_bsl rfl rfl) fun g17 => ?_
    refine h_opX (x_app1B rfl rfl) fun ⟨g18, c18⟩ => ?_
    refine h_op (r_assign rfl) ?_
    refine h_nil ?_
    refine q_block ?_
    rw [padR_step]
    exact h_back (k + 1, g18, c18) ((show l.length + 1 + (k + 1) ≤ p - 8 by omega)) ((show p - (k + 1) < p - k by omega)) ⟨rfl, rfl, trivial⟩ (same)
  · have hk2 : k = p - l.length - 9 := by omega
    rw [hj0 k hk2]
    have hN : l.length + 1 + k = p - 8 := by omega
    rw [hN]
    refine h_exit ?_
    refine q_thenE ?_
    refine q_thenE ?_
    refine q_blockE ?_
    refine q_then ?_
    refine h_seq ?_
    refine h_reg ?_
    refine h_op (r_move rfl) ?_
    refine h_op (r_len rfl) ?_
    refine h_op (r_cNW rfl) ?_
    refine h_op (r_mulW rfl rfl) ?_
    refine h_op (r_assign rfl) ?_
    refine h_nil ?_
    refine q_then ?_
    refine h_seq ?_
    refine h_seq ?_
    refine h_reg ?_
    refine h_op (r_assign rfl) ?_
    refine h_nil ?_
    refine q_then ?_
    refine h_block ?_
    refine h_loop (fun (s : Nat × Nat × Nat) => s.1 ≤ 8) (fun (s : Nat × Nat × Nat) => [(3, .slice (some ⟨s.2.1, 0, none⟩) (p - 8 + s.1) s.2.2), (4, .int .u64 ((BitVec.ofNat 64 l.length * 8).toNat : Int)), (5, .int .i64 (56 - 8 * (s.1 : Int)))]) (fun (s : Nat × Nat × Nat) => [.own (.slice (some ⟨s.2.1, 0, none⟩) (p - 8 + s.1) s.2.2) (p - 8 + s.1) 5 1 (bc (padJ l s.1))]) (fun (s : Nat × Nat × Nat) => 8 - s.1) (0, g, cp) ((show 0 ≤ 8 by omega)) ⟨rfl, rfl, rfl, trivial⟩ (same) ?_
    rintro ⟨j, g, cp⟩ hj
    simp only at hj
    refine h_seq ?_
    refine h_seq ?_
    refine h_reg ?_
    refine h_op (r_move rfl) ?_
    refine h_op (r_geq rfl rfl) ?_
    refine h_nil ?_
    refine q_then ?_
    refine h_cond rfl (fun h => ?_) (fun h => ?_)
    · refine h_skip ?_
      refine q_then ?_
      refine h_seq ?_
      refine h_block ?_
      refine h_reg ?_
      refine h_op (r_move rfl) ?_
      refine h_op (r_move rfl) ?_
      refine h_op (r_move rfl) ?_
      refine h_op (r_cP (q := 56 - 8 * j) rfl (by omega) (by omega)) ?_
      refine h_op (r_shr rfl rfl) ?_
      refine h_op (r_cW rfl) ?_
      refine h_opX (x_bsl rfl rfl) fun g33 => ?_
      refine h_opX (x_app1B rfl rfl) fun ⟨g34, c34⟩ => ?_
      refine h_op (r_assign rfl) ?_
      refine h_nil ?_
      refine q_block ?_
      refine q_then ?_
      refine h_reg ?_
      refine h_op (r_move rfl) ?_
      refine h_op (r_sub rfl rfl) ?_
      refine h_op (r_assign rfl) ?_
      refine h_nil ?_
      rw [lenB_eq2 l.length j (by omega) (by omega), padJ_step]
      exact h_back (j + 1, g34, c34) ((show j + 1 ≤ 8 by omega)) ((show 8 - (j + 1) < 8 - j by omega)) ⟨rfl, rfl, aI rfl (by omega), trivial⟩ (same)
    · obtain rfl : j = 8 := by omega
      rw [padJ_8, show p - 8 + 8 = p by omega]
      refine h_exit ?_
      refine q_thenE ?_
      refine q_thenE ?_
      refine q_blockE ?_
      refine q_then ?_
      refine h_seq ?_
      refine h_reg ?_
      refine h_op (r_move rfl) ?_
      refine h_op (r_assign rfl) ?_
      refine h_nil ?_
      refine q_then ?_
      refine h_ret ?_
      exact h_ret1 rfl rfl fun w s => ⟨(g, cp), rfl, s.res (List.Sublist.refl _) (by simp [Fa.wr])⟩
end Go.Proofs.YtjhocljhhpkiiaaGreatDoor
/- U3 -/
namespace Go.Proofs.YtjhocljhhpkiiaaGreatDoor
set_option linter.unusedSimpArgs false
set_option linter.unusedVariables false
open Go.RowKit
theorem Sx.ownSome {A : List Fa} {W w : World} {L M : List Fa} {B : Option Addr} {N c e size : Nat} {xs : List Value} (s : Sx A W w L) [hd : TakeO (.slice B N c) L N e size xs M] (h : 0 < N) : ∃ g, B = some ⟨g, 0, none⟩ := by
  have ho : w.ownsRow 0 e size (.slice B N c) N xs := (s.perm hd.perm).ok (.own _ _ _ _ _) (List.mem_cons_self ..)
  rcases ho.2 with ⟨_, rfl⟩ | ⟨g, cap, cur, e1, _⟩
  · omega
  · injection e1 with e1 _ _
    exact ⟨g, e1⟩
theorem sch_lo (l : List UInt8) (k : Nat) (h : k < 16) : sch l (k + 1) = sch l k ++ [wrd l k] := by rw [sch, if_pos h]
theorem sch_hi (l : List UInt8) (k : Nat) (h : 16 ≤ k) : sch l (k + 1) = sch l k ++ [(((sch l k).getD (k - 16) 0 + sg0 ((sch l k).getD (k - 15) 0)) + (sch l k).getD (k - 7) 0) + sg1 ((sch l k).getD (k - 2) 0)] := by
  rw [sch, if_neg (by omega), nextW, sch_len]
theorem schedule_s (l : List UInt8) (b o c : Nat) (hl : l.length = 64) : Spec Tryz.prog 137 [.slice (some ⟨b, o, none⟩) 64 c].toArray [.rd (some ⟨b, o, none⟩) (bc l)] [] (fun u : Nat × Nat => .slice (some ⟨u.1, 0, none⟩) 64 u.2) (fun u => [.own (.slice (some ⟨u.1, 0, none⟩) 64 u.2) 64 204 1 (wc .u32 (sch l 64))]) := by
  refine spec_of Tryz.func137 rfl (n := 95) rfl rfl ?_
  intro W
  refine h_seq ?_
  refine h_reg ?_
  refine h_op (r_assign rfl) ?_
  refine h_nil ?_
  refine q_then ?_
  refine h_seq ?_
  refine h_reg ?_
  refine h_op (r_assign rfl) ?_
  refine h_nil ?_
  refine q_then ?_
  refine h_seq ?_
  refine h_seq ?_
  refine h_reg ?_
  refine h_op (r_assign rfl) ?_
  refine h_nil ?_
  refine q_then ?_
  refine h_block ?_
  refine h_nil_own 204 1 (xs := wc .u32 (sch l 0)) rfl ?_
  refine h_loop (fun (s : Nat × Option Addr × Nat) => s.1 ≤ 16) (fun (s : Nat × Option Addr × Nat) => [(4, .int .i64 (s.1 : Int)), (3, .slice s.2.1 s.1 s.2.2), (0, .slice (some ⟨b, o, none⟩) 64 c)]) (fun (s : Nat × Option Addr × Nat) => [.own (.slice s.2.1 s.1 s.2.2) s.1 204 1 (wc .u32 (sch l s.1)), .rd (some ⟨b, o, none⟩) (bc l)]) (fun (s : Nat × Option Addr × Nat) => 16 - s.1) (0, none, 0) ((show 0 ≤ 16 by omega)) ⟨rfl, rfl, rfl, trivial⟩ (same) ?_
  rintro ⟨k, B, cp⟩ hk
  dsimp only at hk ⊢
  refine h_seq ?_
  refine h_seq ?_
  refine h_reg ?_
  refine h_op (r_move rfl) ?_
  refine h_op (r_lss rfl rfl) ?_
  refine h_nil ?_
  refine q_then ?_
  refine h_cond rfl (fun h => ?_) (fun h => ?_)
  · have hst := sch_lo l k (by omega)
    unfold wrd at hst
    refine h_skip ?_
    refine q_then ?_
    refine h_seq ?_
    refine h_block ?_
    refine ha_start [.rd (some ⟨b, o, none⟩) (bc l)] [] mixed (same) ?_
    refine ha_takeP 0 rfl (r_move rfl) ?_
    refine ha_takeP 1 rfl (r_move rfl) ?_
    refine ha_takeP 2 rfl (r_move rfl) ?_
    refine ha_takeP 3 rfl (r_mul rfl rfl) ?_
    refine ha_takeP 4 rfl (r_idx rfl rfl) ?_
    refine ha_take 5 rfl (r_nth rfl (bc_at' (by omega))) ?_
    refine ha_takeP 6 rfl (r_cW rfl) ?_
    refine ha_takeP 7 rfl (r_shl rfl rfl) ?_
    refine ha_takeP 8 rfl (r_move rfl) ?_
    refine ha_takeP 9 rfl (r_move rfl) ?_
    refine ha_takeP 10 rfl (r_mul rfl rfl) ?_
    refine ha_takeP 11 rfl (r_add rfl rfl) ?_
    refine ha_takeP 12 rfl (r_idx rfl rfl) ?_
    refine ha_take 13 rfl (r_nth rfl (bc_at' (by omega))) ?_
    refine ha_takeP 14 rfl (r_cW rfl) ?_
    refine ha_takeP 15 rfl (r_shl rfl rfl) ?_
    refine ha_takeP 16 rfl (r_or rfl rfl) ?_
    refine ha_takeP 17 rfl (r_move rfl) ?_
    refine ha_takeP 18 rfl (r_move rfl) ?_
    refine ha_takeP 19 rfl (r_mul rfl rfl) ?_
    refine ha_takeP 20 rfl (r_add rfl rfl) ?_
    refine ha_takeP 21 rfl (r_idx rfl rfl) ?_
    refine ha_take 22 rfl (r_nth rfl (bc_at' (by omega))) ?_
    refine ha_takeP 23 rfl (r_cW rfl) ?_
    refine ha_takeP 24 rfl (r_shl rfl rfl) ?_
    refine ha_takeP 25 rfl (r_or rfl rfl) ?_
    refine ha_takeP 26 rfl (r_move rfl) ?_
    refine ha_takeP 27 rfl (r_move rfl) ?_
    refine ha_takeP 28 rfl (r_mul rfl rfl) ?_
    refine ha_takeP 29 rfl (r_add rfl rfl) ?_
    refine ha_takeP 30 rfl (r_idx rfl rfl) ?_
    refine ha_take 31 rfl (r_nth rfl (bc_at' (by omega))) ?_
    refine ha_takeP 32 rfl (r_cW rfl) ?_
    refine ha_takeP 33 rfl (r_or rfl rfl) ?_
    refine ha_one 34 ?_
    refine ho_X 34 rfl (rk (x_bsl rfl rfl)) (fun _ => same) fun g46 => ?_
    refine ha_one 35 ?_
    refine ho_X 35 rfl (rk (x_app1W rfl rfl)) (fun _ => same) fun ⟨g47, c47⟩ => ?_
    refine ha_takeP 36 rfl (r_assign rfl) ?_
    refine ha_done (by kernel_rfl) ?_
    refine q_block ?_
    refine q_then ?_
    rw [← hst]
    refine h_reg ?_
    refine h_op (r_move rfl) ?_
    refine h_op (r_add rfl rfl) ?_
    refine h_op (r_assign rfl) ?_
    refine h_nil ?_
    exact h_back (k + 1, some ⟨g47, 0, none⟩, c47) ((show k + 1 ≤ 16 by omega)) ((show 16 - (k + 1) < 16 - k by omega)) ⟨rfl, rfl, rfl, trivial⟩ (same)
  · obtain rfl : k = 16 := by omega
    refine h_pure (φ := ∃ g, B = some ⟨g, 0, none⟩) (fun w s => s.ownSome (N := 16) (c := cp) (by decide)) ?_
    rintro ⟨g, rfl⟩
    refine h_exit ?_
    refine q_thenE ?_
    refine q_thenE ?_
    refine q_blockE ?_
    refine q_then ?_
    refine h_seq ?_
    refine h_seq ?_
    refine h_reg ?_
    refine h_op (r_assign rfl) ?_
    refine h_nil ?_
    refine q_then ?_
    refine h_block ?_
    refine h_loop (fun (s : Nat × Nat × Nat) => 16 ≤ s.1 ∧ s.1 ≤ 64) (fun (s : Nat × Nat × Nat) => [(5, .int .i64 (s.1 : Int)), (3, .slice (some ⟨s.2.1, 0, none⟩) s.1 s.2.2)]) (fun (s : Nat × Nat × Nat) => [.own (.slice (some ⟨s.2.1, 0, none⟩) s.1 s.2.2) s.1 204 1 (wc .u32 (sch l s.1))]) (fun (s : Nat × Nat × Nat) => 64 - s.1) (16, g, cp) ((show 16 ≤ 16 ∧ 16 ≤ 64 by omega)) ⟨rfl, rfl, trivial⟩ (same) ?_
    rintro ⟨k, g, cp⟩ hk
    dsimp only at hk ⊢
    refine h_seq ?_
    refine h_seq ?_
    refine h_reg ?_
    refine h_op (r_move rfl) ?_
    refine h_op (r_lss rfl rfl) ?_
    refine h_nil ?_
    refine q_then ?_
    refine h_cond rfl (fun h => ?_) (fun h => ?_)
    · have hst := sch_hi l k (by omega)
      unfold sg0 sg1 at hst
      have hsl := sch_len l k
      refine h_skip ?_
      refine q_then ?_
      refine h_seq ?_
      refine h_block ?_
      refine h_seq ?_
      refine h_reg ?_
      refine h_op (r_move rfl) ?_
      refine h_op (r_move rfl) ?_
      refine h_op (r_subN rfl rfl) ?_
      refine h_op (r_idx rfl rfl) ?_
      refine h_op (r_nth rfl (wc_at (by omega))) ?_
      refine h_op (r_assign rfl) ?_
      refine h_nil ?_
      refine q_then ?_
      refine h_seq ?_
      refine h_reg ?_
      refine h_op (r_move rfl) ?_
      refine h_op (r_move rfl) ?_
      refine h_op (r_subN rfl rfl) ?_
      refine h_op (r_idx rfl rfl) ?_
      refine h_op (r_nth rfl (wc_at (by omega))) ?_
      refine h_op (r_assign rfl) ?_
      refine h_nil ?_
      refine q_then ?_
      refine ha_start [] [.rd (some ⟨g, 0, none⟩) (wc .u32 (sch l k))] mixed (same) ?_
      refine ha_takeP 0 rfl (r_move rfl) ?_
      refine ha_takeP 1 rfl (r_move rfl) ?_
      refine ha_takeP 2 rfl (r_move rfl) ?_
      refine ha_takeP 3 rfl (r_subN rfl rfl) ?_
      refine ha_takeP 4 rfl (r_idx rfl rfl) ?_
      refine ha_takeR 5 rfl (r_nth rfl (wc_at (by omega))) ?_
      refine ha_takeP 6 rfl (r_move rfl) ?_
      refine ha_takeP 8 rfl (r_move rfl) ?_
      refine ha_takeP 11 rfl (r_move rfl) ?_
      refine ha_takeP 12 rfl (r_shr rfl rfl) ?_
      refine ha_takeP 15 rfl (r_move rfl) ?_
      refine ha_takeP 16 rfl (r_move rfl) ?_
      refine ha_takeP 17 rfl (r_subN rfl rfl) ?_
      refine ha_takeP 18 rfl (r_idx rfl rfl) ?_
      refine ha_takeR 19 rfl (r_nth rfl (wc_at (by omega))) ?_
      refine ha_takeP 21 rfl (r_move rfl) ?_
      refine ha_takeP 23 rfl (r_move rfl) ?_
      refine ha_takeP 26 rfl (r_move rfl) ?_
      refine ha_takeP 27 rfl (r_shr rfl rfl) ?_
      refine ha_one 7 ?_
      refine ho_C 7 rfl ((turn_s _ 7 (by decide)).comes) rfl rfl rfl (fun xx => same) fun _ => ?_
      refine ha_one 9 ?_
      refine ho_C 9 rfl ((turn_s _ 18 (by decide)).comes) rfl rfl rfl (fun xx => same) fun _ => ?_
      refine ha_takeP 10 rfl (r_xor rfl rfl) ?_
      refine ha_takeP 13 rfl (r_xor rfl rfl) ?_
      refine ha_takeP 14 rfl (r_addW rfl rfl) ?_
      refine ha_takeP 20 rfl (r_addW rfl rfl) ?_
      refine ha_one 22 ?_
      refine ho_C 22 rfl ((turn_s _ 17 (by decide)).comes) rfl rfl rfl (fun xx => same) fun _ => ?_
      refine ha_one 24 ?_
      refine ho_C 24 rfl ((turn_s _ 19 (by decide)).comes) rfl rfl rfl (fun xx => same) fun _ => ?_
      refine ha_takeP 25 rfl (r_xor rfl rfl) ?_
      refine ha_takeP 28 rfl (r_xor rfl rfl) ?_
      refine ha_takeP 29 rfl (r_addW rfl rfl) ?_
      refine ha_one 30 ?_
      refine ho_X 30 rfl (rk (x_bsl rfl rfl)) (fun _ => same) fun g92 => ?_
      refine ha_one 31 ?_
      refine ho_X 31 rfl (k_app1W rfl rfl) (fun _ => same) fun ⟨g93, c93⟩ => ?_
      refine ha_takeP 32 rfl (r_assign rfl) ?_
      refine ha_done (by kernel_rfl) ?_
      refine q_block ?_
      refine q_then ?_
      rw [← hst]
      refine h_reg ?_
      refine h_op (r_move rfl) ?_
      refine h_op (r_add rfl rfl) ?_
      refine h_op (r_assign rfl) ?_
      refine h_nil ?_
      exact h_back (k + 1, g93, c93) ((show 16 ≤ k + 1 ∧ k + 1 ≤ 64 by omega)) ((show 64 - (k + 1) < 64 - k by omega)) ⟨rfl, rfl, trivial⟩ (same)
    · obtain rfl : k = 64 := by omega
      refine h_exit ?_
      refine q_thenE ?_
      refine q_thenE ?_
      refine q_blockE ?_
      refine q_then ?_
      refine h_seq ?_
      refine h_reg ?_
      refine h_op (r_move rfl) ?_
      refine h_op (r_assign rfl) ?_
      refine h_nil ?_
      refine q_then ?_
      refine h_ret ?_
      exact h_ret1 rfl rfl fun w s => ⟨(g, cp), rfl, s.res (List.Sublist.refl _) (by simp [Fa.wr])⟩
end Go.Proofs.YtjhocljhhpkiiaaGreatDoor
/- U4 -/
namespace Go.Proofs.YtjhocljhhpkiiaaGreatDoor
set_option linter.unusedSimpArgs false
set_option linter.unusedVariables false
open Go.RowKit
theorem fill_set {α : Type} (f : Nat → α) (z : α) (n i : Nat) (h : i < n) : ((List.range i).map f ++ List.replicate (n - i) z).set i (f i) = (List.range (i + 1)).map f ++ List.replicate (n - (i + 1)) z := by
  obtain ⟨q, hq⟩ : ∃ q, n - i = q + 1 := ⟨n - i - 1, by omega⟩
  rw [List.set_append_right _ _ (by simp), hq, show n - (i + 1) = q by omega, List.replicate_succ, List.range_succ, List.map_append]
  simp
theorem fill_len {α : Type} (f : Nat → α) (z : α) (n i : Nat) (h : i ≤ n) : ((List.range i).map f ++ List.replicate (n - i) z).length = n := by simp; omega
theorem fill_end {α : Type} (f : Nat → α) (z : α) (n : Nat) : (List.range n).map f ++ List.replicate (n - n) z = (List.range n).map f := by simp
theorem Sx.ownRd {A : List Fa} {W w : World} {L M : List Fa} {B : Option Addr} {N c e size : Nat} {xs : List Value} (s : Sx A W w L) [hd : TakeO (.slice B N c) L N e size xs M] : Sx A W w (.rd B xs :: M) := by
  have s2 := s.perm hd.perm
  have ho : w.ownsRow 0 e size (.slice B N c) N xs := s2.ok (.own _ _ _ _ _) (List.mem_cons_self ..)
  refine s2.tail.cons (own_rd' ho) (fun g hg hw k h1 h2 => ?_) (fun h => by cases h)
  obtain ⟨_, o, rfl⟩ := h1
  exact (List.pairwise_cons.1 s2.sep).1 g hg rfl k rfl h2
theorem rd1_cut {L : List Fa} {b o o' off : Nat} {cs out : List Value} [h : Rd1 L (.rd (some ⟨b, o, none⟩) cs)] (ho : o' = o + off) (hr : ∀ j v, out[j]? = some v → cs[off + j]? = some v) : Rd1 L (.rd (some ⟨b, o', none⟩) out) := ⟨fun hw => by
  obtain ⟨_, h1, h2⟩ := h.ok hw
  subst ho
  refine ⟨rfl, fun j v hv => ⟨b, o + off, rfl, by rw [Nat.add_assoc]; exact Rd.range h1 _ v (hr j v hv)⟩, fun k hk => h2 k ?_⟩
  obtain rfl := rd_foot (A := none) hk
  refine ⟨fun hc => ?_, o, rfl⟩
  obtain ⟨hne, _⟩ := hk
  cases out with
  | nil => exact hne rfl
  | cons x out => have := hr 0 x rfl; rw [hc] at this; simp at this⟩
theorem bc_cut (l : List UInt8) (a m : Nat) : ∀ j v, (bc ((l.drop a).take m))[j]? = some v → (bc l)[a + j]? = some v := fun j v hv => by
  rw [bc_take, bc_drop, List.getElem?_take] at hv
  split at hv
  · rwa [List.getElem?_drop] at hv
  · cases hv
/-- the cells of a state -/
abbrev S8.cs (s : S8) : List Value := [.int .u32 (s.a.toNat : Int), .int .u32 (s.b.toNat : Int), .int .u32 (s.c.toNat : Int), .int .u32 (s.d.toNat : Int), .int .u32 (s.e.toNat : Int), .int .u32 (s.f.toNat : Int), .int .u32 (s.g.toNat : Int), .int .u32 (s.h.toNat : Int)]
theorem S8.cs_eq (s : S8) : s.cs = wc .u32 s.l := rfl
theorem S8.cs_at (s : S8) {i : Nat} (h : i < 8) : s.cs[i]? = some (.int .u32 ((s.l.getD i 0).toNat : Int)) := wc_at (l := s.l) h
instance rowOutL (s : S8) : Row (bc (outL s)) 32 := ⟨by rw [bc_length]; simp [outL], bc_one _⟩
instance rowS8 (s : S8) : Row (wc .u32 s.l) 8 := ⟨rfl, wc_one _ _⟩
instance (s : S8) (a b c d e f g h : Value) : SetAt [a, b, c, d, e, f, g, h] 0 (wc .u32 s.l) (wc .u32 s.l) := .whole rfl
/-- some words added -/
def addI (s t : S8) (i : Nat) : List W32 := (List.range 8).map fun j => if j < i then s.l.getD j 0 + t.l.getD j 0 else s.l.getD j 0
theorem addI_0 (s t : S8) : addI s t 0 = s.l := rfl
theorem addI_8 (s t : S8) : addI s t 8 = (s.add t).l := rfl
theorem addI_len (s t : S8) (i : Nat) : (addI s t i).length = 8 := by simp [addI]
theorem addI_get (s t : S8) (i : Nat) (h : i < 8) : (addI s t i).getD i 0 = s.l.getD i 0 := by
  unfold addI
  rw [List.getD, List.getElem?_map, List.getElem?_range h]
  simp
theorem addI_set (s t : S8) (i : Nat) (h : i < 8) : (addI s t i).set i (s.l.getD i 0 + t.l.getD i 0) = addI s t (i + 1) := by
  apply List.ext_getElem?
  intro j
  rw [List.getElem?_set, addI_len]
  unfold addI
  by_cases e : i = j
  · subst e
    rw [if_pos rfl, if_pos h, List.getElem?_map, List.getElem?_range h]
    simp
  · rw [if_neg e, List.getElem?_map, List.getElem?_map]
    by_cases hj : j < 8
    · rw [List.getElem?_range hj]
      simp only [Option.map_some]
      by_cases h1 : j < i
      · rw [if_pos h1, if_pos (by omega)]
      · rw [if_neg h1, if_neg (by omega)]
    · rw [List.getElem?_eq_none (by simpa using hj)]
      rfl
theorem outB_eq (s : S8) (i : Nat) : UInt8.ofBitVec ((s.l.getD (i / 4) 0 >>> (24 - 8 * (i % 4))).setWidth 8) = outB s i := rfl
theorem blks_get (l : List UInt8) (i : Nat) (h : i < l.length / 64) : (blks l).take (i + 1) = (blks l).take i ++ [blk64 l i] := by
  unfold blks
  rw [List.take_succ_eq_append_getElem (by simpa using h)]
  simp
theorem rnds_s (b : List UInt8) (s : S8) (n : Nat) : rnds b s (n + 1) = rnd (K64.getD n 0) (wat b n) (rnds b s n) := rfl
theorem refSum_s (l : List UInt8) (B : Option Addr) (c : Nat) (hB : B = none → l.length = 0 ∧ c = 0) (hn : l.length ≤ 100000000000) : Spec Tryz.prog 82 [.slice B l.length c].toArray [.rd B (bc l)] [] (fun _ : Unit => .agg (bc (sha l).1).toArray) (fun _ => []) := by
  have hp := pad_len l
  have hp64 : padN l.length = 64 * (padN l.length / 64) := by unfold padN; omega
  have hpl : padN l.length ≤ l.length + 72 := by unfold padN; omega
  have hbl : (blks (pad l)).length = padN l.length / 64 := by unfold blks; rw [List.length_map, List.length_range, hp]
  have hsha : bc (sha l).1 = bc (outL (comps (blks (pad l)) H0)) := rfl
  rw [hsha]
  have hK := K64_len
  have hPad := refPad_s l B c hB hn
  generalize padN l.length = p at *
  generalize pad l = q at *
  subst hp
  obtain ⟨m, hm⟩ : ∃ m, m = q.length / 64 := ⟨_, rfl⟩
  rw [← hm] at hp64 hbl
  refine spec_of Tryz.func82 rfl (n := 152) rfl rfl ?_
  intro W
  refine h_seq ?_
  refine h_reg ?_
  refine h_opX (x_alloc) fun g2 => ?_
  refine h_nil ?_
  refine q_then ?_
  refine h_seq ?_
  refine h_reg ?_
  refine h_op (r_build rfl) ?_
  refine h_opX (x_alloc) fun g3 => ?_
  refine h_opS (s_storer rfl rfl) ?_
  refine h_nil ?_
  refine q_then ?_
  refine h_seq ?_
  refine h_reg ?_
  change H _ _ _ _ _ (.blk g3 (wc .u32 (comps ((blks q).take 0) H0).l) _ :: _) _
  refine h_call (primes_s.comes) rfl rfl rfl fun g4 => ?_
  refine h_op (r_assign rfl) ?_
  refine h_nil ?_
  refine q_then ?_
  refine h_seq ?_
  refine h_reg ?_
  refine h_op (r_move rfl) ?_
  refine h_call (hPad.comes) rfl rfl rfl fun ⟨g5, c5⟩ => ?_
  dsimp only
  refine h_pure (φ := q.length ≤ c5) (fun w s => (s.ownLe (B := some ⟨g5, 0, none⟩) (N := q.length) (c := c5)).1) fun hcap => ?_
  refine h_L (fun w s => s.ownRd (B := some ⟨g5, 0, none⟩) (N := q.length) (c := c5)) ?_
  refine h_op (r_assign rfl) ?_
  refine h_nil ?_
  refine q_then ?_
  refine h_seq ?_
  refine h_seq ?_
  refine h_reg ?_
  refine h_op (r_assign rfl) ?_
  refine h_nil ?_
  refine q_then ?_
  refine h_block ?_
  refine h_loop (fun (i : Nat) => i ≤ m) (fun (i : Nat) => [(6, .int .i64 ((64 * i : Nat) : Int)), (5, .slice (some ⟨g5, 0, none⟩) q.length c5), (4, .slice (some ⟨g4, 0, none⟩) 64 64), (3, .pointer (some ⟨g3, 0, none⟩)), (2, .pointer (some ⟨g2, 0, none⟩))]) (fun (i : Nat) => [.rd (some ⟨g5, 0, none⟩) (bc q), .own (.slice (some ⟨g4, 0, none⟩) 64 64) 64 204 1 (wc .u32 K64), .blk g3 (wc .u32 (comps ((blks q).take i) H0).l) 205, .blk g2 zB32.cells 42]) (fun (i : Nat) => m - i) 0 (by omega) ⟨rfl, rfl, rfl, rfl, rfl, trivial⟩ (same) ?_
  intro i hi
  refine h_seq ?_
  refine h_seq ?_
  refine h_reg ?_
  refine h_op (r_move rfl) ?_
  refine h_op (r_move rfl) ?_
  refine h_op (r_len rfl) ?_
  refine h_op (r_lss rfl rfl) ?_
  refine h_nil ?_
  refine q_then ?_
  refine h_cond rfl (fun h => ?_) (fun h => ?_)
  · have hi2 : i < m := by omega
    have hcmp : comps ((blks q).take (i + 1)) H0 = comp (blk64 q i) (comps ((blks q).take i) H0) := by rw [blks_get q i (by omega), comps_snoc]
    have hb64 : (blk64 q i).length = 64 := by unfold blk64; rw [List.length_take, List.length_drop]; omega
    obtain ⟨b, hb⟩ : ∃ b, b = blk64 q i := ⟨_, rfl⟩
    have hcut := rd1_cut (L := [.rd (some ⟨g5, 0, none⟩) (bc q), .own (.slice (some ⟨g4, 0, none⟩) 64 64) 64 204 1 (wc .u32 K64), .blk g3 (wc .u32 (comps ((blks q).take i) H0).l) 205, .blk g2 zB32.cells 42]) (b := g5) (o' := 64 * i) (Nat.zero_add _).symm (bc_cut q (64 * i) 64)
    change Rd1 _ (.rd _ (bc (blk64 q i))) at hcut
    rw [← hb] at hcmp hb64 hcut
    have hS := sch_len b
    generalize comps ((blks q).take i) H0 = s0 at *
    refine h_skip ?_
    refine q_then ?_
    refine h_seq ?_
    refine h_block ?_
    refine h_seq ?_
    refine h_reg ?_
    refine h_op (r_move rfl) ?_
    refine h_op (r_move rfl) ?_
    refine h_op (r_move rfl) ?_
    refine h_op (r_add rfl rfl) ?_
    refine h_op (r_slLHb rfl rfl rfl (m := 64)) ?_
    refine h_call ((schedule_s b g5 (64 * i) (c5 - 64 * i) hb64).comes) rfl rfl rfl fun ⟨g7, c7⟩ => ?_
    dsimp only
    refine h_op (r_assign rfl) ?_
    refine h_nil ?_
    refine q_then ?_
    refine h_seq ?_
    refine h_reg ?_
    refine h_op (r_loadr rfl) ?_
    refine h_opX (x_alloc) fun g8 => ?_
    refine h_opS (s_storer rfl rfl) ?_
    refine h_nil ?_
    refine q_then ?_
    refine h_seq ?_
    refine h_seq ?_
    change H _ _ _ _ _ (.blk g8 (S8.cs (rnds b s0 0)) _ :: _) _
    refine h_reg ?_
    refine h_op (r_assign rfl) ?_
    refine h_nil ?_
    refine q_then ?_
    refine h_block ?_
    refine h_loop (fun (s : Nat × S8) => s.1 ≤ 64 ∧ s.2 = rnds b s0 s.1) (fun (s : Nat × S8) => [(9, .int .i64 (s.1 : Int)), (8, .pointer (some ⟨g8, 0, none⟩)), (7, .slice (some ⟨g7, 0, none⟩) 64 c7), (6, .int .i64 ((64 * i : Nat) : Int)), (5, .slice (some ⟨g5, 0, none⟩) q.length c5), (4, .slice (some ⟨g4, 0, none⟩) 64 64), (3, .pointer (some ⟨g3, 0, none⟩)), (2, .pointer (some ⟨g2, 0, none⟩))]) (fun (s : Nat × S8) => [.blk g8 (S8.cs s.2) 205, .own (.slice (some ⟨g7, 0, none⟩) 64 c7) 64 204 1 (wc .u32 (sch b 64)), .rd (some ⟨g5, 0, none⟩) (bc q), .own (.slice (some ⟨g4, 0, none⟩) 64 64) 64 204 1 (wc .u32 K64), .blk g3 (wc .u32 s0.l) 205, .blk g2 zB32.cells 42]) (fun (s : Nat × S8) => 64 - s.1) (0, rnds b s0 0) ((show 0 ≤ 64 ∧ rnds b s0 0 = rnds b s0 0 from ⟨by decide, rfl⟩)) ⟨rfl, rfl, rfl, rfl, rfl, rfl, rfl, rfl, trivial⟩ (same) ?_
    rintro ⟨k, v⟩ ⟨hk, hv⟩
    dsimp only at hk hv ⊢
    have hr1 := rnds_s b s0 k
    rw [← hv] at hr1
    have hS64 := hS 64
    refine h_seq ?_
    refine h_seq ?_
    refine h_reg ?_
    refine h_op (r_move rfl) ?_
    refine h_op (r_lss rfl rfl) ?_
    refine h_nil ?_
    refine q_then ?_
    refine h_cond rfl (fun h => ?_) (fun h => ?_)
    · refine h_skip ?_
      refine q_then ?_
      refine h_seq ?_
      refine h_block ?_
      refine h_seq ?_
      refine ha_start [.blk g8 (S8.cs v) 205, .own (.slice (some ⟨g7, 0, none⟩) 64 c7) 64 204 1 (wc .u32 (sch b 64)), .own (.slice (some ⟨g4, 0, none⟩) 64 64) 64 204 1 (wc .u32 K64)] [] mixed (same) ?_
      refine ha_takeP 0 rfl (r_idxA rfl rfl) ?_
      refine ha_take 1 rfl (r_loadc rfl) ?_
      refine ha_takeP 2 rfl (r_idxA rfl rfl) ?_
      refine ha_take 3 rfl (r_loadc rfl) ?_
      refine ha_takeP 5 rfl (r_idxA rfl rfl) ?_
      refine ha_take 6 rfl (r_loadc rfl) ?_
      refine ha_takeP 9 rfl (r_idxA rfl rfl) ?_
      refine ha_take 10 rfl (r_loadc rfl) ?_
      refine ha_takeP 14 rfl (r_idxA rfl rfl) ?_
      refine ha_take 15 rfl (r_loadc rfl) ?_
      refine ha_takeP 16 rfl (r_idxA rfl rfl) ?_
      refine ha_take 17 rfl (r_loadc rfl) ?_
      refine ha_takeP 18 rfl (r_and rfl rfl) ?_
      refine ha_takeP 19 rfl (r_idxA rfl rfl) ?_
      refine ha_take 20 rfl (r_loadc rfl) ?_
      refine ha_takeP 21 rfl (r_notW rfl) ?_
      refine ha_takeP 22 rfl (r_idxA rfl rfl) ?_
      refine ha_take 23 rfl (r_loadc rfl) ?_
      refine ha_takeP 24 rfl (r_and rfl rfl) ?_
      refine ha_takeP 25 rfl (r_xor rfl rfl) ?_
      refine ha_takeP 27 rfl (r_move rfl) ?_
      refine ha_takeP 28 rfl (r_move rfl) ?_
      refine ha_takeP 29 rfl (r_idx rfl rfl) ?_
      refine ha_take 30 rfl (r_nth rfl (wc_at (by omega))) ?_
      refine ha_takeP 32 rfl (r_move rfl) ?_
      refine ha_takeP 33 rfl (r_move rfl) ?_
      refine ha_takeP 34 rfl (r_idx rfl rfl) ?_
      refine ha_take 35 rfl (r_nth rfl (wc_at (by omega))) ?_
      refine ha_one 4 ?_
      refine ho_C 4 rfl ((turn_s _ 6 (by decide)).comes) rfl rfl rfl (fun xx => same) fun _ => ?_
      refine ha_one 7 ?_
      refine ho_C 7 rfl ((turn_s _ 11 (by decide)).comes) rfl rfl rfl (fun xx => same) fun _ => ?_
      refine ha_takeP 8 rfl (r_xor rfl rfl) ?_
      refine ha_one 11 ?_
      refine ho_C 11 rfl ((turn_s _ 25 (by decide)).comes) rfl rfl rfl (fun xx => same) fun _ => ?_
      refine ha_takeP 12 rfl (r_xor rfl rfl) ?_
      refine ha_takeP 13 rfl (r_addW rfl rfl) ?_
      refine ha_takeP 26 rfl (r_addW rfl rfl) ?_
      refine ha_takeP 31 rfl (r_addW rfl rfl) ?_
      refine ha_takeP 36 rfl (r_addW rfl rfl) ?_
      refine ha_takeP 37 rfl (r_assign rfl) ?_
      refine ha_done (by kernel_rfl) ?_
      refine q_then ?_
      refine h_seq ?_
      refine ha_start [.blk g8 (S8.cs v) 205] [] mixed (same) ?_
      refine ha_takeP 0 rfl (r_idxA rfl rfl) ?_
      refine ha_take 1 rfl (r_loadc rfl) ?_
      refine ha_takeP 3 rfl (r_idxA rfl rfl) ?_
      refine ha_take 4 rfl (r_loadc rfl) ?_
      refine ha_takeP 7 rfl (r_idxA rfl rfl) ?_
      refine ha_take 8 rfl (r_loadc rfl) ?_
      refine ha_takeP 11 rfl (r_idxA rfl rfl) ?_
      refine ha_take 12 rfl (r_loadc rfl) ?_
      refine ha_takeP 13 rfl (r_idxA rfl rfl) ?_
      refine ha_take 14 rfl (r_loadc rfl) ?_
      refine ha_takeP 15 rfl (r_and rfl rfl) ?_
      refine ha_takeP 16 rfl (r_idxA rfl rfl) ?_
      refine ha_take 17 rfl (r_loadc rfl) ?_
      refine ha_takeP 18 rfl (r_idxA rfl rfl) ?_
      refine ha_take 19 rfl (r_loadc rfl) ?_
      refine ha_takeP 20 rfl (r_and rfl rfl) ?_
      refine ha_takeP 21 rfl (r_xor rfl rfl) ?_
      refine ha_takeP 22 rfl (r_idxA rfl rfl) ?_
      refine ha_take 23 rfl (r_loadc rfl) ?_
      refine ha_takeP 24 rfl (r_idxA rfl rfl) ?_
      refine ha_take 25 rfl (r_loadc rfl) ?_
      refine ha_takeP 26 rfl (r_and rfl rfl) ?_
      refine ha_takeP 27 rfl (r_xor rfl rfl) ?_
      refine ha_one 2 ?_
      refine ho_C 2 rfl ((turn_s _ 2 (by decide)).comes) rfl rfl rfl (fun xx => same) fun _ => ?_
      refine ha_one 5 ?_
      refine ho_C 5 rfl ((turn_s _ 13 (by decide)).comes) rfl rfl rfl (fun xx => same) fun _ => ?_
      refine ha_takeP 6 rfl (r_xor rfl rfl) ?_
      refine ha_one 9 ?_
      refine ho_C 9 rfl ((turn_s _ 22 (by decide)).comes) rfl rfl rfl (fun xx => same) fun _ => ?_
      refine ha_takeP 10 rfl (r_xor rfl rfl) ?_
      refine ha_takeP 28 rfl (r_addW rfl rfl) ?_
      refine ha_takeP 29 rfl (r_assign rfl) ?_
      refine ha_done (by kernel_rfl) ?_
      refine q_then ?_
      refine h_reg ?_
      refine h_op (r_move rfl) ?_
      refine h_op (r_move rfl) ?_
      refine h_op (r_addW rfl rfl) ?_
      refine h_op (r_idxA rfl rfl) ?_
      refine h_op (r_loadc rfl) ?_
      refine h_op (r_idxA rfl rfl) ?_
      refine h_op (r_loadc rfl) ?_
      refine h_op (r_idxA rfl rfl) ?_
      refine h_op (r_loadc rfl) ?_
      refine h_op (r_idxA rfl rfl) ?_
      refine h_op (r_loadc rfl) ?_
      refine h_op (r_move rfl) ?_
      refine h_op (r_addW rfl rfl) ?_
      refine h_op (r_idxA rfl rfl) ?_
      refine h_op (r_loadc rfl) ?_
      refine h_op (r_idxA rfl rfl) ?_
      refine h_op (r_loadc rfl) ?_
      refine h_op (r_idxA rfl rfl) ?_
      refine h_op (r_loadc rfl) ?_
      refine h_op (r_build rfl) ?_
      refine h_opS (s_storer rfl rfl) ?_
      refine h_nil ?_
      refine q_block ?_
      refine q_then ?_
      change H _ _ _ _ _ (.blk g8 (S8.cs (rnd (K64.getD k 0) (wat b k) v)) _ :: _) _
      rw [← hr1]
      refine h_reg ?_
      refine h_op (r_move rfl) ?_
      refine h_op (r_add rfl rfl) ?_
      refine h_op (r_assign rfl) ?_
      refine h_nil ?_
      exact h_back (k + 1, rnds b s0 (k + 1)) ((show k + 1 ≤ 64 ∧ rnds b s0 (k + 1) = rnds b s0 (k + 1) from ⟨by omega, rfl⟩)) ((show 64 - (k + 1) < 64 - k by omega)) ⟨rfl, rfl, rfl, rfl, rfl, rfl, rfl, rfl, trivial⟩ (same)
    · obtain rfl : k = 64 := by omega
      refine h_exit ?_
      refine q_thenE ?_
      refine q_thenE ?_
      refine q_blockE ?_
      refine q_then ?_
      refine h_seq ?_
      rw [S8.cs_eq, ← addI_0 s0 v]
      refine h_reg ?_
      refine h_op (r_assign rfl) ?_
      refine h_nil ?_
      refine q_then ?_
      refine h_block ?_
      refine h_loop (fun (j : Nat) => j ≤ 8) (fun (j : Nat) => [(12, .int .i64 (j : Int)), (8, .pointer (some ⟨g8, 0, none⟩)), (6, .int .i64 ((64 * i : Nat) : Int)), (5, .slice (some ⟨g5, 0, none⟩) q.length c5), (4, .slice (some ⟨g4, 0, none⟩) 64 64), (3, .pointer (some ⟨g3, 0, none⟩)), (2, .pointer (some ⟨g2, 0, none⟩))]) (fun (j : Nat) => [.blk g8 (wc .u32 v.l) 205, .rd (some ⟨g5, 0, none⟩) (bc q), .own (.slice (some ⟨g4, 0, none⟩) 64 64) 64 204 1 (wc .u32 K64), .blk g3 (wc .u32 (addI s0 v j)) 205, .blk g2 zB32.cells 42]) (fun (j : Nat) => 8 - j) 0 (by omega) ⟨rfl, rfl, rfl, rfl, rfl, rfl, rfl, trivial⟩ (same) ?_
      intro j hj
      have hal := addI_len s0 v j
      have hvl : v.l.length = 8 := rfl
      refine h_seq ?_
      refine h_seq ?_
      refine h_reg ?_
      refine h_op (r_move rfl) ?_
      refine h_op (r_lss rfl rfl) ?_
      refine h_nil ?_
      refine q_then ?_
      refine h_cond rfl (fun h => ?_) (fun h => ?_)
      · have hst := addI_set s0 v j (by omega)
        have hg := addI_get s0 v j (by omega)
        refine h_skip ?_
        refine q_then ?_
        refine h_seq ?_
        refine h_block ?_
        refine ha_start [.blk g8 (wc .u32 v.l) 205, .blk g3 (wc .u32 (addI s0 v j)) 205] [] mixed (same) ?_
        refine ha_takeP 0 rfl (r_move rfl) ?_
        refine ha_takeP 1 rfl (r_idxA rfl rfl) ?_
        refine ha_take 2 rfl (r_nth rfl (wc_at (by omega))) ?_
        refine ha_takeP 3 rfl (r_move rfl) ?_
        refine ha_takeP 4 rfl (r_idxA rfl rfl) ?_
        refine ha_take 5 rfl (r_nth rfl (wc_at (by omega))) ?_
        refine ha_takeP 6 rfl (r_addW rfl rfl) ?_
        refine ha_takeP 7 rfl (r_idxA rfl rfl) ?_
        refine ha_one 8 ?_
        refine ho_SL 8 rfl (s_setW rfl rfl) ?_
        refine q_block ?_
        refine q_then ?_
        rw [hg, hst]
        refine h_reg ?_
        refine h_op (r_move rfl) ?_
        refine h_op (r_add rfl rfl) ?_
        refine h_op (r_assign rfl) ?_
        refine h_nil ?_
        exact h_back (j + 1) (by omega) (by omega) ⟨rfl, rfl, rfl, rfl, rfl, rfl, rfl, trivial⟩ (same)
      · obtain rfl : j = 8 := by omega
        rw [addI_8, hv, show S8.add s0 (rnds b s0 64) = comp b s0 from rfl, ← hcmp]
        refine h_exit ?_
        refine q_thenE ?_
        refine q_thenE ?_
        refine q_blockE ?_
        refine q_block ?_
        refine q_then ?_
        refine h_reg ?_
        refine h_op (r_move rfl) ?_
        refine h_op (r_add rfl rfl) ?_
        refine h_op (r_assign rfl) ?_
        refine h_nil ?_
        exact h_back (i + 1) (by omega) (by omega) ⟨aI rfl (by omega), rfl, rfl, rfl, rfl, trivial⟩ (same)
  · refine h_exit ?_
    refine q_thenE ?_
    refine q_thenE ?_
    refine q_blockE ?_
    refine q_then ?_
    refine h_seq ?_
    refine h_reg ?_
    refine h_opX (x_alloc) fun g13 => ?_
    refine h_nil ?_
    refine q_then ?_
    refine h_seq ?_
    refine h_seq ?_
    refine h_reg ?_
    refine h_op (r_assign rfl) ?_
    refine h_nil ?_
    refine q_then ?_
    refine h_block ?_
    obtain rfl : i = m := by omega
    rw [← hbl, List.take_length]
    generalize comps (blks q) H0 = s0 at *
    change H _ _ _ _ _ (.blk g13 (bc ((List.range 0).map (outB s0) ++ List.replicate (32 - 0) 0)) _ :: _) _
    refine h_loop (fun (j : Nat) => j ≤ 32) (fun (j : Nat) => [(14, .int .i64 (j : Int)), (13, .pointer (some ⟨g13, 0, none⟩)), (3, .pointer (some ⟨g3, 0, none⟩)), (2, .pointer (some ⟨g2, 0, none⟩))]) (fun (j : Nat) => [.blk g13 (bc ((List.range j).map (outB s0) ++ List.replicate (32 - j) 0)) 42, .blk g3 (wc .u32 s0.l) 205, .blk g2 zB32.cells 42]) (fun (j : Nat) => 32 - j) 0 (by omega) ⟨rfl, rfl, rfl, rfl, trivial⟩ (same) ?_
    intro j hj
    have hfl := fill_len (outB s0) 0 32 j hj
    have hsl : s0.l.length = 8 := rfl
    refine h_seq ?_
    refine h_seq ?_
    refine h_reg ?_
    refine h_op (r_move rfl) ?_
    refine h_op (r_lss rfl rfl) ?_
    refine h_nil ?_
    refine q_then ?_
    refine h_cond rfl (fun h => ?_) (fun h => ?_)
    · have hst := fill_set (outB s0) 0 32 j (by omega)
      refine h_skip ?_
      refine q_then ?_
      refine h_seq ?_
      refine h_block ?_
      refine h_reg ?_
      refine h_op (r_move rfl) ?_
      refine h_op (r_move rfl) ?_
      refine h_op (r_quo rfl rfl) ?_
      refine h_op (r_idxA rfl rfl) ?_
      refine h_op (r_nth rfl (wc_at (by omega))) ?_
      refine h_op (r_move rfl) ?_
      refine h_op (r_rem rfl rfl) ?_
      refine h_op (r_mul rfl rfl) ?_
      refine h_op (r_sub rfl rfl) ?_
      refine h_op (r_cP (q := 24 - 8 * (j % 4)) rfl (by omega) (by omega)) ?_
      refine h_op (r_shr rfl rfl) ?_
      refine h_op (r_cW rfl) ?_
      refine h_op (r_idxA rfl rfl) ?_
      refine h_opS (s_setB rfl rfl) ?_
      refine h_nil ?_
      refine q_block ?_
      refine q_then ?_
      rw [outB_eq, hst]
      refine h_reg ?_
      refine h_op (r_move rfl) ?_
      refine h_op (r_add rfl rfl) ?_
      refine h_op (r_assign rfl) ?_
      refine h_nil ?_
      exact h_back (j + 1) (by omega) (by omega) ⟨rfl, rfl, rfl, rfl, trivial⟩ (same)
    · obtain rfl : j = 32 := by omega
      rw [fill_end]
      change H _ _ _ _ _ (.blk g13 (bc (outL s0)) _ :: _) _
      refine h_exit ?_
      refine q_thenE ?_
      refine q_thenE ?_
      refine q_blockE ?_
      refine q_then ?_
      refine h_seq ?_
      refine h_reg ?_
      refine h_op (r_loadr rfl) ?_
      refine h_opS (s_storer rfl rfl) ?_
      refine h_nil ?_
      refine q_then ?_
      refine h_ret ?_
      exact h_ret1 rfl (rv_row rfl) fun w s => ⟨(), rfl, s.res (List.nil_sublist _) (by simp)⟩
end Go.Proofs.YtjhocljhhpkiiaaGreatDoor
