/- The reference's schedule; The reference's sum; The program's compression; The program's sum; The program's sum; Bits of 32 bytes: plain Lean; The bits that two keys have in common: plain Lean; How many bits are set, which is the last, and more of bits: plain Lean; Bits and bitmaps; What is kept of a key, or of a digest: its first bits. Plain Lean (joined texts: U3 U4 U5 U6 U7 E1 E3 E8 U8 E9) -/
import Derived.Test.YtjhlbbgikccclaaGreatDoorR4
set_option linter.all false
/- U3 -/
namespace Go.Proofs.YtjhlbbgikccclaaGreatDoor
open Go.RowKit
theorem Sx.ownSome {A : List Fa} {W w : World} {L M : List Fa} {B : Option Addr} {N c e size : Nat} {xs : List Value} (s : Sx A W w L) [hd : TakeO (.slice B N c) L N e size xs M] (h : 0 < N) : ∃ g, B = some ⟨g, 0, none⟩ := by
 have ho : w.ownsRow 0 e size (.slice B N c) N xs := (s.perm hd.perm).ok (.own _ _ _ _ _) (List.mem_cons_self ..)
 rcases ho.2 with ⟨_, rfl⟩ | ⟨g, cap, cur, e1, _⟩
 ·omega
 ·injection e1 with e1 _ _
  exact ⟨g, e1⟩
theorem sch_lo (l : List UInt8) (k : Nat) (h : k < 16) : sch l (k + 1) = sch l k ++ [wrd l k] := by rw [sch, if_pos h]
theorem sch_hi (l : List UInt8) (k : Nat) (h : 16 ≤ k) : sch l (k + 1) = sch l k ++ [(((sch l k).getD (k - 16) 0 + sg0 ((sch l k).getD (k - 15) 0)) + (sch l k).getD (k - 7) 0) + sg1 ((sch l k).getD (k - 2) 0)] := by
 rw [sch, if_neg (by omega), nextW, sch_len]
theorem schedule_s (l : List UInt8) (b o c : Nat) (hl : l.length = 64) : Spec Tryz.prog 133 [.slice (some ⟨b, o, none⟩) 64 c].toArray [.rd (some ⟨b, o, none⟩) (bc l)] [] (fun u : Nat × Nat => .slice (some ⟨u.1, 0, none⟩) 64 u.2) (fun u => [.own (.slice (some ⟨u.1, 0, none⟩) 64 u.2) 64 251 1 (wc .u32 (sch l 64))]) := by
 refine spec_of Tryz.func133 rfl (n := 95) rfl rfl ?_
 intro W
 refine yR ?_
 refine yS rfl ?_
 refine yN ?_
 refine yR ?_
 refine yS rfl ?_
 refine yN ?_
 refine h_seq ?_
 refine yR ?_
 refine yS rfl ?_
 refine yN ?_
 refine h_block ?_
 refine h_nil_own 251 1 (xs := wc .u32 (sch l 0)) rfl ?_
 refine h_loop (fun (s : Nat × Option Addr × Nat) => s.1 ≤ 16) (fun (s : Nat × Option Addr × Nat) => [(4, .int .i64 (s.1 : Int)), (3, .slice s.2.1 s.1 s.2.2), (0, .slice (some ⟨b, o, none⟩) 64 c)]) (fun (s : Nat × Option Addr × Nat) => [.own (.slice s.2.1 s.1 s.2.2) s.1 251 1 (wc .u32 (sch l s.1)), .rd (some ⟨b, o, none⟩) (bc l)]) (fun (s : Nat × Option Addr × Nat) => 16 - s.1) (0, none, 0) ((show 0 ≤ 16 by omega)) ⟨rfl, rfl, rfl, trivial⟩ (same) ?_
 rintro ⟨k, B, cp⟩ hk
 dsimp only at hk ⊢
 refine h_seq ?_
 refine yR ?_
 refine yM rfl ?_
 refine h_op (r_lss rfl rfl) ?_
 refine yN ?_
 refine h_cond rfl (fun h => ?_) (fun h => ?_)
 ·have hst := sch_lo l k (by omega)
  unfold wrd at hst
  refine h_skip ?_
  refine q_then ?_
  refine h_seq ?_
  refine h_block ?_
  refine ha_start [.rd (some ⟨b, o, none⟩) (bc l)] [] mixed (same) ?_
  refine ha_takeP 0 rfl (r_move rfl) ?_
  refine ha_takeP 1 rfl (r_move rfl) ?_
  refine ha_takeP 2 rfl (r_move rfl) ?_
  refine ha_takeP 3 rfl (r_mul rfl rfl) ?_
  refine ha_takeP 4 rfl (r_idx rfl rfl) ?_
  refine ha_take 5 rfl (r_nth rfl (bc_at' (by omega))) ?_
  refine ha_takeP 6 rfl (r_cW rfl) ?_
  refine ha_takeP 7 rfl (r_shl rfl rfl) ?_
  refine ha_takeP 8 rfl (r_move rfl) ?_
  refine ha_takeP 9 rfl (r_move rfl) ?_
  refine ha_takeP 10 rfl (r_mul rfl rfl) ?_
  refine ha_takeP 11 rfl (r_add rfl rfl) ?_
  refine ha_takeP 12 rfl (r_idx rfl rfl) ?_
  refine ha_take 13 rfl (r_nth rfl (bc_at' (by omega))) ?_
  refine ha_takeP 14 rfl (r_cW rfl) ?_
  refine ha_takeP 15 rfl (r_shl rfl rfl) ?_
  refine ha_takeP 16 rfl (r_or rfl rfl) ?_
  refine ha_takeP 17 rfl (r_move rfl) ?_
  refine ha_takeP 18 rfl (r_move rfl) ?_
  refine ha_takeP 19 rfl (r_mul rfl rfl) ?_
  refine ha_takeP 20 rfl (r_add rfl rfl) ?_
  refine ha_takeP 21 rfl (r_idx rfl rfl) ?_
  refine ha_take 22 rfl (r_nth rfl (bc_at' (by omega))) ?_
  refine ha_takeP 23 rfl (r_cW rfl) ?_
  refine ha_takeP 24 rfl (r_shl rfl rfl) ?_
  refine ha_takeP 25 rfl (r_or rfl rfl) ?_
  refine ha_takeP 26 rfl (r_move rfl) ?_
  refine ha_takeP 27 rfl (r_move rfl) ?_
  refine ha_takeP 28 rfl (r_mul rfl rfl) ?_
  refine ha_takeP 29 rfl (r_add rfl rfl) ?_
  refine ha_takeP 30 rfl (r_idx rfl rfl) ?_
  refine ha_take 31 rfl (r_nth rfl (bc_at' (by omega))) ?_
  refine ha_takeP 32 rfl (r_cW rfl) ?_
  refine ha_takeP 33 rfl (r_or rfl rfl) ?_
  refine ha_one 34 ?_
  refine ho_X 34 rfl (rk (x_bsl rfl rfl)) (fun _ => same) fun g46 => ?_
  refine ha_one 35 ?_
  refine ho_X 35 rfl (rk (x_app1W rfl rfl)) (fun _ => same) fun ⟨g47, c47⟩ => ?_
  refine ha_takeP 36 rfl (r_assign rfl) ?_
  refine ha_done (by kernel_rfl) ?_
  refine q_block ?_
  refine q_then ?_
  rw [← hst]
  refine h_reg ?_
  refine yM rfl ?_
  refine h_op (r_add rfl rfl) ?_
  refine yS rfl ?_
  refine h_nil ?_
  exact h_back (k + 1, some ⟨g47, 0, none⟩, c47) ((show k + 1 ≤ 16 by omega)) ((show 16 - (k + 1) < 16 - k by omega)) ⟨rfl, rfl, rfl, trivial⟩ (same)
 ·obtain rfl : k = 16 := by omega
  refine h_pure (φ := ∃ g, B = some ⟨g, 0, none⟩) (fun w s => s.ownSome (N := 16) (c := cp) (by decide)) ?_
  rintro ⟨g, rfl⟩
  refine h_exit ?_
  refine q_thenE ?_
  refine q_thenE ?_
  refine q_blockE ?_
  refine q_then ?_
  refine h_seq ?_
  refine yR ?_
  refine yS rfl ?_
  refine yN ?_
  refine h_block ?_
  refine h_loop (fun (s : Nat × Nat × Nat) => 16 ≤ s.1 ∧ s.1 ≤ 64) (fun (s : Nat × Nat × Nat) => [(5, .int .i64 (s.1 : Int)), (3, .slice (some ⟨s.2.1, 0, none⟩) s.1 s.2.2)]) (fun (s : Nat × Nat × Nat) => [.own (.slice (some ⟨s.2.1, 0, none⟩) s.1 s.2.2) s.1 251 1 (wc .u32 (sch l s.1))]) (fun (s : Nat × Nat × Nat) => 64 - s.1) (16, g, cp) ((show 16 ≤ 16 ∧ 16 ≤ 64 by omega)) ⟨rfl, rfl, trivial⟩ (same) ?_
  rintro ⟨k, g, cp⟩ hk
  dsimp only at hk ⊢
  refine h_seq ?_
  refine yR ?_
  refine yM rfl ?_
  refine h_op (r_lss rfl rfl) ?_
  refine yN ?_
  refine h_cond rfl (fun h => ?_) (fun h => ?_)
  ·have hst := sch_hi l k (by omega)
   unfold sg0 sg1 at hst
   have hsl := sch_len l k
   refine h_skip ?_
   refine q_then ?_
   refine h_seq ?_
   refine h_block ?_
   refine yR ?_
   refine yM rfl ?_
   refine yM rfl ?_
   refine h_op (r_subN rfl rfl) ?_
   refine h_op (r_idx rfl rfl) ?_
   refine h_op (r_nth rfl (wc_at (by omega))) ?_
   refine yS rfl ?_
   refine yN ?_
   refine yR ?_
   refine yM rfl ?_
   refine yM rfl ?_
   refine h_op (r_subN rfl rfl) ?_
   refine h_op (r_idx rfl rfl) ?_
   refine h_op (r_nth rfl (wc_at (by omega))) ?_
   refine yS rfl ?_
   refine yN ?_
   refine ha_start [] [.rd (some ⟨g, 0, none⟩) (wc .u32 (sch l k))] mixed (same) ?_
   refine ha_takeP 0 rfl (r_move rfl) ?_
   refine ha_takeP 1 rfl (r_move rfl) ?_
   refine ha_takeP 2 rfl (r_move rfl) ?_
   refine ha_takeP 3 rfl (r_subN rfl rfl) ?_
   refine ha_takeP 4 rfl (r_idx rfl rfl) ?_
   refine ha_takeR 5 rfl (r_nth rfl (wc_at (by omega))) ?_
   refine ha_takeP 6 rfl (r_move rfl) ?_
   refine ha_takeP 8 rfl (r_move rfl) ?_
   refine ha_takeP 11 rfl (r_move rfl) ?_
   refine ha_takeP 12 rfl (r_shr rfl rfl) ?_
   refine ha_takeP 15 rfl (r_move rfl) ?_
   refine ha_takeP 16 rfl (r_move rfl) ?_
   refine ha_takeP 17 rfl (r_subN rfl rfl) ?_
   refine ha_takeP 18 rfl (r_idx rfl rfl) ?_
   refine ha_takeR 19 rfl (r_nth rfl (wc_at (by omega))) ?_
   refine ha_takeP 21 rfl (r_move rfl) ?_
   refine ha_takeP 23 rfl (r_move rfl) ?_
   refine ha_takeP 26 rfl (r_move rfl) ?_
   refine ha_takeP 27 rfl (r_shr rfl rfl) ?_
   refine ha_one 7 ?_
   refine ho_C 7 rfl ((turn_s _ 7 (by decide)).comes) rfl rfl rfl (fun xx => same) fun _ => ?_
   refine ha_one 9 ?_
   refine ho_C 9 rfl ((turn_s _ 18 (by decide)).comes) rfl rfl rfl (fun xx => same) fun _ => ?_
   refine ha_takeP 10 rfl (r_xor rfl rfl) ?_
   refine ha_takeP 13 rfl (r_xor rfl rfl) ?_
   refine ha_takeP 14 rfl (r_addW rfl rfl) ?_
   refine ha_takeP 20 rfl (r_addW rfl rfl) ?_
   refine ha_one 22 ?_
   refine ho_C 22 rfl ((turn_s _ 17 (by decide)).comes) rfl rfl rfl (fun xx => same) fun _ => ?_
   refine ha_one 24 ?_
   refine ho_C 24 rfl ((turn_s _ 19 (by decide)).comes) rfl rfl rfl (fun xx => same) fun _ => ?_
   refine ha_takeP 25 rfl (r_xor rfl rfl) ?_
   refine ha_takeP 28 rfl (r_xor rfl rfl) ?_
   refine ha_takeP 29 rfl (r_addW rfl rfl) ?_
   refine ha_one 30 ?_
   refine ho_X 30 rfl (rk (x_bsl rfl rfl)) (fun _ => same) fun g92 => ?_
   refine ha_one 31 ?_
   refine ho_X 31 rfl (k_app1W rfl rfl) (fun _ => same) fun ⟨g93, c93⟩ => ?_
   refine ha_takeP 32 rfl (r_assign rfl) ?_
   refine ha_done (by kernel_rfl) ?_
   refine q_block ?_
   refine q_then ?_
   rw [← hst]
   refine h_reg ?_
   refine yM rfl ?_
   refine h_op (r_add rfl rfl) ?_
   refine yS rfl ?_
   refine h_nil ?_
   exact h_back (k + 1, g93, c93) ((show 16 ≤ k + 1 ∧ k + 1 ≤ 64 by omega)) ((show 64 - (k + 1) < 64 - k by omega)) ⟨rfl, rfl, trivial⟩ (same)
  ·obtain rfl : k = 64 := by omega
   refine h_exit ?_
   refine q_thenE ?_
   refine q_thenE ?_
   refine q_blockE ?_
   refine q_then ?_
   refine yR ?_
   refine yM rfl ?_
   refine yS rfl ?_
   refine yN ?_
   refine h_ret ?_
   exact h_ret1 rfl rfl fun w s => ⟨(g, cp), rfl, s.res (List.Sublist.refl _) (by simp [Fa.wr])⟩
end Go.Proofs.YtjhlbbgikccclaaGreatDoor
/- U4 -/
namespace Go.Proofs.YtjhlbbgikccclaaGreatDoor
open Go.RowKit
theorem fill_set {α : Type} (f : Nat → α) (z : α) (n i : Nat) (h : i < n) : ((List.range i).map f ++ List.replicate (n - i) z).set i (f i) = (List.range (i + 1)).map f ++ List.replicate (n - (i + 1)) z := by
 obtain ⟨q, hq⟩ : ∃ q, n - i = q + 1 := ⟨n - i - 1, by omega⟩
 rw [List.set_append_right _ _ (by simp), hq, show n - (i + 1) = q by omega, List.replicate_succ, List.range_succ, List.map_append]
 simp
theorem fill_len {α : Type} (f : Nat → α) (z : α) (n i : Nat) (h : i ≤ n) : ((List.range i).map f ++ List.replicate (n - i) z).length = n := by simp; omega
theorem fill_end {α : Type} (f : Nat → α) (z : α) (n : Nat) : (List.range n).map f ++ List.replicate (n - n) z = (List.range n).map f := by simp
theorem Sx.ownRd {A : List Fa} {W w : World} {L M : List Fa} {B : Option Addr} {N c e size : Nat} {xs : List Value} (s : Sx A W w L) [hd : TakeO (.slice B N c) L N e size xs M] : Sx A W w (.rd B xs :: M) := by
 have s2 := s.perm hd.perm
 have ho : w.ownsRow 0 e size (.slice B N c) N xs := s2.ok (.own _ _ _ _ _) (List.mem_cons_self ..)
 refine s2.tail.cons (own_rd' ho) (fun g hg hw k h1 h2 => ?_) (fun h => by cases h)
 obtain ⟨_, o, rfl⟩ := h1
 exact (List.pairwise_cons.1 s2.sep).1 g hg rfl k rfl h2
theorem rd1_cut {L : List Fa} {b o o' off : Nat} {cs out : List Value} [h : Rd1 L (.rd (some ⟨b, o, none⟩) cs)] (ho : o' = o + off) (hr : ∀ j v, out[j]? = some v → cs[off + j]? = some v) : Rd1 L (.rd (some ⟨b, o', none⟩) out) := ⟨fun hw => by
 obtain ⟨_, h1, h2⟩ := h.ok hw
 subst ho
 refine ⟨rfl, fun j v hv => ⟨b, o + off, rfl, by rw [Nat.add_assoc]; exact Rd.range h1 _ v (hr j v hv)⟩, fun k hk => h2 k ?_⟩
 obtain rfl := rd_foot (A := none) hk
 refine ⟨fun hc => ?_, o, rfl⟩
 obtain ⟨hne, _⟩ := hk
 cases out with
 | nil => exact hne rfl
 | cons x out => have := hr 0 x rfl; rw [hc] at this; simp at this⟩
theorem bc_cut (l : List UInt8) (a m : Nat) : ∀ j v, (bc ((l.drop a).take m))[j]? = some v → (bc l)[a + j]? = some v := fun j v hv => by
 rw [bc_take, bc_drop, List.getElem?_take] at hv
 split at hv
 ·rwa [List.getElem?_drop] at hv
 ·cases hv
abbrev S8.cs (s : S8) : List Value := [.int .u32 (s.a.toNat : Int), .int .u32 (s.b.toNat : Int), .int .u32 (s.c.toNat : Int), .int .u32 (s.d.toNat : Int), .int .u32 (s.e.toNat : Int), .int .u32 (s.f.toNat : Int), .int .u32 (s.g.toNat : Int), .int .u32 (s.h.toNat : Int)]
theorem S8.cs_eq (s : S8) : s.cs = wc .u32 s.l := rfl
theorem S8.cs_at (s : S8) {i : Nat} (h : i < 8) : s.cs[i]? = some (.int .u32 ((s.l.getD i 0).toNat : Int)) := wc_at (l := s.l) h
instance rowOutL (s : S8) : Row (bc (outL s)) 32 := ⟨by rw [bc_length]; simp [outL], bc_one _⟩
instance rowS8 (s : S8) : Row (wc .u32 s.l) 8 := ⟨rfl, wc_one _ _⟩
instance (s : S8) (a b c d e f g h : Value) : SetAt [a, b, c, d, e, f, g, h] 0 (wc .u32 s.l) (wc .u32 s.l) := .whole rfl
def addI (s t : S8) (i : Nat) : List W32 := (List.range 8).map fun j => if j < i then s.l.getD j 0 + t.l.getD j 0 else s.l.getD j 0
theorem addI_0 (s t : S8) : addI s t 0 = s.l := rfl
theorem addI_8 (s t : S8) : addI s t 8 = (s.add t).l := rfl
theorem addI_len (s t : S8) (i : Nat) : (addI s t i).length = 8 := by simp [addI]
theorem addI_get (s t : S8) (i : Nat) (h : i < 8) : (addI s t i).getD i 0 = s.l.getD i 0 := by
 unfold addI
 rw [List.getD, List.getElem?_map, List.getElem?_range h]
 simp
theorem addI_set (s t : S8) (i : Nat) (h : i < 8) : (addI s t i).set i (s.l.getD i 0 + t.l.getD i 0) = addI s t (i + 1) := by
 apply List.ext_getElem?
 intro j
 rw [List.getElem?_set, addI_len]
 unfold addI
 by_cases e : i = j
 ·subst e
  rw [if_pos rfl, if_pos h, List.getElem?_map, List.getElem?_range h]
  simp
 ·rw [if_neg e, List.getElem?_map, List.getElem?_map]
  by_cases hj : j < 8
  ·rw [List.getElem?_range hj]
   simp only [Option.map_some]
   by_cases h1 : j < i
   ·rw [if_pos h1, if_pos (by omega)]
   ·rw [if_neg h1, if_neg (by omega)]
  ·rw [List.getElem?_eq_none (by simpa using hj)]
   rfl
theorem outB_eq (s : S8) (i : Nat) : UInt8.ofBitVec ((s.l.getD (i / 4) 0 >>> (24 - 8 * (i % 4))).setWidth 8) = outB s i := rfl
theorem blks_get (l : List UInt8) (i : Nat) (h : i < l.length / 64) : (blks l).take (i + 1) = (blks l).take i ++ [blk64 l i] := by
 unfold blks
 rw [List.take_succ_eq_append_getElem (by simpa using h)]
 simp
theorem rnds_s (b : List UInt8) (s : S8) (n : Nat) : rnds b s (n + 1) = rnd (K64.getD n 0) (wat b n) (rnds b s n) := rfl
theorem refSum_s (l : List UInt8) (B : Option Addr) (c : Nat) (hB : B = none → l.length = 0 ∧ c = 0) (hn : l.length ≤ 100000000000) : Spec Tryz.prog 70 [.slice B l.length c].toArray [.rd B (bc l)] [] (fun _ : Unit => .agg (bc (sha l).1).toArray) (fun _ => []) := by
 have hp := pad_len l
 have hp64 : padN l.length = 64 * (padN l.length / 64) := by unfold padN; omega
 have hpl : padN l.length ≤ l.length + 72 := by unfold padN; omega
 have hbl : (blks (pad l)).length = padN l.length / 64 := by unfold blks; rw [List.length_map, List.length_range, hp]
 have hsha : bc (sha l).1 = bc (outL (comps (blks (pad l)) H0)) := rfl
 rw [hsha]
 have hK := K64_len
 have hPad := refPad_s l B c hB hn
 generalize padN l.length = p at *
 generalize pad l = q at *
 subst hp
 obtain ⟨m, hm⟩ : ∃ m, m = q.length / 64 := ⟨_, rfl⟩
 rw [← hm] at hp64 hbl
 refine spec_of Tryz.func70 rfl (n := 152) rfl rfl ?_
 intro W
 refine yR ?_
 refine h_opX (x_alloc) fun g2 => ?_
 refine yN ?_
 refine yR ?_
 refine h_op (r_build rfl) ?_
 refine h_opX (x_alloc) fun g3 => ?_
 refine h_opS (s_storer rfl rfl) ?_
 refine yN ?_
 refine yR ?_
 change H _ _ _ _ _ (.blk g3 (wc .u32 (comps ((blks q).take 0) H0).l) _ :: _) _
 refine h_call (primes_s.comes) rfl rfl rfl fun g4 => ?_
 refine yS rfl ?_
 refine yN ?_
 refine yR ?_
 refine yM rfl ?_
 refine h_call (hPad.comes) rfl rfl rfl fun ⟨g5, c5⟩ => ?_
 dsimp only
 refine h_pure (φ := q.length ≤ c5) (fun w s => (s.ownLe (B := some ⟨g5, 0, none⟩) (N := q.length) (c := c5)).1) fun hcap => ?_
 refine h_L (fun w s => s.ownRd (B := some ⟨g5, 0, none⟩) (N := q.length) (c := c5)) ?_
 refine yS rfl ?_
 refine yN ?_
 refine h_seq ?_
 refine yR ?_
 refine yS rfl ?_
 refine yN ?_
 refine h_block ?_
 refine h_loop (fun (i : Nat) => i ≤ m) (fun (i : Nat) => [(6, .int .i64 ((64 * i : Nat) : Int)), (5, .slice (some ⟨g5, 0, none⟩) q.length c5), (4, .slice (some ⟨g4, 0, none⟩) 64 64), (3, .pointer (some ⟨g3, 0, none⟩)), (2, .pointer (some ⟨g2, 0, none⟩))]) (fun (i : Nat) => [.rd (some ⟨g5, 0, none⟩) (bc q), .own (.slice (some ⟨g4, 0, none⟩) 64 64) 64 251 1 (wc .u32 K64), .blk g3 (wc .u32 (comps ((blks q).take i) H0).l) 252, .blk g2 zB32.cells 45]) (fun (i : Nat) => m - i) 0 (by omega) ⟨rfl, rfl, rfl, rfl, rfl, trivial⟩ (same) ?_
 intro i hi
 refine h_seq ?_
 refine yR ?_
 refine yM rfl ?_
 refine yM rfl ?_
 refine h_op (r_len rfl) ?_
 refine h_op (r_lss rfl rfl) ?_
 refine yN ?_
 refine h_cond rfl (fun h => ?_) (fun h => ?_)
 ·have hi2 : i < m := by omega
  have hcmp : comps ((blks q).take (i + 1)) H0 = comp (blk64 q i) (comps ((blks q).take i) H0) := by rw [blks_get q i (by omega), comps_snoc]
  have hb64 : (blk64 q i).length = 64 := by unfold blk64; rw [List.length_take, List.length_drop]; omega
  obtain ⟨b, hb⟩ : ∃ b, b = blk64 q i := ⟨_, rfl⟩
  have hcut := rd1_cut (L := [.rd (some ⟨g5, 0, none⟩) (bc q), .own (.slice (some ⟨g4, 0, none⟩) 64 64) 64 251 1 (wc .u32 K64), .blk g3 (wc .u32 (comps ((blks q).take i) H0).l) 252, .blk g2 zB32.cells 45]) (b := g5) (o' := 64 * i) (Nat.zero_add _).symm (bc_cut q (64 * i) 64)
  change Rd1 _ (.rd _ (bc (blk64 q i))) at hcut
  rw [← hb] at hcmp hb64 hcut
  have hS := sch_len b
  generalize comps ((blks q).take i) H0 = s0 at *
  refine h_skip ?_
  refine q_then ?_
  refine h_seq ?_
  refine h_block ?_
  refine yR ?_
  refine yM rfl ?_
  refine yM rfl ?_
  refine yM rfl ?_
  refine h_op (r_add rfl rfl) ?_
  refine h_op (r_slLHb rfl rfl rfl (m := 64)) ?_
  refine h_call ((schedule_s b g5 (64 * i) (c5 - 64 * i) hb64).comes) rfl rfl rfl fun ⟨g7, c7⟩ => ?_
  dsimp only
  refine yS rfl ?_
  refine yN ?_
  refine yR ?_
  refine h_op (r_loadr rfl) ?_
  refine h_opX (x_alloc) fun g8 => ?_
  refine h_opS (s_storer rfl rfl) ?_
  refine yN ?_
  refine h_seq ?_
  refine h_seq ?_
  change H _ _ _ _ _ (.blk g8 (S8.cs (rnds b s0 0)) _ :: _) _
  refine h_reg ?_
  refine yS rfl ?_
  refine yN ?_
  refine h_block ?_
  refine h_loop (fun (s : Nat × S8) => s.1 ≤ 64 ∧ s.2 = rnds b s0 s.1) (fun (s : Nat × S8) => [(9, .int .i64 (s.1 : Int)), (8, .pointer (some ⟨g8, 0, none⟩)), (7, .slice (some ⟨g7, 0, none⟩) 64 c7), (6, .int .i64 ((64 * i : Nat) : Int)), (5, .slice (some ⟨g5, 0, none⟩) q.length c5), (4, .slice (some ⟨g4, 0, none⟩) 64 64), (3, .pointer (some ⟨g3, 0, none⟩)), (2, .pointer (some ⟨g2, 0, none⟩))]) (fun (s : Nat × S8) => [.blk g8 (S8.cs s.2) 252, .own (.slice (some ⟨g7, 0, none⟩) 64 c7) 64 251 1 (wc .u32 (sch b 64)), .rd (some ⟨g5, 0, none⟩) (bc q), .own (.slice (some ⟨g4, 0, none⟩) 64 64) 64 251 1 (wc .u32 K64), .blk g3 (wc .u32 s0.l) 252, .blk g2 zB32.cells 45]) (fun (s : Nat × S8) => 64 - s.1) (0, rnds b s0 0) ((show 0 ≤ 64 ∧ rnds b s0 0 = rnds b s0 0 from ⟨by decide, rfl⟩)) ⟨rfl, rfl, rfl, rfl, rfl, rfl, rfl, rfl, trivial⟩ (same) ?_
  rintro ⟨k, v⟩ ⟨hk, hv⟩
  dsimp only at hk hv ⊢
  have hr1 := rnds_s b s0 k
  rw [← hv] at hr1
  have hS64 := hS 64
  refine h_seq ?_
  refine yR ?_
  refine yM rfl ?_
  refine h_op (r_lss rfl rfl) ?_
  refine yN ?_
  refine h_cond rfl (fun h => ?_) (fun h => ?_)
  ·refine h_skip ?_
   refine q_then ?_
   refine h_seq ?_
   refine h_block ?_
   refine h_seq ?_
   refine ha_start [.blk g8 (S8.cs v) 252, .own (.slice (some ⟨g7, 0, none⟩) 64 c7) 64 251 1 (wc .u32 (sch b 64)), .own (.slice (some ⟨g4, 0, none⟩) 64 64) 64 251 1 (wc .u32 K64)] [] mixed (same) ?_
   refine ha_takeP 0 rfl (r_idxA rfl rfl) ?_
   refine ha_take 1 rfl (r_loadc rfl) ?_
   refine ha_takeP 2 rfl (r_idxA rfl rfl) ?_
   refine ha_take 3 rfl (r_loadc rfl) ?_
   refine ha_takeP 5 rfl (r_idxA rfl rfl) ?_
   refine ha_take 6 rfl (r_loadc rfl) ?_
   refine ha_takeP 9 rfl (r_idxA rfl rfl) ?_
   refine ha_take 10 rfl (r_loadc rfl) ?_
   refine ha_takeP 14 rfl (r_idxA rfl rfl) ?_
   refine ha_take 15 rfl (r_loadc rfl) ?_
   refine ha_takeP 16 rfl (r_idxA rfl rfl) ?_
   refine ha_take 17 rfl (r_loadc rfl) ?_
   refine ha_takeP 18 rfl (r_and rfl rfl) ?_
   refine ha_takeP 19 rfl (r_idxA rfl rfl) ?_
   refine ha_take 20 rfl (r_loadc rfl) ?_
   refine ha_takeP 21 rfl (r_notW rfl) ?_
   refine ha_takeP 22 rfl (r_idxA rfl rfl) ?_
   refine ha_take 23 rfl (r_loadc rfl) ?_
   refine ha_takeP 24 rfl (r_and rfl rfl) ?_
   refine ha_takeP 25 rfl (r_xor rfl rfl) ?_
   refine ha_takeP 27 rfl (r_move rfl) ?_
   refine ha_takeP 28 rfl (r_move rfl) ?_
   refine ha_takeP 29 rfl (r_idx rfl rfl) ?_
   refine ha_take 30 rfl (r_nth rfl (wc_at (by omega))) ?_
   refine ha_takeP 32 rfl (r_move rfl) ?_
   refine ha_takeP 33 rfl (r_move rfl) ?_
   refine ha_takeP 34 rfl (r_idx rfl rfl) ?_
   refine ha_take 35 rfl (r_nth rfl (wc_at (by omega))) ?_
   refine ha_one 4 ?_
   refine ho_C 4 rfl ((turn_s _ 6 (by decide)).comes) rfl rfl rfl (fun xx => same) fun _ => ?_
   refine ha_one 7 ?_
   refine ho_C 7 rfl ((turn_s _ 11 (by decide)).comes) rfl rfl rfl (fun xx => same) fun _ => ?_
   refine ha_takeP 8 rfl (r_xor rfl rfl) ?_
   refine ha_one 11 ?_
   refine ho_C 11 rfl ((turn_s _ 25 (by decide)).comes) rfl rfl rfl (fun xx => same) fun _ => ?_
   refine ha_takeP 12 rfl (r_xor rfl rfl) ?_
   refine ha_takeP 13 rfl (r_addW rfl rfl) ?_
   refine ha_takeP 26 rfl (r_addW rfl rfl) ?_
   refine ha_takeP 31 rfl (r_addW rfl rfl) ?_
   refine ha_takeP 36 rfl (r_addW rfl rfl) ?_
   refine ha_takeP 37 rfl (r_assign rfl) ?_
   refine ha_done (by kernel_rfl) ?_
   refine q_then ?_
   refine h_seq ?_
   refine ha_start [.blk g8 (S8.cs v) 252] [] mixed (same) ?_
   refine ha_takeP 0 rfl (r_idxA rfl rfl) ?_
   refine ha_take 1 rfl (r_loadc rfl) ?_
   refine ha_takeP 3 rfl (r_idxA rfl rfl) ?_
   refine ha_take 4 rfl (r_loadc rfl) ?_
   refine ha_takeP 7 rfl (r_idxA rfl rfl) ?_
   refine ha_take 8 rfl (r_loadc rfl) ?_
   refine ha_takeP 11 rfl (r_idxA rfl rfl) ?_
   refine ha_take 12 rfl (r_loadc rfl) ?_
   refine ha_takeP 13 rfl (r_idxA rfl rfl) ?_
   refine ha_take 14 rfl (r_loadc rfl) ?_
   refine ha_takeP 15 rfl (r_and rfl rfl) ?_
   refine ha_takeP 16 rfl (r_idxA rfl rfl) ?_
   refine ha_take 17 rfl (r_loadc rfl) ?_
   refine ha_takeP 18 rfl (r_idxA rfl rfl) ?_
   refine ha_take 19 rfl (r_loadc rfl) ?_
   refine ha_takeP 20 rfl (r_and rfl rfl) ?_
   refine ha_takeP 21 rfl (r_xor rfl rfl) ?_
   refine ha_takeP 22 rfl (r_idxA rfl rfl) ?_
   refine ha_take 23 rfl (r_loadc rfl) ?_
   refine ha_takeP 24 rfl (r_idxA rfl rfl) ?_
   refine ha_take 25 rfl (r_loadc rfl) ?_
   refine ha_takeP 26 rfl (r_and rfl rfl) ?_
   refine ha_takeP 27 rfl (r_xor rfl rfl) ?_
   refine ha_one 2 ?_
   refine ho_C 2 rfl ((turn_s _ 2 (by decide)).comes) rfl rfl rfl (fun xx => same) fun _ => ?_
   refine ha_one 5 ?_
   refine ho_C 5 rfl ((turn_s _ 13 (by decide)).comes) rfl rfl rfl (fun xx => same) fun _ => ?_
   refine ha_takeP 6 rfl (r_xor rfl rfl) ?_
   refine ha_one 9 ?_
   refine ho_C 9 rfl ((turn_s _ 22 (by decide)).comes) rfl rfl rfl (fun xx => same) fun _ => ?_
   refine ha_takeP 10 rfl (r_xor rfl rfl) ?_
   refine ha_takeP 28 rfl (r_addW rfl rfl) ?_
   refine ha_takeP 29 rfl (r_assign rfl) ?_
   refine ha_done (by kernel_rfl) ?_
   refine q_then ?_
   refine h_reg ?_
   refine yM rfl ?_
   refine yM rfl ?_
   refine h_op (r_addW rfl rfl) ?_
   refine h_op (r_idxA rfl rfl) ?_
   refine h_op (r_loadc rfl) ?_
   refine h_op (r_idxA rfl rfl) ?_
   refine h_op (r_loadc rfl) ?_
   refine h_op (r_idxA rfl rfl) ?_
   refine h_op (r_loadc rfl) ?_
   refine h_op (r_idxA rfl rfl) ?_
   refine h_op (r_loadc rfl) ?_
   refine yM rfl ?_
   refine h_op (r_addW rfl rfl) ?_
   refine h_op (r_idxA rfl rfl) ?_
   refine h_op (r_loadc rfl) ?_
   refine h_op (r_idxA rfl rfl) ?_
   refine h_op (r_loadc rfl) ?_
   refine h_op (r_idxA rfl rfl) ?_
   refine h_op (r_loadc rfl) ?_
   refine h_op (r_build rfl) ?_
   refine h_opS (s_storer rfl rfl) ?_
   refine h_nil ?_
   refine q_block ?_
   refine q_then ?_
   change H _ _ _ _ _ (.blk g8 (S8.cs (rnd (K64.getD k 0) (wat b k) v)) _ :: _) _
   rw [← hr1]
   refine h_reg ?_
   refine yM rfl ?_
   refine h_op (r_add rfl rfl) ?_
   refine yS rfl ?_
   refine h_nil ?_
   exact h_back (k + 1, rnds b s0 (k + 1)) ((show k + 1 ≤ 64 ∧ rnds b s0 (k + 1) = rnds b s0 (k + 1) from ⟨by omega, rfl⟩)) ((show 64 - (k + 1) < 64 - k by omega)) ⟨rfl, rfl, rfl, rfl, rfl, rfl, rfl, rfl, trivial⟩ (same)
  ·obtain rfl : k = 64 := by omega
   refine h_exit ?_
   refine q_thenE ?_
   refine q_thenE ?_
   refine q_blockE ?_
   refine q_then ?_
   refine h_seq ?_
   rw [S8.cs_eq, ← addI_0 s0 v]
   refine h_reg ?_
   refine yS rfl ?_
   refine yN ?_
   refine h_block ?_
   refine h_loop (fun (j : Nat) => j ≤ 8) (fun (j : Nat) => [(12, .int .i64 (j : Int)), (8, .pointer (some ⟨g8, 0, none⟩)), (6, .int .i64 ((64 * i : Nat) : Int)), (5, .slice (some ⟨g5, 0, none⟩) q.length c5), (4, .slice (some ⟨g4, 0, none⟩) 64 64), (3, .pointer (some ⟨g3, 0, none⟩)), (2, .pointer (some ⟨g2, 0, none⟩))]) (fun (j : Nat) => [.blk g8 (wc .u32 v.l) 252, .rd (some ⟨g5, 0, none⟩) (bc q), .own (.slice (some ⟨g4, 0, none⟩) 64 64) 64 251 1 (wc .u32 K64), .blk g3 (wc .u32 (addI s0 v j)) 252, .blk g2 zB32.cells 45]) (fun (j : Nat) => 8 - j) 0 (by omega) ⟨rfl, rfl, rfl, rfl, rfl, rfl, rfl, trivial⟩ (same) ?_
   intro j hj
   have hal := addI_len s0 v j
   have hvl : v.l.length = 8 := rfl
   refine h_seq ?_
   refine yR ?_
   refine yM rfl ?_
   refine h_op (r_lss rfl rfl) ?_
   refine yN ?_
   refine h_cond rfl (fun h => ?_) (fun h => ?_)
   ·have hst := addI_set s0 v j (by omega)
    have hg := addI_get s0 v j (by omega)
    refine h_skip ?_
    refine q_then ?_
    refine h_seq ?_
    refine h_block ?_
    refine ha_start [.blk g8 (wc .u32 v.l) 252, .blk g3 (wc .u32 (addI s0 v j)) 252] [] mixed (same) ?_
    refine ha_takeP 0 rfl (r_move rfl) ?_
    refine ha_takeP 1 rfl (r_idxA rfl rfl) ?_
    refine ha_take 2 rfl (r_nth rfl (wc_at (by omega))) ?_
    refine ha_takeP 3 rfl (r_move rfl) ?_
    refine ha_takeP 4 rfl (r_idxA rfl rfl) ?_
    refine ha_take 5 rfl (r_nth rfl (wc_at (by omega))) ?_
    refine ha_takeP 6 rfl (r_addW rfl rfl) ?_
    refine ha_takeP 7 rfl (r_idxA rfl rfl) ?_
    refine ha_one 8 ?_
    refine ho_SL 8 rfl (s_setW rfl rfl) ?_
    refine q_block ?_
    refine q_then ?_
    rw [hg, hst]
    refine h_reg ?_
    refine yM rfl ?_
    refine h_op (r_add rfl rfl) ?_
    refine yS rfl ?_
    refine h_nil ?_
    exact h_back (j + 1) (by omega) (by omega) ⟨rfl, rfl, rfl, rfl, rfl, rfl, rfl, trivial⟩ (same)
   ·obtain rfl : j = 8 := by omega
    rw [addI_8, hv, show S8.add s0 (rnds b s0 64) = comp b s0 from rfl, ← hcmp]
    refine h_exit ?_
    refine q_thenE ?_
    refine q_thenE ?_
    refine q_blockE ?_
    refine q_block ?_
    refine q_then ?_
    refine h_reg ?_
    refine yM rfl ?_
    refine h_op (r_add rfl rfl) ?_
    refine yS rfl ?_
    refine h_nil ?_
    exact h_back (i + 1) (by omega) (by omega) ⟨aI rfl (by omega), rfl, rfl, rfl, rfl, trivial⟩ (same)
 ·refine h_exit ?_
  refine q_thenE ?_
  refine q_thenE ?_
  refine q_blockE ?_
  refine q_then ?_
  refine yR ?_
  refine h_opX (x_alloc) fun g13 => ?_
  refine yN ?_
  refine h_seq ?_
  refine yR ?_
  refine yS rfl ?_
  refine yN ?_
  refine h_block ?_
  obtain rfl : i = m := by omega
  rw [← hbl, List.take_length]
  generalize comps (blks q) H0 = s0 at *
  change H _ _ _ _ _ (.blk g13 (bc ((List.range 0).map (outB s0) ++ List.replicate (32 - 0) 0)) _ :: _) _
  refine h_loop (fun (j : Nat) => j ≤ 32) (fun (j : Nat) => [(14, .int .i64 (j : Int)), (13, .pointer (some ⟨g13, 0, none⟩)), (3, .pointer (some ⟨g3, 0, none⟩)), (2, .pointer (some ⟨g2, 0, none⟩))]) (fun (j : Nat) => [.blk g13 (bc ((List.range j).map (outB s0) ++ List.replicate (32 - j) 0)) 45, .blk g3 (wc .u32 s0.l) 252, .blk g2 zB32.cells 45]) (fun (j : Nat) => 32 - j) 0 (by omega) ⟨rfl, rfl, rfl, rfl, trivial⟩ (same) ?_
  intro j hj
  have hfl := fill_len (outB s0) 0 32 j hj
  have hsl : s0.l.length = 8 := rfl
  refine h_seq ?_
  refine yR ?_
  refine yM rfl ?_
  refine h_op (r_lss rfl rfl) ?_
  refine yN ?_
  refine h_cond rfl (fun h => ?_) (fun h => ?_)
  ·have hst := fill_set (outB s0) 0 32 j (by omega)
   refine h_skip ?_
   refine q_then ?_
   refine h_seq ?_
   refine h_block ?_
   refine h_reg ?_
   refine yM rfl ?_
   refine yM rfl ?_
   refine h_op (r_quo rfl rfl) ?_
   refine h_op (r_idxA rfl rfl) ?_
   refine h_op (r_nth rfl (wc_at (by omega))) ?_
   refine yM rfl ?_
   refine h_op (r_rem rfl rfl) ?_
   refine h_op (r_mul rfl rfl) ?_
   refine h_op (r_sub rfl rfl) ?_
   refine h_op (r_cP (q := 24 - 8 * (j % 4)) rfl (by omega) (by omega)) ?_
   refine h_op (r_shr rfl rfl) ?_
   refine h_op (r_cW rfl) ?_
   refine h_op (r_idxA rfl rfl) ?_
   refine h_opS (s_setB rfl rfl) ?_
   refine h_nil ?_
   refine q_block ?_
   refine q_then ?_
   rw [outB_eq, hst]
   refine h_reg ?_
   refine yM rfl ?_
   refine h_op (r_add rfl rfl) ?_
   refine yS rfl ?_
   refine h_nil ?_
   exact h_back (j + 1) (by omega) (by omega) ⟨rfl, rfl, rfl, rfl, trivial⟩ (same)
  ·obtain rfl : j = 32 := by omega
   rw [fill_end]
   change H _ _ _ _ _ (.blk g13 (bc (outL s0)) _ :: _) _
   refine h_exit ?_
   refine q_thenE ?_
   refine q_thenE ?_
   refine q_blockE ?_
   refine q_then ?_
   refine yR ?_
   refine h_op (r_loadr rfl) ?_
   refine h_opS (s_storer rfl rfl) ?_
   refine yN ?_
   refine h_ret ?_
   exact h_ret1 rfl (rv_row rfl) fun w s => ⟨(), rfl, s.res (List.nil_sublist _) (by simp)⟩
end Go.Proofs.YtjhlbbgikccclaaGreatDoor
/- U5 -/
namespace Go.Proofs.YtjhlbbgikccclaaGreatDoor
open Go.RowKit
theorem ic_one (l : List Nat) : ∀ v ∈ ic l, v.oneCell' = true := by
 intro v hv
 obtain ⟨x, _, rfl⟩ := List.mem_map.1 hv
 rfl
theorem idxd_len : ∀ (l : List Value) (k : Nat), (idxd k l).length = l.length
 | [], _ => rfl
 | _ :: l, k => by rw [idxd, List.length_cons, List.length_cons, idxd_len l]
theorem x_bslI {P : Program} {A : List Fa} {W : World} {n : Nat} {D : List Deferred} {E : Env} {L : List Fa} {t e m bytes : Nat} {z : Value} [E' : TS P t e 1 bytes z] {l : List (Nat × Operand)} (xs : List Nat) (hv : evp E l = some (idxd 0 (ic xs))) (hm : xs.length = m := by rfl) (h0 : 0 < m ∧ m * 1 ≤ 16777216 := by decide) :
  RunsX P A W n D E L (.buildSlice t m l.toArray) (fun g : Nat => .slice (some ⟨g, 0, none⟩) m m) (fun g => .own (.slice (some ⟨g, 0, none⟩) m m) m e 1 (ic xs) :: L) :=
 x_bsl (E' := E') hv (by rw [idxd_len, ic_len, hm]) (hf := parts_idxd _ 0 (ic_one _)) (ho := ⟨by rw [ic_len, hm], ic_one _⟩) (Nat.mul_one _) h0
def acc (l : List UInt8) (i : Nat) : Nat → W32
 | 0 => 0
 | j + 1 => (acc l i j <<< 8) ||| (l.getD (4 * i + j) 0).toBitVec.setWidth 32
theorem acc_4 (l : List UInt8) (i : Nat) : acc l i 4 = wrd l i := by
 unfold wrd
 simp only [acc, BitVec.ofNat_eq_ofNat, BitVec.zero_shiftLeft, BitVec.zero_or, BitVec.shiftLeft_or_distrib, ← BitVec.shiftLeft_add, Nat.reduceAdd, Nat.add_zero]
def winI (l : List UInt8) (i : Nat) : List W32 := (List.range i).map (wrd l) ++ List.replicate (16 - i) 0
def winP (l : List UInt8) (i j : Nat) : List W32 := (List.range i).map (wrd l) ++ acc l i j :: List.replicate (15 - i) 0
theorem winP_0 (l : List UInt8) (i : Nat) (h : i < 16) : winI l i = winP l i 0 := by
 unfold winI winP
 rw [show 16 - i = (15 - i) + 1 by omega, List.replicate_succ]
 rfl
theorem winP_4 (l : List UInt8) (i : Nat) (h : i < 16) : winP l i 4 = winI l (i + 1) := by
 unfold winI winP
 rw [acc_4, List.range_succ, List.map_append, List.append_assoc, show 16 - (i + 1) = 15 - i by omega]
 rfl
theorem winP_len (l : List UInt8) (i j : Nat) (h : i < 16) : (winP l i j).length = 16 := by simp [winP]; omega
theorem winP_get (l : List UInt8) (i j : Nat) : (winP l i j).getD i 0 = acc l i j := by
 unfold winP
 rw [List.getD, List.getElem?_append_right (by simp)]
 simp
theorem winP_set (l : List UInt8) (i j : Nat) : (winP l i j).set i ((acc l i j <<< 8) ||| (l.getD (4 * i + j) 0).toBitVec.setWidth 32) = winP l i (j + 1) := by
 unfold winP
 rw [List.set_append_right _ _ (by simp)]
 simp [acc]
def Win (l : List UInt8) (r : Nat) (w : List W32) : Prop := w.length = 16 ∧ ∀ t, t < max r 16 → max r 16 ≤ t + 16 → w.getD (t % 16) 0 = wat l t
theorem win_0 (l : List UInt8) : Win l 0 (winI l 16) := by
 refine ⟨by simp [winI], fun t h1 _ => ?_⟩
 have h3 : t < 16 := by simpa using h1
 rw [Nat.mod_eq_of_lt h3, wat_lo h3]
 unfold winI
 rw [List.getD, List.getElem?_append_left (by simpa using h3), List.getElem?_map, List.getElem?_range h3]
 rfl
def nextI (w : List W32) (r : Nat) : W32 := w.getD (r % 16) 0 + (((xorl (w.getD ((r + 1) % 16) 0) [7, 18] ^^^ (w.getD ((r + 1) % 16) 0 >>> 3)) + w.getD ((r + 9) % 16) 0) + (xorl (w.getD ((r + 14) % 16) 0) [17, 19] ^^^ (w.getD ((r + 14) % 16) 0 >>> 10)))
theorem nextI_eq {l : List UInt8} {w : List W32} {r : Nat} (h : Win l r w) (h1 : 16 ≤ r) (h2 : r < 64) : nextI w r = wat l r := by
 unfold nextI
 rw [xorl2, xorl2, show r % 16 = (r - 16) % 16 by omega, show (r + 1) % 16 = (r - 15) % 16 by omega, show (r + 9) % 16 = (r - 7) % 16 by omega, show (r + 14) % 16 = (r - 2) % 16 by omega,
  h.2 (r - 16) (by omega) (by omega), h.2 (r - 15) (by omega) (by omega), h.2 (r - 7) (by omega) (by omega), h.2 (r - 2) (by omega) (by omega), wat_hi h1 h2]
 unfold sg0 sg1
 generalize wat l (r - 16) = a
 generalize (rotr (wat l (r - 15)) 7 ^^^ rotr (wat l (r - 15)) 18) ^^^ wat l (r - 15) >>> 3 = b
 generalize (rotr (wat l (r - 2)) 17 ^^^ rotr (wat l (r - 2)) 19) ^^^ wat l (r - 2) >>> 10 = c
 rw [BitVec.add_assoc, BitVec.add_assoc, BitVec.add_assoc]
theorem win_hi {l : List UInt8} {w : List W32} {r : Nat} (h : Win l r w) (h1 : 16 ≤ r) (h2 : r < 64) : Win l (r + 1) (w.set (r % 16) (nextI w r)) := by
 refine ⟨by rw [List.length_set]; exact h.1, fun t h3 h4 => ?_⟩
 have hl := h.1
 by_cases e : t = r
 ·subst e
  rw [List.getD, List.getElem?_set, if_pos rfl, if_pos (by omega), nextI_eq h h1 h2, Option.getD_some]
 ·rw [List.getD, List.getElem?_set, if_neg (by omega)]
  exact h.2 t (by omega) (by omega)
theorem win_lo {l : List UInt8} {w : List W32} {r : Nat} (h : Win l r w) (h1 : r < 16) : Win l (r + 1) w := ⟨h.1, fun t h3 h4 => h.2 t (by omega) (by omega)⟩
theorem win_at {l : List UInt8} {w : List W32} {r : Nat} (h : Win l (r + 1) w) : w.getD (r % 16) 0 = wat l r := h.2 r (by omega) (by omega)
theorem t1_eq (k w : W32) (v : S8) : (((v.h + xorl v.e [6, 11, 25]) + (v.g ^^^ (v.e &&& (v.f ^^^ v.g)))) + k) + w = t1 k w v := by
 rw [xorl3, ch_eq]; rfl
theorem t2_eq (t : W32) (v : S8) : (t + xorl v.a [2, 13, 22]) + ((v.a &&& v.b) ||| (v.c &&& (v.a ||| v.b))) = t + t2 v := by
 rw [xorl3, maj_eq, BitVec.add_assoc]; rfl
theorem take_s (l : List UInt8) (s : S8) (gs b o c : Nat) (hl : l.length = 64) (hc : 64 ≤ c) : Spec Tryz.prog 222 [.pointer (some ⟨gs, 0, none⟩), .slice (some ⟨b, o, none⟩) 64 c].toArray [.rd (some ⟨b, o, none⟩) (bc l), .rd (some ⟨1, 0, none⟩) (wc .u32 K64)] [.blk gs (S8.cs s) 358] (fun _ : Unit => .tuple #[]) (fun _ => [.blk gs (S8.cs (comp l s)) 358]) := by
 have hK := K64_len
 refine spec_of Tryz.func222 rfl (n := 192) rfl rfl ?_
 intro W
 refine yR ?_
 refine h_opX (x_alloc) fun g4 => ?_
 refine yN ?_
 refine h_seq ?_
 refine yR ?_
 refine yM rfl ?_
 refine yN ?_
 refine h_block ?_
 change H _ _ _ _ _ (.blk g4 (wc .u32 (winI l 0)) _ :: _) _
 refine h_loop (fun (i : Nat) => i ≤ 16) (fun (i : Nat) => [(24, .int .i64 (i : Int)), (4, .pointer (some ⟨g4, 0, none⟩)), (1, .slice (some ⟨b, o, none⟩) 64 c), (0, .pointer (some ⟨gs, 0, none⟩))]) (fun (i : Nat) => [.blk g4 (wc .u32 (winI l i)) 390, .blk gs (S8.cs s) 358, .rd (some ⟨b, o, none⟩) (bc l), .rd (some ⟨1, 0, none⟩) (wc .u32 K64)]) (fun (i : Nat) => 16 - i) 0 (by omega) ⟨rfl, rfl, rfl, rfl, trivial⟩ (same) ?_
 intro i hi
 refine yR ?_
 refine h_op (r_lss rfl rfl) ?_
 refine yN ?_
 refine h_seq ?_
 refine h_cond rfl (fun h => ?_) (fun h => ?_)
 ·refine h_skip ?_
  refine q_then ?_
  refine h_seq ?_
  refine h_block ?_
  refine yR ?_
  refine yM rfl ?_
  refine yS rfl ?_
  refine yN ?_
  refine yR ?_
  refine yM rfl ?_
  refine yM rfl ?_
  refine h_op (r_mul rfl rfl) ?_
  refine yM rfl ?_
  refine h_op (r_mul rfl rfl) ?_
  refine h_op (r_add rfl rfl) ?_
  refine h_op (r_slLHb rfl rfl rfl (m := 4)) ?_
  refine h_op (r_len rfl) ?_
  refine yM rfl ?_
  refine yN ?_
  refine h_block ?_
  rw [winP_0 l i (by omega)]
  refine h_loop (fun (j : Nat) => j ≤ 4) (fun (j : Nat) => [(35, .int .i64 (j : Int)), (34, .int .i64 4), (33, .slice (some ⟨b, o + 4 * i, none⟩) 4 (c - 4 * i)), (5, .int .i64 (i : Int)), (24, .int .i64 (i : Int)), (4, .pointer (some ⟨g4, 0, none⟩)), (1, .slice (some ⟨b, o, none⟩) 64 c), (0, .pointer (some ⟨gs, 0, none⟩))]) (fun (j : Nat) => [.blk g4 (wc .u32 (winP l i j)) 390, .blk gs (S8.cs s) 358, .rd (some ⟨b, o, none⟩) (bc l), .rd (some ⟨1, 0, none⟩) (wc .u32 K64)]) (fun (j : Nat) => 4 - j) 0 (by omega) ⟨rfl, rfl, rfl, rfl, rfl, rfl, rfl, rfl, trivial⟩ (same) ?_
  intro j hj
  have hwl := winP_len l i j (by omega)
  refine yR ?_
  refine h_op (r_lss rfl rfl) ?_
  refine yN ?_
  refine h_seq ?_
  refine h_cond rfl (fun h => ?_) (fun h => ?_)
  ·refine h_skip ?_
   refine q_then ?_
   refine h_seq ?_
   refine h_block ?_
   refine yR ?_
   refine h_op (r_idx rfl rfl (O' := o + (4 * i + j)) (hO := by omega)) ?_
   refine h_op (r_nth rfl (bc_at' (by omega))) ?_
   refine yS rfl ?_
   refine yN ?_
   refine h_reg ?_
   refine yM rfl ?_
   refine yM rfl ?_
   refine h_op (r_idxA rfl rfl) ?_
   refine h_op (r_nth rfl (wc_at (by omega))) ?_
   refine h_op (r_shl rfl rfl) ?_
   refine yM rfl ?_
   refine h_op (r_cW rfl) ?_
   refine h_op (r_or rfl rfl) ?_
   refine h_op (r_idxA rfl rfl) ?_
   refine h_opS (s_setW rfl rfl) ?_
   refine h_nil ?_
   refine q_block ?_
   refine q_then ?_
   rw [winP_get, winP_set]
   refine h_reg ?_
   refine h_op (r_add rfl rfl) ?_
   refine yM rfl ?_
   refine h_nil ?_
   exact h_back (j + 1) (by omega) (by omega) ⟨rfl, rfl, rfl, rfl, rfl, rfl, rfl, rfl, trivial⟩ (same)
  ·obtain rfl : j = 4 := by omega
   rw [winP_4 l i (by omega)]
   refine h_exit ?_
   refine q_thenE ?_
   refine q_thenE ?_
   refine q_blockE ?_
   refine q_block ?_
   refine q_then ?_
   refine h_reg ?_
   refine h_op (r_add rfl rfl) ?_
   refine yM rfl ?_
   refine h_nil ?_
   exact h_back (i + 1) (by omega) (by omega) ⟨rfl, rfl, rfl, rfl, trivial⟩ (same)
 ·obtain rfl : i = 16 := by omega
  refine h_exit ?_
  refine q_thenE ?_
  refine q_thenE ?_
  refine q_blockE ?_
  refine q_then ?_
  refine h_seq ?_
  refine ha_start [.blk gs (S8.cs s) 358] [] mixed (same) ?_
  refine ha_takeP 0 rfl (r_move rfl) ?_
  refine ha_takeP 1 rfl (r_nilc rfl) ?_
  refine ha_takeP 2 rfl (r_idxA rfl rfl) ?_
  refine ha_take 3 rfl (r_loadc rfl) ?_
  refine ha_takeP 4 rfl (r_move rfl) ?_
  refine ha_takeP 5 rfl (r_nilc rfl) ?_
  refine ha_takeP 6 rfl (r_idxA rfl rfl) ?_
  refine ha_take 7 rfl (r_loadc rfl) ?_
  refine ha_takeP 8 rfl (r_move rfl) ?_
  refine ha_takeP 9 rfl (r_nilc rfl) ?_
  refine ha_takeP 10 rfl (r_idxA rfl rfl) ?_
  refine ha_take 11 rfl (r_loadc rfl) ?_
  refine ha_takeP 12 rfl (r_move rfl) ?_
  refine ha_takeP 13 rfl (r_nilc rfl) ?_
  refine ha_takeP 14 rfl (r_idxA rfl rfl) ?_
  refine ha_take 15 rfl (r_loadc rfl) ?_
  refine ha_takeP 16 rfl (r_move rfl) ?_
  refine ha_takeP 17 rfl (r_nilc rfl) ?_
  refine ha_takeP 18 rfl (r_idxA rfl rfl) ?_
  refine ha_take 19 rfl (r_loadc rfl) ?_
  refine ha_takeP 20 rfl (r_move rfl) ?_
  refine ha_takeP 21 rfl (r_nilc rfl) ?_
  refine ha_takeP 22 rfl (r_idxA rfl rfl) ?_
  refine ha_take 23 rfl (r_loadc rfl) ?_
  refine ha_takeP 24 rfl (r_move rfl) ?_
  refine ha_takeP 25 rfl (r_nilc rfl) ?_
  refine ha_takeP 26 rfl (r_idxA rfl rfl) ?_
  refine ha_take 27 rfl (r_loadc rfl) ?_
  refine ha_takeP 28 rfl (r_move rfl) ?_
  refine ha_takeP 29 rfl (r_nilc rfl) ?_
  refine ha_takeP 30 rfl (r_idxA rfl rfl) ?_
  refine ha_take 31 rfl (r_loadc rfl) ?_
  refine ha_takeP 32 rfl (r_assign rfl) ?_
  refine ha_takeP 33 rfl (r_assign rfl) ?_
  refine ha_takeP 34 rfl (r_assign rfl) ?_
  refine ha_takeP 35 rfl (r_assign rfl) ?_
  refine ha_takeP 36 rfl (r_assign rfl) ?_
  refine ha_takeP 37 rfl (r_assign rfl) ?_
  refine ha_takeP 38 rfl (r_assign rfl) ?_
  refine ha_takeP 39 rfl (r_assign rfl) ?_
  refine ha_done (by kernel_rfl) ?_
  refine q_then ?_
  refine h_seq ?_
  refine yR ?_
  refine h_op (r_loadr rfl) ?_
  refine yM rfl ?_
  refine yN ?_
  refine h_block ?_
  refine h_loop (fun (u : Nat × List W32 × S8) => u.1 ≤ 64 ∧ Win l u.1 u.2.1 ∧ u.2.2 = rnds l s u.1) (fun (u : Nat × List W32 × S8) => [(83, .int .i64 (u.1 : Int)), (82, .agg (wc .u32 K64).toArray), (8, .int .u32 (u.2.2.a.toNat : Int)), (9, .int .u32 (u.2.2.b.toNat : Int)), (10, .int .u32 (u.2.2.c.toNat : Int)), (11, .int .u32 (u.2.2.d.toNat : Int)), (12, .int .u32 (u.2.2.e.toNat : Int)), (13, .int .u32 (u.2.2.f.toNat : Int)), (14, .int .u32 (u.2.2.g.toNat : Int)), (15, .int .u32 (u.2.2.h.toNat : Int)), (4, .pointer (some ⟨g4, 0, none⟩)), (0, .pointer (some ⟨gs, 0, none⟩))]) (fun (u : Nat × List W32 × S8) => [.blk g4 (wc .u32 u.2.1) 390, .blk gs (S8.cs s) 358, .rd (some ⟨1, 0, none⟩) (wc .u32 K64)]) (fun (u : Nat × List W32 × S8) => 64 - u.1) (0, winI l 16, rnds l s 0) ((show 0 ≤ 64 ∧ Win l 0 (winI l 16) ∧ rnds l s 0 = rnds l s 0 from ⟨by decide, win_0 l, rfl⟩)) ⟨rfl, rfl, rfl, rfl, rfl, rfl, rfl, rfl, rfl, rfl, rfl, rfl, trivial⟩ (same) ?_
  rintro ⟨r, w, v⟩ ⟨hr, hw, hv⟩
  dsimp only at hr hw hv ⊢
  have hwl := hw.1
  have hr1 := rnds_s l s r
  rw [← hv] at hr1
  refine yR ?_
  refine h_op (r_lss rfl rfl) ?_
  refine yN ?_
  refine h_seq ?_
  refine h_cond rfl (fun h => ?_) (fun h => ?_)
  ·refine h_skip ?_
   refine q_then ?_
   refine h_seq ?_
   refine h_block ?_
   refine yR ?_
   refine yM rfl ?_
   refine h_op (r_ixc rfl rfl (wc_at (by omega))) ?_
   refine yS rfl ?_
   refine yS rfl ?_
   refine yN ?_
   refine yR ?_
   refine yM rfl ?_
   refine h_op (r_rem rfl rfl) ?_
   refine yS rfl ?_
   refine yN ?_
   refine h_seq ?_
   refine yR ?_
   refine yM rfl ?_
   refine h_op (r_geq rfl rfl) ?_
   refine yN ?_
   refine h_cond rfl (fun h2 => ?_) (fun h2 => ?_)
   ·refine h_seq ?_
    refine ha_start [.blk g4 (wc .u32 w) 390] [] mixed (same) ?_
    refine ha_takeP 0 rfl (r_move rfl) ?_
    refine ha_takeP 1 rfl (r_add rfl rfl) ?_
    refine ha_takeP 2 rfl (r_rem rfl rfl) ?_
    refine ha_takeP 3 rfl (r_idxA rfl rfl) ?_
    refine ha_take 4 rfl (r_nth rfl (wc_at (by omega))) ?_
    refine ha_takeP 5 rfl (r_move rfl) ?_
    refine ha_takeP 6 rfl (r_add rfl rfl) ?_
    refine ha_takeP 7 rfl (r_rem rfl rfl) ?_
    refine ha_takeP 8 rfl (r_idxA rfl rfl) ?_
    refine ha_take 9 rfl (r_nth rfl (wc_at (by omega))) ?_
    refine ha_takeP 10 rfl (r_assign rfl) ?_
    refine ha_takeP 11 rfl (r_assign rfl) ?_
    refine ha_done (by kernel_rfl) ?_
    refine q_then ?_
    refine h_join (fun (_ : Unit) => [(83, .int .i64 (r : Int)), (82, .agg (wc .u32 K64).toArray), (16, .int .i64 (r : Int)), (17, .int .u32 ((K64.getD r 0).toNat : Int)), (18, .int .i64 ((r : Int) % 16)), (8, .int .u32 (v.a.toNat : Int)), (9, .int .u32 (v.b.toNat : Int)), (10, .int .u32 (v.c.toNat : Int)), (11, .int .u32 (v.d.toNat : Int)), (12, .int .u32 (v.e.toNat : Int)), (13, .int .u32 (v.f.toNat : Int)), (14, .int .u32 (v.g.toNat : Int)), (15, .int .u32 (v.h.toNat : Int)), (4, .pointer (some ⟨g4, 0, none⟩)), (0, .pointer (some ⟨gs, 0, none⟩))]) (fun (_ : Unit) => [.blk g4 (wc .u32 (w.set (r % 16) (w.getD (r % 16) 0 + (((xorl (w.getD ((r + 1) % 16) 0) [7, 18] ^^^ (w.getD ((r + 1) % 16) 0 >>> 3)) + w.getD ((r + 9) % 16) 0) + (xorl (w.getD ((r + 14) % 16) 0) [17, 19] ^^^ (w.getD ((r + 14) % 16) 0 >>> 10)))))) 390, .blk gs (S8.cs s) 358, .rd (some ⟨1, 0, none⟩) (wc .u32 K64)]) (fun kk => ?_) ?_
    ·refine ha_start [.blk g4 (wc .u32 w) 390] [] mixed (same) ?_
     refine ha_takeP 0 rfl (r_move rfl) ?_
     refine ha_takeP 1 rfl (r_idxA rfl rfl) ?_
     refine ha_take 2 rfl (r_nth rfl (wc_at (by omega))) ?_
     refine ha_takeP 3 rfl (r_move rfl) ?_
     refine ha_takeP 6 rfl (r_move rfl) ?_
     refine ha_takeP 7 rfl (r_shr rfl rfl) ?_
     refine ha_takeP 9 rfl (r_move rfl) ?_
     refine ha_takeP 10 rfl (r_add rfl rfl) ?_
     refine ha_takeP 11 rfl (r_rem rfl rfl) ?_
     refine ha_takeP 12 rfl (r_idxA rfl rfl) ?_
     refine ha_take 13 rfl (r_nth rfl (wc_at (by omega))) ?_
     refine ha_takeP 15 rfl (r_move rfl) ?_
     refine ha_takeP 18 rfl (r_move rfl) ?_
     refine ha_takeP 19 rfl (r_shr rfl rfl) ?_
     refine ha_two 4 16 ?_ ?_
     ·refine ho_X 4 rfl (rk (x_bslI [7, 18] rfl)) (fun _ => same) fun g105 => ?_
      refine ha_two 5 16 ?_ ?_
      ·refine ho_C 5 rfl ((right_s _ [7, 18] (by decide) g105 0 2 (by decide)).comes) rfl rfl rfl (fun xx => same) fun _ => ?_
       refine ha_takeP 8 rfl (r_xor rfl rfl) ?_
       refine ha_takeP 14 rfl (r_addW rfl rfl) ?_
       refine ha_one 16 ?_
       refine ho_X 16 rfl (rk (x_bslI [17, 19] rfl)) (fun _ => same) fun g117 => ?_
       refine ha_one 17 ?_
       refine ho_C 17 rfl ((right_s _ [17, 19] (by decide) g117 0 2 (by decide)).comes) rfl rfl rfl (fun xx => same) fun _ => ?_
       refine ha_takeP 20 rfl (r_xor rfl rfl) ?_
       refine ha_takeP 21 rfl (r_addW rfl rfl) ?_
       refine ha_takeP 22 rfl (r_addW rfl rfl) ?_
       refine ha_takeP 23 rfl (r_idxA rfl rfl) ?_
       refine ha_one 24 ?_
       refine ho_SL 24 rfl (s_setW rfl rfl) ?_
       exact h_K (kk ()) (⟨rfl, rfl, rfl, rfl, rfl, rfl, rfl, rfl, rfl, rfl, rfl, rfl, rfl, rfl, rfl, trivial⟩) same
      ·refine ho_X 16 rfl (rk (x_bslI [17, 19] rfl)) (fun _ => same) fun g117 => ?_
       refine ha_one 5 ?_
       refine ho_C 5 rfl ((right_s _ [7, 18] (by decide) g105 0 2 (by decide)).comes) rfl rfl rfl (fun xx => same) fun _ => ?_
       refine ha_takeP 8 rfl (r_xor rfl rfl) ?_
       refine ha_takeP 14 rfl (r_addW rfl rfl) ?_
       refine ha_one 17 ?_
       refine ho_C 17 rfl ((right_s _ [17, 19] (by decide) g117 0 2 (by decide)).comes) rfl rfl rfl (fun xx => same) fun _ => ?_
       refine ha_takeP 20 rfl (r_xor rfl rfl) ?_
       refine ha_takeP 21 rfl (r_addW rfl rfl) ?_
       refine ha_takeP 22 rfl (r_addW rfl rfl) ?_
       refine ha_takeP 23 rfl (r_idxA rfl rfl) ?_
       refine ha_one 24 ?_
       refine ho_SL 24 rfl (s_setW rfl rfl) ?_
       exact h_K (kk ()) (⟨rfl, rfl, rfl, rfl, rfl, rfl, rfl, rfl, rfl, rfl, rfl, rfl, rfl, rfl, rfl, trivial⟩) same
     ·refine ho_X 16 rfl (rk (x_bslI [17, 19] rfl)) (fun _ => same) fun g117 => ?_
      refine ha_one 4 ?_
      refine ho_X 4 rfl (rk (x_bslI [7, 18] rfl)) (fun _ => same) fun g105 => ?_
      refine ha_one 5 ?_
      refine ho_C 5 rfl ((right_s _ [7, 18] (by decide) g105 0 2 (by decide)).comes) rfl rfl rfl (fun xx => same) fun _ => ?_
      refine ha_takeP 8 rfl (r_xor rfl rfl) ?_
      refine ha_takeP 14 rfl (r_addW rfl rfl) ?_
      refine ha_one 17 ?_
      refine ho_C 17 rfl ((right_s _ [17, 19] (by decide) g117 0 2 (by decide)).comes) rfl rfl rfl (fun xx => same) fun _ => ?_
      refine ha_takeP 20 rfl (r_xor rfl rfl) ?_
      refine ha_takeP 21 rfl (r_addW rfl rfl) ?_
      refine ha_takeP 22 rfl (r_addW rfl rfl) ?_
      refine ha_takeP 23 rfl (r_idxA rfl rfl) ?_
      refine ha_one 24 ?_
      refine ho_SL 24 rfl (s_setW rfl rfl) ?_
      exact h_K (kk ()) (⟨rfl, rfl, rfl, rfl, rfl, rfl, rfl, rfl, rfl, rfl, rfl, rfl, rfl, rfl, rfl, trivial⟩) same
    rintro _
    refine q_then ?_
    refine h_seq ?_
    change H _ _ _ _ _ (.blk g4 (wc .u32 (w.set (r % 16) (nextI w r))) _ :: _) _
    have hw2 := win_hi hw (by omega) (by omega)
    have hwe := win_at hw2
    have hwl2 := hw2.1
    have h18 := t1_eq (K64.getD r 0) (wat l r) v
    have h20 := t2_eq (t1 (K64.getD r 0) (wat l r) v) v
    refine ha_start [.blk g4 (wc .u32 (w.set (r % 16) (nextI w r))) 390] [] mixed (same) ?_
    refine ha_takeP 0 rfl (r_move rfl) ?_
    refine ha_takeP 1 rfl (r_move rfl) ?_
    refine ha_takeP 5 rfl (r_move rfl) ?_
    refine ha_takeP 6 rfl (r_move rfl) ?_
    refine ha_takeP 7 rfl (r_move rfl) ?_
    refine ha_takeP 8 rfl (r_move rfl) ?_
    refine ha_takeP 9 rfl (r_xor rfl rfl) ?_
    refine ha_takeP 10 rfl (r_and rfl rfl) ?_
    refine ha_takeP 11 rfl (r_xor rfl rfl) ?_
    refine ha_takeP 13 rfl (r_move rfl) ?_
    refine ha_takeP 15 rfl (r_move rfl) ?_
    refine ha_takeP 16 rfl (r_idxA rfl rfl) ?_
    refine ha_take 17 rfl (r_nth rfl (wc_at (by omega))) ?_
    refine ha_one 2 ?_
    refine ho_X 2 rfl (rk (x_bslI [6, 11, 25] rfl)) (fun _ => same) fun g127 => ?_
    refine ha_one 3 ?_
    refine ho_C 3 rfl ((right_s _ [6, 11, 25] (by decide) g127 0 3 (by decide)).comes) rfl rfl rfl (fun xx => same) fun _ => ?_
    refine ha_takeP 4 rfl (r_addW rfl rfl) ?_
    refine ha_takeP 12 rfl (r_addW rfl rfl) ?_
    refine ha_takeP 14 rfl (r_addW rfl rfl) ?_
    refine ha_takeP 18 rfl (r_addW rfl rfl) ?_
    refine ha_takeP 19 rfl (r_assign rfl) ?_
    refine ha_done (by kernel_rfl) ?_
    refine q_then ?_
    rw [hwe, h18]
    refine yR ?_
    refine yM rfl ?_
    refine yM rfl ?_
    refine yM rfl ?_
    refine yM rfl ?_
    refine yM rfl ?_
    refine h_op (r_addW rfl rfl) ?_
    refine yS rfl ?_
    refine yS rfl ?_
    refine yS rfl ?_
    refine yS rfl ?_
    refine yN ?_
    refine h_reg ?_
    refine yM rfl ?_
    refine yM rfl ?_
    refine yM rfl ?_
    refine yM rfl ?_
    refine yM rfl ?_
    refine h_opX (x_bslI [2, 13, 22] rfl) fun g155 => ?_
    refine h_call ((right_s _ [2, 13, 22] (by decide) g155 0 3 (by decide)).comes) rfl rfl rfl fun _ => ?_
    refine h_op (r_addW rfl rfl) ?_
    refine yM rfl ?_
    refine yM rfl ?_
    refine h_op (r_and rfl rfl) ?_
    refine yM rfl ?_
    refine yM rfl ?_
    refine yM rfl ?_
    refine h_op (r_or rfl rfl) ?_
    refine h_op (r_and rfl rfl) ?_
    refine h_op (r_or rfl rfl) ?_
    refine h_op (r_addW rfl rfl) ?_
    refine yS rfl ?_
    refine yS rfl ?_
    refine yS rfl ?_
    refine yS rfl ?_
    refine h_nil ?_
    refine q_block ?_
    refine q_then ?_
    rw [h20]
    refine h_reg ?_
    refine h_op (r_add rfl rfl) ?_
    refine yM rfl ?_
    refine h_nil ?_
    exact h_back (r + 1, (w.set (r % 16) (nextI w r)), rnd (K64.getD r 0) (wat l r) v) ((show r + 1 ≤ 64 ∧ Win l (r + 1) (w.set (r % 16) (nextI w r)) ∧ rnd (K64.getD r 0) (wat l r) v = rnds l s (r + 1) from ⟨by omega, hw2, hr1.symm⟩)) ((show 64 - (r + 1) < 64 - r by omega)) ⟨rfl, rfl, rfl, rfl, rfl, rfl, rfl, rfl, rfl, rfl, rfl, rfl, trivial⟩ (same)
   ·refine h_skip ?_
    refine q_then ?_
    refine h_seq ?_
    have hw2 := win_lo hw (by omega)
    have hwe := win_at hw2
    have h18 := t1_eq (K64.getD r 0) (wat l r) v
    have h20 := t2_eq (t1 (K64.getD r 0) (wat l r) v) v
    refine ha_start [.blk g4 (wc .u32 w) 390] [] mixed (same) ?_
    refine ha_takeP 0 rfl (r_move rfl) ?_
    refine ha_takeP 1 rfl (r_move rfl) ?_
    refine ha_takeP 5 rfl (r_move rfl) ?_
    refine ha_takeP 6 rfl (r_move rfl) ?_
    refine ha_takeP 7 rfl (r_move rfl) ?_
    refine ha_takeP 8 rfl (r_move rfl) ?_
    refine ha_takeP 9 rfl (r_xor rfl rfl) ?_
    refine ha_takeP 10 rfl (r_and rfl rfl) ?_
    refine ha_takeP 11 rfl (r_xor rfl rfl) ?_
    refine ha_takeP 13 rfl (r_move rfl) ?_
    refine ha_takeP 15 rfl (r_move rfl) ?_
    refine ha_takeP 16 rfl (r_idxA rfl rfl) ?_
    refine ha_take 17 rfl (r_nth rfl (wc_at (by omega))) ?_
    refine ha_one 2 ?_
    refine ho_X 2 rfl (rk (x_bslI [6, 11, 25] rfl)) (fun _ => same) fun g127 => ?_
    refine ha_one 3 ?_
    refine ho_C 3 rfl ((right_s _ [6, 11, 25] (by decide) g127 0 3 (by decide)).comes) rfl rfl rfl (fun xx => same) fun _ => ?_
    refine ha_takeP 4 rfl (r_addW rfl rfl) ?_
    refine ha_takeP 12 rfl (r_addW rfl rfl) ?_
    refine ha_takeP 14 rfl (r_addW rfl rfl) ?_
    refine ha_takeP 18 rfl (r_addW rfl rfl) ?_
    refine ha_takeP 19 rfl (r_assign rfl) ?_
    refine ha_done (by kernel_rfl) ?_
    refine q_then ?_
    rw [hwe, h18]
    refine yR ?_
    refine yM rfl ?_
    refine yM rfl ?_
    refine yM rfl ?_
    refine yM rfl ?_
    refine yM rfl ?_
    refine h_op (r_addW rfl rfl) ?_
    refine yS rfl ?_
    refine yS rfl ?_
    refine yS rfl ?_
    refine yS rfl ?_
    refine yN ?_
    refine h_reg ?_
    refine yM rfl ?_
    refine yM rfl ?_
    refine yM rfl ?_
    refine yM rfl ?_
    refine yM rfl ?_
    refine h_opX (x_bslI [2, 13, 22] rfl) fun g155 => ?_
    refine h_call ((right_s _ [2, 13, 22] (by decide) g155 0 3 (by decide)).comes) rfl rfl rfl fun _ => ?_
    refine h_op (r_addW rfl rfl) ?_
    refine yM rfl ?_
    refine yM rfl ?_
    refine h_op (r_and rfl rfl) ?_
    refine yM rfl ?_
    refine yM rfl ?_
    refine yM rfl ?_
    refine h_op (r_or rfl rfl) ?_
    refine h_op (r_and rfl rfl) ?_
    refine h_op (r_or rfl rfl) ?_
    refine h_op (r_addW rfl rfl) ?_
    refine yS rfl ?_
    refine yS rfl ?_
    refine yS rfl ?_
    refine yS rfl ?_
    refine h_nil ?_
    refine q_block ?_
    refine q_then ?_
    rw [h20]
    refine h_reg ?_
    refine h_op (r_add rfl rfl) ?_
    refine yM rfl ?_
    refine h_nil ?_
    exact h_back (r + 1, w, rnd (K64.getD r 0) (wat l r) v) ((show r + 1 ≤ 64 ∧ Win l (r + 1) (w) ∧ rnd (K64.getD r 0) (wat l r) v = rnds l s (r + 1) from ⟨by omega, hw2, hr1.symm⟩)) ((show 64 - (r + 1) < 64 - r by omega)) ⟨rfl, rfl, rfl, rfl, rfl, rfl, rfl, rfl, rfl, rfl, rfl, rfl, trivial⟩ (same)
  ·obtain rfl : r = 64 := by omega
   refine h_exit ?_
   refine q_thenE ?_
   refine q_thenE ?_
   refine q_blockE ?_
   refine q_then ?_
   refine yR ?_
   refine yM rfl ?_
   refine yM rfl ?_
   refine yM rfl ?_
   refine yM rfl ?_
   refine yM rfl ?_
   refine yM rfl ?_
   refine yM rfl ?_
   refine yM rfl ?_
   refine h_op (r_build rfl) ?_
   refine yM rfl ?_
   refine yN ?_
   refine h_block ?_
   rw [S8.cs_eq s, ← addI_0 s v]
   refine h_loop (fun (j : Nat) => j ≤ 8) (fun (j : Nat) => [(178, .int .i64 (j : Int)), (177, .agg (S8.cs v).toArray), (0, .pointer (some ⟨gs, 0, none⟩))]) (fun (j : Nat) => [.blk gs (wc .u32 (addI s v j)) 358]) (fun (j : Nat) => 8 - j) 0 (by omega) ⟨rfl, rfl, rfl, trivial⟩ (same) ?_
   intro j hj
   have hal := addI_len s v j
   refine yR ?_
   refine h_op (r_lss rfl rfl) ?_
   refine yN ?_
   refine h_seq ?_
   refine h_cond rfl (fun h => ?_) (fun h => ?_)
   ·have hst := addI_set s v j (by omega)
    have hg := addI_get s v j (by omega)
    refine h_skip ?_
    refine q_then ?_
    refine h_seq ?_
    refine h_block ?_
    refine yR ?_
    refine yM rfl ?_
    refine h_op (r_ixc rfl rfl (S8.cs_at v (by omega))) ?_
    refine yS rfl ?_
    refine yS rfl ?_
    refine yN ?_
    refine ha_start [.blk gs (wc .u32 (addI s v j)) 358] [] mixed (same) ?_
    refine ha_takeP 0 rfl (r_move rfl) ?_
    refine ha_takeP 1 rfl (r_move rfl) ?_
    refine ha_takeP 2 rfl (r_nilc rfl) ?_
    refine ha_takeP 3 rfl (r_idxA rfl rfl) ?_
    refine ha_take 4 rfl (r_nth rfl (wc_at (by omega))) ?_
    refine ha_takeP 5 rfl (r_move rfl) ?_
    refine ha_takeP 6 rfl (r_addW rfl rfl) ?_
    refine ha_takeP 7 rfl (r_nilc rfl) ?_
    refine ha_takeP 8 rfl (r_idxA rfl rfl) ?_
    refine ha_one 9 ?_
    refine ho_SL 9 rfl (s_setW rfl rfl) ?_
    refine q_block ?_
    refine q_then ?_
    rw [hg, hst]
    refine h_reg ?_
    refine h_op (r_add rfl rfl) ?_
    refine yM rfl ?_
    refine h_nil ?_
    exact h_back (j + 1) (by omega) (by omega) ⟨rfl, rfl, rfl, trivial⟩ (same)
   ·obtain rfl : j = 8 := by omega
    rw [addI_8, hv, show S8.add s (rnds l s 64) = comp l s from rfl, ← S8.cs_eq]
    refine h_exit ?_
    refine q_thenE ?_
    refine q_thenE ?_
    refine q_blockE ?_
    refine h_end ?_
    exact h_ret0 rfl fun w s => ⟨(), rfl, s.res (List.Sublist.refl _) (by simp [Fa.wr])⟩
end Go.Proofs.YtjhlbbgikccclaaGreatDoor
/- U6 -/
namespace Go.Proofs.YtjhlbbgikccclaaGreatDoor
open Go.RowKit
theorem start_s : Spec Tryz.prog 221 ([] : List Value).toArray [] [] (fun _ : Unit => .agg (wc .u32 H0.l).toArray) (fun _ => []) := by
 refine spec_of Tryz.func221 rfl (n := 2) rfl rfl ?_
 intro W
 refine yR ?_
 refine h_opX (x_alloc) fun g0 => ?_
 refine yN ?_
 refine yR ?_
 refine h_op (r_build rfl) ?_
 refine h_opS (s_storer rfl rfl) ?_
 refine yN ?_
 refine h_ret ?_
 change H _ _ _ _ _ [.blk g0 (wc .u32 H0.l) _] _
 exact h_ret1 rfl (rv_row rfl) fun w s => ⟨(), rfl, s.res (List.nil_sublist _) (by simp)⟩
theorem range_cut {m i : Nat} (h : i < m) : List.range m = List.range i ++ i :: (List.range m).drop (i + 1) := by
 have h1 := (List.take_append_drop i (List.range m)).symm
 rwa [List.take_range, Nat.min_eq_left (by omega), List.drop_eq_getElem_cons (by simpa using h), List.getElem_range] at h1
theorem sameR {A : List Fa} {W w : World} {r1 r2 : Fa} {L : List Fa} (s : Sx A W w (r1 :: r2 :: L)) : Sx A W w [r1, r2] := s.sub (((List.nil_sublist L).cons_cons r2).cons_cons r1)
theorem Chunk_s (A : Option Addr) (N c : Nat) : Spec Tryz.prog 223 [.slice A N c, .int .i64 64].toArray [] [] (fun u : Nat × Nat => .func (.func 259) #[] [.pointer (some ⟨u.1, 0, none⟩), .pointer (some ⟨u.2, 0, none⟩)].toArray) (fun u => [.blk u.1 [.slice A N c] 35, .blk u.2 [.int .i64 64] 3]) := by
 refine spec_of Tryz.func223 rfl (n := 9) rfl rfl ?_
 intro W
 refine yR ?_
 refine h_opX (x_box1 rfl) fun g2 => ?_
 refine h_opX (x_box1 rfl) fun g3 => ?_
 refine yS rfl ?_
 refine yN ?_
 refine h_seq ?_
 refine yR ?_
 refine h_op (r_loadc rfl) ?_
 refine h_op (r_lss rfl rfl) ?_
 refine yN ?_
 refine h_condF rfl ?_
 refine h_skip ?_
 refine q_then ?_
 refine yR ?_
 refine h_op (r_func rfl rfl) ?_
 refine yS rfl ?_
 refine yN ?_
 refine h_ret ?_
 exact h_ret1 rfl rfl fun w s => ⟨(g2, g3), rfl, (same w s).res (List.Sublist.refl _) (by simp [Fa.wr])⟩
theorem Chunk_it (b o c m g1 g2 : Nat) (hc : 64 * m ≤ c) (hm : m ≤ 1000000000000) : Iter Tryz.prog 259 [.pointer (some ⟨g1, 0, none⟩), .pointer (some ⟨g2, 0, none⟩)] [.rd (some ⟨g1, 0, none⟩) [.slice (some ⟨b, o, none⟩) (64 * m) c], .rd (some ⟨g2, 0, none⟩) [.int .i64 64]] [] (List.range m) (fun i => [.slice (some ⟨b, o + 64 * i, none⟩) 64 64]) [] := by
 refine iter_of Tryz.func259 rfl (n := 31) rfl rfl ?_
 intro l J Rm m0 W hJw hRm hy h0
 refine yR ?_
 refine yS rfl ?_
 refine yN ?_
 refine h_block ?_
 refine h_loop (fun (s : Nat × List Fa) => s.1 ≤ m ∧ J (List.range s.1) s.2) (fun (s : Nat × List Fa) => [(4, .int .i64 ((64 * s.1 : Nat) : Int)), (0, .func (.yield l) #[] #[]), (1, .pointer (some ⟨g1, 0, none⟩)), (2, .pointer (some ⟨g2, 0, none⟩))]) (fun (s : Nat × List Fa) => .rd (some ⟨g1, 0, none⟩) [.slice (some ⟨b, o, none⟩) (64 * m) c] :: .rd (some ⟨g2, 0, none⟩) [.int .i64 64] :: (s.2 ++ Rm)) (fun (s : Nat × List Fa) => m - s.1) (0, m0) ((show 0 ≤ m ∧ J (List.range 0) m0 from ⟨by omega, h0⟩)) ⟨rfl, rfl, rfl, rfl, trivial⟩ (fun _ s => s) ?_
 rintro ⟨i, mm⟩ ⟨hi, hJ⟩
 dsimp only at hi hJ ⊢
 refine h_seq ?_
 refine yR ?_
 refine yM rfl ?_
 refine h_op (r_loadc rfl) ?_
 refine h_op (r_len rfl) ?_
 refine h_op (r_lss rfl rfl) ?_
 refine yN ?_
 refine h_cond rfl (fun h => ?_) (fun h => ?_)
 ·have hi2 : i < m := by omega
  refine h_skip ?_
  refine q_then ?_
  refine h_seq ?_
  refine h_block ?_
  refine h_seq ?_
  refine ha_start [.rd (some ⟨g1, 0, none⟩) [.slice (some ⟨b, o, none⟩) (64 * m) c], .rd (some ⟨g2, 0, none⟩) [.int .i64 64]] [] mixed (fun _ s => sameR s) ?_
  refine ha_take 0 rfl (r_loadc rfl) ?_
  refine ha_take 1 rfl (r_loadc rfl) ?_
  refine ha_takeP 2 rfl (r_move rfl) ?_
  refine ha_takeP 3 rfl (r_slL rfl rfl) ?_
  refine ha_takeP 4 rfl (r_len rfl) ?_
  refine ha_takeP 5 rfl (r_int (r_min rfl rfl) (show _ = (64 : Int) by rw [if_neg (by omega)])) ?_
  refine ha_takeP 6 rfl (r_assign rfl) ?_
  refine ha_done (by kernel_rfl) ?_
  refine q_then ?_
  refine yR ?_
  refine yM rfl ?_
  refine h_op (r_loadc rfl) ?_
  refine yM rfl ?_
  refine yM rfl ?_
  refine yM rfl ?_
  refine h_op (r_add rfl rfl) ?_
  refine yM rfl ?_
  refine yM rfl ?_
  refine h_op (r_add rfl rfl) ?_
  refine h_op (r_slLHM rfl rfl rfl rfl (N' := 64) (c' := 64) (hN := by omega) (hc := by omega)) ?_
  refine h_yield (hy _ _ _ _ (range_cut hi2) hJ) hRm rfl rfl fun m' hJ' => ?_
  refine h_op (r_not rfl) ?_
  refine yN ?_
  refine h_condF rfl ?_
  refine h_skip ?_
  refine q_block ?_
  refine q_then ?_
  refine h_reg ?_
  refine yM rfl ?_
  refine h_op (r_loadc rfl) ?_
  refine h_op (r_add rfl rfl) ?_
  refine yS rfl ?_
  refine h_nil ?_
  exact h_back (i + 1, m') ((show i + 1 ≤ m ∧ J (List.range (i + 1)) m' from ⟨by omega, by rw [List.range_succ]; exact hJ'⟩)) ((show m - (i + 1) < m - i by omega)) ⟨aI rfl (by omega), rfl, rfl, rfl, trivial⟩ (fun _ s => s)
 ·obtain rfl : i = m := by omega
  refine h_exit ?_
  refine q_thenE ?_
  refine q_thenE ?_
  refine q_blockE ?_
  refine h_end ?_
  exact h_ret0 rfl fun w s => ⟨_, mm, rfl, hJ, s.res (((List.sublist_append_left _ _).cons _).cons _) (hJw _ _ hJ)⟩
end Go.Proofs.YtjhlbbgikccclaaGreatDoor
/- U7 -/
namespace Go.Proofs.YtjhlbbgikccclaaGreatDoor
open Go.RowKit
theorem comps_range (q : List UInt8) (i : Nat) : comps ((List.range (i + 1)).map (blk64 q)) H0 = comp (blk64 q i) (comps ((List.range i).map (blk64 q)) H0) := by
 rw [List.range_succ, List.map_append, List.map_singleton, comps_snoc]
theorem range_mid {m i : Nat} {pre post : List Nat} (h : List.range m = pre ++ i :: post) : pre = List.range i ∧ i < m := by
 have hl : pre.length < m := by have := congrArg List.length h; simp at this; omega
 have h2 : (List.range m)[pre.length]? = some i := by rw [h]; simp
 rw [List.getElem?_range hl] at h2
 obtain rfl := Option.some.inj h2
 refine ⟨?_, hl⟩
 have h3 := congrArg (List.take pre.length) h
 rw [List.take_range, Nat.min_eq_left (by omega)] at h3
 simpa using h3.symm
theorem Sum_s (l : List UInt8) (B : Option Addr) (c : Nat) (hB : B = none → l.length = 0 ∧ c = 0) (hn : l.length ≤ 100000000000) : Spec Tryz.prog 149 [.slice B l.length c].toArray [.rd B (bc l), .rd (some ⟨1, 0, none⟩) (wc .u32 K64)] [] (fun _ : Unit => .agg (bc (sha l).1).toArray) (fun _ => []) := by
 have hp := pad_len l
 have hp64 : padN l.length = 64 * (padN l.length / 64) := by unfold padN; omega
 have hpl : padN l.length ≤ l.length + 72 := by unfold padN; omega
 have hsha : bc (sha l).1 = bc (outL (comps (blks (pad l)) H0)) := rfl
 rw [hsha]
 have hPad := Pad_s l B c hB hn
 generalize padN l.length = p at *
 generalize pad l = q at *
 subst hp
 obtain ⟨m, hm⟩ : ∃ m, m = q.length / 64 := ⟨_, rfl⟩
 rw [← hm] at hp64
 have hblks : blks q = (List.range m).map (blk64 q) := by unfold blks; rw [hm]
 rw [hp64] at hPad
 rw [hblks]
 refine spec_of Tryz.func149 rfl (n := 34) rfl rfl ?_
 intro W
 refine yR ?_
 refine h_opX (x_alloc) fun g2 => ?_
 refine yN ?_
 refine yR ?_
 refine h_call (start_s.comes) rfl rfl rfl fun _ => ?_
 refine h_opX (x_alloc) fun g3 => ?_
 refine h_opS (s_storer rfl rfl) ?_
 refine yN ?_
 refine yR ?_
 refine h_op (r_func rfl rfl) ?_
 refine h_opX (x_alloc) fun g4 => ?_
 refine h_opS (s_store rfl rfl rfl) ?_
 refine yN ?_
 refine h_seq ?_
 refine yR ?_
 refine yM rfl ?_
 refine h_call (hPad.comes) rfl rfl rfl fun ⟨g5, c5⟩ => ?_
 dsimp only
 refine h_pure (φ := 64 * m ≤ c5) (fun w s => (s.ownLe (B := some ⟨g5, 0, none⟩) (N := 64 * m) (c := c5)).1) fun hcap => ?_
 refine h_L (fun w s => s.ownRd (B := some ⟨g5, 0, none⟩) (N := 64 * m) (c := c5)) ?_
 refine h_call ((Chunk_s (some ⟨g5, 0, none⟩) (64 * m) c5).comes) rfl rfl rfl fun ⟨g66, g7⟩ => ?_
 dsimp only
 refine yN ?_
 refine h_block ?_
 change H _ _ _ _ _ (_ :: _ :: _ :: _ :: .blk g3 (S8.cs (comps ((List.range 0).map (blk64 q)) H0)) _ :: _) _
 refine h_range (Chunk_it g5 0 c5 m g66 g7 hcap (by omega)) rfl (fun pre mm => mm = [.blk g3 (S8.cs (comps (pre.map (blk64 q)) H0)) 358]) [.blk g3 (S8.cs (comps ((List.range 0).map (blk64 q)) H0)) 358] [.rd (some ⟨g4, 0, none⟩) [.func (.func 222) #[Value.pointer (some ⟨g3, 0, none⟩)] #[]], .rd (some ⟨g5, 0, none⟩) (bc q), .rd (some ⟨1, 0, none⟩) (wc .u32 K64)] (by rintro pre mm rfl f hf; rw [List.mem_singleton.1 hf]; rfl) rfl rfl (fun _ => rfl) ?_ ?_
 ·intro ll rr pre i post mm W1 hr hrp hxs hJ
  subst hJ
  have hpre : pre = List.range i ∧ i < m := range_mid hxs
  obtain ⟨rfl, hi⟩ := hpre
  have hcut : Rd1 [Fa.obj ll (.loop { rr with state := .busy }), .rd (some ⟨g4, 0, none⟩) [.func (.func 222) #[Value.pointer (some ⟨g3, 0, none⟩)] #[]], .rd (some ⟨g5, 0, none⟩) (bc q), .rd (some ⟨1, 0, none⟩) (wc .u32 K64)] (.rd (some ⟨g5, 0 + 64 * i, none⟩) (bc (blk64 q i))) := rd1_cut (L := _) (b := g5) (o := 0) (cs := bc q) rfl (bc_cut q (64 * i) 64)
  have hbl : (blk64 q i).length = 64 := by unfold blk64; rw [List.length_take, List.length_drop]; omega
  have hc1 := comps_range q i
  rw [List.range_succ] at hc1
  generalize comps ((List.range i).map (blk64 q)) H0 = s0 at *
  refine h_L (L' := [.obj ll (.loop rr), .blk g3 (S8.cs s0) 358, .rd (some ⟨g4, 0, none⟩) [.func (.func 222) #[Value.pointer (some ⟨g3, 0, none⟩)] #[]], .rd (some ⟨g5, 0, none⟩) (bc q), .rd (some ⟨1, 0, none⟩) (wc .u32 K64)]) (fun _ s => s) ?_
  refine h_reg ?_
  refine yS rfl ?_
  refine yN ?_
  refine h_begin hr ?_
  refine h_block ?_
  refine h_reg ?_
  refine h_op (r_loadc rfl) ?_
  refine yM rfl ?_
  refine h_call ((take_s (blk64 q i) s0 g3 g5 (0 + 64 * i) 64 hbl (by decide)).comes) rfl rfl rfl fun _ => ?_
  refine h_nil ?_
  refine q_block ?_
  exact h_endround [.blk g3 (S8.cs (comp (blk64 q i) s0)) 358] hr hrp (by rw [hc1]) (by intro f hf; rw [List.mem_singleton.1 hf]; rfl)
 ·intro bb mm hJ
  subst hJ
  refine q_block ?_
  refine q_then ?_
  simp only [List.nil_append, List.cons_append]
  generalize comps ((List.range m).map (blk64 q)) H0 = s0 at *
  refine yR ?_
  refine h_opX (x_alloc) fun g6 => ?_
  refine yN ?_
  refine h_seq ?_
  refine yR ?_
  refine yM rfl ?_
  refine yN ?_
  refine h_block ?_
  change H _ _ _ _ _ (.blk g6 (bc ((List.range 0).map (outB s0) ++ List.replicate (32 - 0) 0)) _ :: _) _
  refine h_loop (fun (j : Nat) => j ≤ 32) (fun (j : Nat) => [(17, .int .i64 (j : Int)), (6, .pointer (some ⟨g6, 0, none⟩)), (3, .pointer (some ⟨g3, 0, none⟩)), (2, .pointer (some ⟨g2, 0, none⟩))]) (fun (j : Nat) => [.blk g6 (bc ((List.range j).map (outB s0) ++ List.replicate (32 - j) 0)) 45, .blk g3 (S8.cs s0) 358, .obj bb (.deferred (some [])), .blk g2 zB32.cells 45]) (fun (j : Nat) => 32 - j) 0 (by omega) ⟨rfl, rfl, rfl, rfl, trivial⟩ (same) ?_
  intro j hj
  have hfl := fill_len (outB s0) 0 32 j hj
  refine yR ?_
  refine h_op (r_lss rfl rfl) ?_
  refine yN ?_
  refine h_seq ?_
  refine h_cond rfl (fun h => ?_) (fun h => ?_)
  ·have hst := fill_set (outB s0) 0 32 j (by omega)
   refine h_skip ?_
   refine q_then ?_
   refine h_seq ?_
   refine h_block ?_
   refine yR ?_
   refine yM rfl ?_
   refine yS rfl ?_
   refine yN ?_
   refine h_reg ?_
   refine yM rfl ?_
   refine yM rfl ?_
   refine h_op (r_quo rfl rfl) ?_
   refine h_op (r_idxA rfl rfl) ?_
   refine h_op (r_nth rfl (S8.cs_at s0 (by omega))) ?_
   refine yM rfl ?_
   refine h_op (r_rem rfl rfl) ?_
   refine h_op (r_mul rfl rfl) ?_
   refine h_op (r_subN rfl rfl) ?_
   refine h_op (r_shr rfl rfl) ?_
   refine h_op (r_cW rfl) ?_
   refine h_op (r_idxA rfl rfl) ?_
   refine h_opS (s_setB rfl rfl) ?_
   refine h_nil ?_
   refine q_block ?_
   refine q_then ?_
   rw [outB_eq, hst]
   refine h_reg ?_
   refine h_op (r_add rfl rfl) ?_
   refine yM rfl ?_
   refine h_nil ?_
   exact h_back (j + 1) (by omega) (by omega) ⟨rfl, rfl, rfl, rfl, trivial⟩ (same)
  ·obtain rfl : j = 32 := by omega
   rw [fill_end]
   change H _ _ _ _ _ (.blk g6 (bc (outL s0)) _ :: _) _
   refine h_exit ?_
   refine q_thenE ?_
   refine q_thenE ?_
   refine q_blockE ?_
   refine q_then ?_
   refine yR ?_
   refine h_op (r_loadr rfl) ?_
   refine h_opS (s_storer rfl rfl) ?_
   refine yN ?_
   refine h_ret ?_
   refine h_mark ?_
   exact h_ret1 rfl (rv_row rfl) fun w s => ⟨(), rfl, s.res (List.nil_sublist _) (by simp)⟩
end Go.Proofs.YtjhlbbgikccclaaGreatDoor
/- E1 -/
namespace Go.Proofs.YtjhlbbgikccclaaGreatDoor
open Go.RowKit
def bbit (x : UInt8) (j : Nat) : Bool := (x.toNat / 2 ^ (7 - j)) % 2 == 1
def bitAt (b : B32) (i : Nat) : Bool := bbit (b.1.getD (i / 8) 0) (i % 8)
def lz8 (x : UInt8) : Nat := ((List.range 8).find? (bbit x)).getD 8
def flip8 (x : UInt8) (j : Nat) : Nat := if bbit x j then x.toNat - 2 ^ (7 - j) else x.toNat + 2 ^ (7 - j)
theorem all_bytes {p : UInt8 → Prop} (h : ∀ n : Fin 256, p (UInt8.ofNat n.val)) (x : UInt8) : p x := by
 have := h ⟨x.toNat, x.toNat_lt⟩
 rwa [UInt8.ofNat_toNat] at this
theorem bbit_zero (j : Nat) : bbit 0 j = false := by
 unfold bbit
 simp
theorem byte_zero : ∀ x : UInt8, (∀ j, j < 8 → bbit x j = false) → x = 0 := by
 intro x h
 have key : ∀ n : Fin 256, ((List.range 8).all fun j => !bbit (UInt8.ofNat n.val) j) = true → UInt8.ofNat n.val = 0 := by decide +kernel
 have := all_bytes (p := fun x => ((List.range 8).all fun j => !bbit x j) = true → x = 0) key x
 exact this (by simpa using h)
theorem lz8_spec : ∀ x : UInt8, x ≠ 0 → lz8 x < 8 ∧ bbit x (lz8 x) = true ∧ ∀ j, j < lz8 x → bbit x j = false := by
 intro x hx
 have key : ∀ n : Fin 256, UInt8.ofNat n.val ≠ 0 → (decide (lz8 (UInt8.ofNat n.val) < 8) && bbit (UInt8.ofNat n.val) (lz8 (UInt8.ofNat n.val)) && (List.range (lz8 (UInt8.ofNat n.val))).all fun j => !bbit (UInt8.ofNat n.val) j) = true := by decide +kernel
 have := all_bytes (p := fun x => x ≠ 0 → (decide (lz8 x < 8) && bbit x (lz8 x) && (List.range (lz8 x)).all fun j => !bbit x j) = true) key x hx
 simp only [Bool.and_eq_true, decide_eq_true_eq, List.all_eq_true, List.mem_range, Bool.not_eq_true'] at this
 exact ⟨this.1.1, this.1.2, this.2⟩
def flipB (x : UInt8) (j : Nat) : UInt8 := UInt8.ofNat (flip8 x j)
theorem flipB_bit : ∀ (x : UInt8) (j k : Nat), j < 8 → k < 8 → bbit (flipB x j) k = if k = j then !bbit x j else bbit x k := by
 intro x j k hj hk
 have key : ∀ n : Fin 256, ∀ j k : Fin 8, bbit (flipB (UInt8.ofNat n.val) j.val) k.val = if k.val = j.val then !bbit (UInt8.ofNat n.val) j.val else bbit (UInt8.ofNat n.val) k.val := by decide +kernel
 exact all_bytes (p := fun x => ∀ j k : Fin 8, bbit (flipB x j.val) k.val = if k.val = j.val then !bbit x j.val else bbit x k.val) key x ⟨j, hj⟩ ⟨k, hk⟩
def flipAt (b : B32) (i : Nat) : B32 := ⟨b.1.set (i / 8) (flipB (b.1.getD (i / 8) 0) (i % 8)), by rw [List.length_set]; exact b.2⟩
theorem flipAt_bit (b : B32) (i k : Nat) (hi : i < 256) (hk : k < 256) : bitAt (flipAt b i) k = if k = i then !bitAt b i else bitAt b k := by
 have hb := b.2
 unfold bitAt flipAt
 simp only
 by_cases h : k / 8 = i / 8
 ·have e : (b.1.set (i / 8) (flipB (b.1.getD (i / 8) 0) (i % 8))).getD (k / 8) 0 = flipB (b.1.getD (i / 8) 0) (i % 8) := by
   rw [h]
   have : i / 8 < b.1.length := by omega
   simp [List.getD, this]
  rw [e, flipB_bit _ _ _ (by omega) (by omega), h]
  by_cases hk2 : k = i
  ·subst hk2; simp
  ·have : ¬ k % 8 = i % 8 := by omega
   rw [if_neg this, if_neg hk2]
 ·have e : (b.1.set (i / 8) (flipB (b.1.getD (i / 8) 0) (i % 8))).getD (k / 8) 0 = b.1.getD (k / 8) 0 := by
   simp [List.getD, List.getElem?_set, Ne.symm h]
  have hk2 : ¬ k = i := fun hh => h (by rw [hh])
  rw [e, if_neg hk2]
theorem bitAt_zero (i : Nat) : bitAt zB32 i = false := by
 unfold bitAt zB32
 have : (List.replicate 32 (0 : UInt8)).getD (i / 8) 0 = 0 := by
  rw [List.getD_eq_getElem?_getD, List.getElem?_replicate]
  split <;> rfl
 rw [this, bbit_zero]
end Go.Proofs.YtjhlbbgikccclaaGreatDoor
/- E3 -/
namespace Go.Proofs.YtjhlbbgikccclaaGreatDoor
open Go.RowKit
theorem bbit_test (x : UInt8) (j : Nat) : bbit x j = x.toNat.testBit (7 - j) := by
 unfold bbit
 rw [Nat.testBit_eq_decide_div_mod_eq]
 rfl
theorem bbit_xor (x y : UInt8) (j : Nat) : bbit (x ^^^ y) j = (bbit x j ^^ bbit y j) := by
 rw [bbit_test, bbit_test, bbit_test, UInt8.toNat_xor, Nat.testBit_xor]
def common (a b : B32) : Nat := ((List.range 256).find? fun i => bitAt a i ^^ bitAt b i).getD 256
theorem common_self (a : B32) : common a a = 256 := by
 unfold common
 have : (List.range 256).find? (fun i => bitAt a i ^^ bitAt a i) = none := by
  rw [List.find?_eq_none]
  intro i _
  simp
 rw [this]
 rfl
theorem find_range {p : Nat → Bool} {n m : Nat} (hm : m < n) (h1 : p m = true) (h2 : ∀ j, j < m → p j = false) : (List.range n).find? p = some m := by
 rw [List.find?_range_eq_some]
 exact ⟨h1, by simpa using hm, fun j hj => by simp [h2 j hj]⟩
theorem common_at (a b : B32) (k : Nat) (hk : k < 32) (h : ∀ j, j < k → a.1.getD j 0 = b.1.getD j 0) (hne : a.1.getD k 0 ^^^ b.1.getD k 0 ≠ 0) : common a b = 8 * k + lz8 (a.1.getD k 0 ^^^ b.1.getD k 0) := by
 obtain ⟨h1, h2, h3⟩ := lz8_spec _ hne
 generalize hd : a.1.getD k 0 ^^^ b.1.getD k 0 = d at *
 have hbit : ∀ j, j < 8 → (bitAt a (8 * k + j) ^^ bitAt b (8 * k + j)) = bbit d j := fun j hj => by
  unfold bitAt
  rw [show (8 * k + j) / 8 = k by omega, show (8 * k + j) % 8 = j by omega, ← bbit_xor, hd]
 unfold common
 rw [find_range (m := 8 * k + lz8 d) (by omega) (by rw [hbit _ h1]; exact h2) (fun j hj => by
  by_cases hjk : j / 8 < k
  ·unfold bitAt
   rw [h (j / 8) hjk]
   simp
  ·obtain ⟨r, rfl⟩ : ∃ r, j = 8 * k + r := ⟨j - 8 * k, by omega⟩
   rw [hbit r (by omega)]
   exact h3 r (by omega))]
 rfl
theorem eq_bytes {a b : B32} (h : ∀ j, j < 32 → a.1.getD j 0 = b.1.getD j 0) : a = b := by
 have ha := a.2
 have hb := b.2
 apply Subtype.ext
 apply List.ext_getElem
 ·omega
 ·intro i h1 h2
  have := h i (by omega)
  simpa [List.getD, h1, h2] using this
end Go.Proofs.YtjhlbbgikccclaaGreatDoor
/- E8 -/
namespace Go.Proofs.YtjhlbbgikccclaaGreatDoor
open Go.RowKit
theorem bitAt_byte (b : B32) (k j : Nat) (hj : j < 8) : bitAt b (8 * k + j) = bbit (b.1.getD k 0) j := by
 unfold bitAt
 rw [show (8 * k + j) / 8 = k by omega, show (8 * k + j) % 8 = j by omega]
theorem bits_ext {a b : B32} (h : ∀ i, i < 256 → bitAt a i = bitAt b i) : a = b := by
 refine eq_bytes fun j hj => ?_
 have key : ∀ x y : UInt8, (∀ i, i < 8 → bbit x i = bbit y i) → x = y := fun x y hxy => by
  have : x ^^^ y = 0 := byte_zero _ fun i hi => by rw [bbit_xor, hxy i hi]; simp
  simpa using this
 refine key _ _ fun i hi => ?_
 rw [← bitAt_byte a j i hi, ← bitAt_byte b j i hi]
 exact h _ (by omega)
def bitN (b : B32) (i : Nat) : Nat := if bitAt b i then 1 else 0
theorem bitN_le (b : B32) (i : Nat) : bitN b i ≤ 1 := by unfold bitN; split <;> omega
theorem bitN_one (b : B32) (i : Nat) : decide (((bitN b i : Nat) : Int) = 1) = bitAt b i := by unfold bitN; cases bitAt b i <;> rfl
theorem bit_bv (x : UInt8) (j : Nat) : ((((x.toBitVec >>> (7 - j)) &&& 1).toNat : Nat) : Int) = ((if bbit x j then 1 else 0 : Nat) : Int) := by
 have h : ((x.toBitVec >>> (7 - j)) &&& 1).toNat = x.toNat / 2 ^ (7 - j) % 2 := by
  rw [BitVec.toNat_and, BitVec.toNat_ushiftRight]
  show (x.toNat >>> (7 - j)) &&& 1 = _
  rw [Nat.and_one_is_mod, Nat.shiftRight_eq_div_pow]
 rw [h]
 unfold bbit
 have h3 : x.toNat / 2 ^ (7 - j) % 2 < 2 := Nat.mod_lt _ (by omega)
 generalize x.toNat / 2 ^ (7 - j) % 2 = y at *
 rcases (show y = 0 ∨ y = 1 by omega) with rfl | rfl <;> rfl
theorem lz8_le (x : UInt8) : lz8 x ≤ 8 := by
 revert x
 refine all_bytes ?_
 decide +kernel
end Go.Proofs.YtjhlbbgikccclaaGreatDoor
/- U8 -/
namespace Go.Proofs.YtjhlbbgikccclaaGreatDoor
open Go.RowKit
section
variable {P : Program} {n : Nat} {D : List Deferred} {E : Env} {L : List Fa} {T : TypeId} {x y : Operand} {k : IntKind} {i : Int}
theorem r_ixs {s : ByteArray} {j : Nat} {c : UInt8} (hu : P.underlying T = some .string) (hx : ev E x = some (.string s)) (hy : ev E y = some (.int k i)) [hj : NatOf i j] (hc : s[j]? = some c) : Runs0 P n D E L (.index T x y) (.int .u8 (c.toNat : Int)) := fun a w ka st o ho => by
 obtain rfl := hj.eq
 unfold execOp
 simp only [ho, ka.ev hx, ka.ev hy, Instr.index, asIntOf, Sem.run_bind, Sem.run_pure, Result.andThen_ok, run_underlying hu]
 simp [hc]
end
instance rowB1 (b : B32) : Row (bc b.1) 32 := ⟨by rw [bc_length]; exact b.2, bc_one _⟩
theorem Bit_s (b : B32) (i : Nat) (hi : i < 256) : Spec Tryz.prog 140 [.agg b.cells.toArray, .int .i64 (i : Int)].toArray [] [] (fun _ : Unit => .int .i64 ((bitN b i : Nat) : Int)) (fun _ => []) := by
 have hb := b.2
 refine spec_of Tryz.func140 rfl (n := 21) rfl rfl ?_
 intro W
 refine yR ?_
 refine h_opX (x_box rfl) fun g2 => ?_
 refine yS rfl ?_
 refine yN ?_
 refine h_seq ?_
 refine yR ?_
 refine yM rfl ?_
 refine h_op (r_bool (r_lss rfl rfl) (decide_eq_false (by omega))) ?_
 refine yM rfl ?_
 refine yM rfl ?_
 refine h_op (r_bool (r_geq rfl rfl) (decide_eq_false (by omega))) ?_
 refine h_op (r_pick rfl rfl) ?_
 refine yN ?_
 refine h_condF rfl ?_
 refine h_skip ?_
 refine q_then ?_
 refine yR ?_
 refine yM rfl ?_
 refine h_op (r_quo rfl rfl) ?_
 refine h_op (r_idxA rfl rfl) ?_
 refine h_op (r_nth rfl (bc_at' (by omega))) ?_
 refine yM rfl ?_
 refine h_op (r_rem rfl rfl) ?_
 refine h_op (r_subN rfl rfl) ?_
 refine h_op (r_shr rfl rfl) ?_
 refine h_op (r_and rfl rfl) ?_
 refine h_op (r_int (r_cUI rfl) (bit_bv _ (i % 8))) ?_
 refine yS rfl ?_
 refine yN ?_
 refine h_ret ?_
 exact h_ret1 rfl rfl fun w s => ⟨(), rfl, s.res (List.nil_sublist _) (by simp)⟩
theorem u8of {m : Nat} (h : m < 256) : (((UInt8.ofNat m).toBitVec.toNat : Nat) : Int) = (m : Int) := by
 show (((UInt8.ofNat m).toNat : Nat) : Int) = (m : Int)
 rw [UInt8.toNat_ofNat', Nat.mod_eq_of_lt h]
theorem Len8_s (x : UInt8) : Spec Tryz.prog 274 [.int .u8 (x.toNat : Int)].toArray [] [] (fun _ : Unit => .int .i64 ((8 - lz8 x : Nat) : Int)) (fun _ => []) := by
 have hp := lz8_le x
 refine spec_of Tryz.func274 rfl (n := 6) rfl rfl ?_
 intro W
 refine yR ?_
 refine yS rfl ?_
 refine yN ?_
 refine yR ?_
 refine yM rfl ?_
 refine h_op (r_ixs (c := UInt8.ofNat (8 - lz8 x)) Tryz.underlying9 rfl rfl (by clear W hp; revert x; refine all_bytes ?_; decide +kernel)) ?_
 refine h_op (r_int (r_cUI rfl) (u8of (by omega))) ?_
 refine yS rfl ?_
 refine yN ?_
 refine h_ret ?_
 exact h_ret1 rfl rfl fun w s => ⟨(), rfl, s.res (List.nil_sublist _) (by simp)⟩
theorem LeadingZeros8_s (x : UInt8) : Spec Tryz.prog 268 [.int .u8 (x.toNat : Int)].toArray [] [] (fun _ : Unit => .int .i64 ((lz8 x : Nat) : Int)) (fun _ => []) := by
 have hp := lz8_le x
 refine spec_of Tryz.func268 rfl (n := 6) rfl rfl ?_
 intro W
 refine yR ?_
 refine yS rfl ?_
 refine yN ?_
 refine yR ?_
 refine yM rfl ?_
 refine h_call ((Len8_s x).comes) rfl rfl rfl fun _ => ?_
 refine h_op (r_subN rfl rfl (m := lz8 x) (hm := by omega)) ?_
 refine yS rfl ?_
 refine yN ?_
 refine h_ret ?_
 exact h_ret1 rfl rfl fun w s => ⟨(), rfl, s.res (List.nil_sublist _) (by simp)⟩
theorem xor_zero (x y : UInt8) (h : (x.toBitVec ^^^ y.toBitVec).toNat = 0) : x = y := by
 have h2 : x ^^^ y = 0 := by
  apply UInt8.toBitVec_inj.1
  rw [UInt8.toBitVec_xor]
  exact BitVec.eq_of_toNat_eq (by rw [h]; rfl)
 simpa using h2
theorem Common_s (a b : B32) : Spec Tryz.prog 249 [.agg a.cells.toArray, .agg b.cells.toArray].toArray [] [] (fun _ : Unit => .int .i64 ((common a b : Nat) : Int)) (fun _ => []) := by
 have ha := a.2
 have hb := b.2
 refine spec_of Tryz.func249 rfl (n := 28) rfl rfl ?_
 intro W
 refine yR ?_
 refine h_opX (x_box rfl) fun g2 => ?_
 refine h_opX (x_box rfl) fun g3 => ?_
 refine yS rfl ?_
 refine yN ?_
 refine h_seq ?_
 refine yR ?_
 refine h_op (r_loadr rfl) ?_
 refine h_op (r_loadr rfl) ?_
 refine h_op (r_eqr rfl rfl) ?_
 refine yN ?_
 refine h_cond rfl (fun hab => ?_) (fun hab => ?_)
 ·rw [show common a b = 256 by rw [hab]; exact common_self b]
  refine yR ?_
  refine yS rfl ?_
  refine yN ?_
  refine h_ret ?_
  refine q_thenR ?_
  exact h_ret1 rfl rfl fun w s => ⟨(), rfl, s.res (List.nil_sublist _) (by simp)⟩
 ·refine h_skip ?_
  refine q_then ?_
  refine h_seq ?_
  refine yR ?_
  refine yM rfl ?_
  refine yN ?_
  refine h_block ?_
  refine h_loop (fun (k : Nat) => k ≤ 32 ∧ ∀ j, j < k → a.1.getD j 0 = b.1.getD j 0) (fun (k : Nat) => [(10, .int .i64 (k : Int)), (2, .pointer (some ⟨g2, 0, none⟩)), (3, .pointer (some ⟨g3, 0, none⟩))]) (fun (k : Nat) => [.blk g2 a.cells 34, .blk g3 b.cells 34]) (fun (k : Nat) => 32 - k) 0 (⟨by omega, fun j hj => by omega⟩) ⟨rfl, rfl, rfl, trivial⟩ (same) ?_
  intro k hk
  refine yR ?_
  refine h_op (r_lss rfl rfl) ?_
  refine yN ?_
  refine h_seq ?_
  refine h_cond rfl (fun h => ?_) (fun h => ?_)
  ·refine h_skip ?_
   refine q_then ?_
   refine h_seq ?_
   refine h_block ?_
   refine yR ?_
   refine yM rfl ?_
   refine yS rfl ?_
   refine yN ?_
   refine h_seq ?_
   refine ha_start [.blk g2 a.cells 34, .blk g3 b.cells 34] [] mixed (same) ?_
   refine ha_takeP 0 rfl (r_move rfl) ?_
   refine ha_takeP 1 rfl (r_idxA rfl rfl) ?_
   refine ha_take 2 rfl (r_nth rfl (bc_at' (by omega))) ?_
   refine ha_takeP 3 rfl (r_move rfl) ?_
   refine ha_takeP 4 rfl (r_idxA rfl rfl) ?_
   refine ha_take 5 rfl (r_nth rfl (bc_at' (by omega))) ?_
   refine ha_takeP 6 rfl (r_xor rfl rfl) ?_
   refine ha_takeP 7 rfl (r_assign rfl) ?_
   refine ha_done (by kernel_rfl) ?_
   refine q_then ?_
   refine yR ?_
   refine yM rfl ?_
   refine h_op (r_neq rfl rfl) ?_
   refine yN ?_
   refine h_cond rfl (fun hne => ?_) (fun hne => ?_)
   ·have hne2 : a.1.getD k 0 ^^^ b.1.getD k 0 ≠ 0 := fun h0 => hne (by rw [← UInt8.toBitVec_xor, h0]; rfl)
    have hc := common_at a b k (by omega) hk.2 hne2
    have hl := lz8_le (a.1.getD k 0 ^^^ b.1.getD k 0)
    refine yR ?_
    refine yM rfl ?_
    refine h_op (r_mul rfl rfl) ?_
    refine yM rfl ?_
    refine h_call ((LeadingZeros8_s (a.1.getD k 0 ^^^ b.1.getD k 0)).comes) rfl rfl rfl fun _ => ?_
    refine h_op (r_add rfl rfl) ?_
    refine yS rfl ?_
    refine yN ?_
    refine h_ret ?_
    refine q_blockR ?_
    refine q_thenR ?_
    refine q_thenR ?_
    refine q_blockR ?_
    refine q_thenR ?_
    exact h_ret1 rfl (aI rfl (show _ = ((common a b : Nat) : Int) by rw [hc]; omega)) fun w s => ⟨(), rfl, s.res (List.nil_sublist _) (by simp)⟩
   ·have heq : a.1.getD k 0 = b.1.getD k 0 := by
     refine xor_zero _ _ ?_
     have h1 := Decidable.not_not.1 hne
     exact_mod_cast h1
    refine h_skip ?_
    refine q_block ?_
    refine q_then ?_
    refine h_reg ?_
    refine h_op (r_add rfl rfl) ?_
    refine yM rfl ?_
    refine h_nil ?_
    exact h_back (k + 1) (⟨by omega, fun j hj => by by_cases hjk : j < k; exact hk.2 j hjk; obtain rfl : j = k := (by omega); exact heq⟩) (by omega) ⟨rfl, rfl, rfl, trivial⟩ (same)
  ·exact (hab (eq_bytes fun j hj => hk.2 j (by omega))).elim
end Go.Proofs.YtjhlbbgikccclaaGreatDoor
/- E9 -/
namespace Go.Proofs.YtjhlbbgikccclaaGreatDoor
open Go.RowKit
def cut8 (x : UInt8) (m : Nat) : UInt8 := UInt8.ofBitVec (x.toBitVec &&& ((255 : BitVec 8) <<< (8 - m)))
theorem cut8_bit (x : UInt8) (m j : Nat) (hm : m ≤ 8) (hj : j < 8) : bbit (cut8 x m) j = (decide (j < m) && bbit x j) := by
 have key : ∀ n : Fin 256, ∀ m : Fin 9, ∀ j : Fin 8, bbit (cut8 (UInt8.ofNat n.val) m.val) j.val = (decide (j.val < m.val) && bbit (UInt8.ofNat n.val) j.val) := by decide +kernel
 exact all_bytes (p := fun x => ∀ m : Fin 9, ∀ j : Fin 8, bbit (cut8 x m.val) j.val = (decide (j.val < m.val) && bbit x j.val)) key x ⟨m, by omega⟩ ⟨j, hj⟩
def cutB (b : B32) (n : Nat) : B32 := ⟨(List.range 32).map fun k => cut8 (b.1.getD k 0) (min 8 (n - 8 * k)), by simp⟩
theorem cutB_bit (b : B32) (n i : Nat) (hi : i < 256) : bitAt (cutB b n) i = (decide (i < n) && bitAt b i) := by
 unfold bitAt cutB
 simp only
 rw [List.getD, List.getElem?_map, List.getElem?_range (show i / 8 < 32 by omega)]
 simp only [Option.map_some, Option.getD_some]
 rw [cut8_bit _ _ _ (by omega) (by omega)]
 congr 1
 apply decide_eq_decide.2
 omega
theorem cutB_all (b : B32) (n : Nat) (h : 256 ≤ n) : cutB b n = b := bits_ext fun i hi => by rw [cutB_bit b n i hi, decide_eq_true (by omega)]; rfl
theorem cutB_flip (b : B32) (n : Nat) (h : n < 256) (hb : bitAt b n = true) : flipAt (cutB b (n + 1)) n = cutB b n := bits_ext fun i hi => by
 rw [flipAt_bit _ _ _ h hi, cutB_bit _ _ _ h, cutB_bit _ _ _ hi, cutB_bit _ _ _ hi]
 by_cases e : i = n
 ·subst e; simp [hb]
 ·rw [if_neg e, show decide (i < n + 1) = decide (i < n) from decide_eq_decide.2 (by omega)]
theorem cutB_same (b : B32) (n : Nat) (h : n < 256) (hb : bitAt b n = false) : cutB b (n + 1) = cutB b n := bits_ext fun i hi => by
 rw [cutB_bit _ _ _ hi, cutB_bit _ _ _ hi]
 by_cases e : i = n
 ·subst e; simp [hb]
 ·rw [show decide (i < n + 1) = decide (i < n) from decide_eq_decide.2 (by omega)]
def cutI (b : B32) (n k : Nat) : List UInt8 := (List.range k).map (fun k => cut8 (b.1.getD k 0) (min 8 (n - 8 * k))) ++ b.1.drop k
theorem cutI_32 (b : B32) (n : Nat) : cutI b n 32 = (cutB b n).1 := by
 have := b.2
 unfold cutI cutB
 rw [List.drop_of_length_le (by omega), List.append_nil]
theorem cutI_len (b : B32) (n k : Nat) (h : k ≤ 32) : (cutI b n k).length = 32 := by
 have := b.2
 simp [cutI]
 omega
theorem cutI_get (b : B32) (n k : Nat) : (cutI b n k).getD k 0 = b.1.getD k 0 := by
 unfold cutI
 rw [List.getD, List.getElem?_append_right (by simp)]
 simp [List.getD]
theorem cutI_set (b : B32) (n k : Nat) (h : k < 32) : (cutI b n k).set k (cut8 (b.1.getD k 0) (min 8 (n - 8 * k))) = cutI b n (k + 1) := by
 have hb := b.2
 unfold cutI
 rw [List.set_append_right _ _ (by simp), List.range_succ, List.map_append, List.append_assoc]
 congr 1
 rw [List.length_map, List.length_range, Nat.sub_self, List.drop_eq_getElem_cons (by omega), List.set_cons_zero]
 rfl
theorem common_of {a b : B32} {k : Nat} (hk : k ≤ 256) (h1 : ∀ j, j < k → (bitAt a j ^^ bitAt b j) = false) (h2 : k = 256 ∨ (bitAt a k ^^ bitAt b k) = true) : common a b = k := by
 unfold common
 by_cases h : k < 256
 ·rcases h2 with h2 | h2
  ·omega
  ·rw [find_range h h2 h1]; rfl
 ·obtain rfl : k = 256 := by omega
  rw [List.find?_eq_none.2 fun i hi => by rw [h1 i (by simpa using hi)]; simp]
  rfl
theorem bitN_div (b : B32) (i : Nat) : (((b.1.getD (i / 8) 0).toNat / 2 ^ (7 - i % 8) : Nat) : Int) % 2 = ((bitN b i : Nat) : Int) := by
 unfold bitN bitAt bbit
 generalize (b.1.getD (i / 8) 0).toNat / 2 ^ (7 - i % 8) = y
 rcases (show y % 2 = 0 ∨ y % 2 = 1 by omega) with h | h
 ·rw [h]; simp; omega
 ·rw [h]; simp; omega
theorem bbit_ge (x : UInt8) (j : Nat) (h : bbit x j = true) : 2 ^ (7 - j) ≤ x.toNat := by
 apply Nat.le_of_not_lt
 intro h2
 unfold bbit at h
 rw [Nat.div_eq_of_lt h2] at h
 cases h
theorem flip_up (x : UInt8) (j : Nat) (h : bbit x j = false) : UInt8.ofBitVec (BitVec.ofNat 8 (x.toNat + 2 ^ (7 - j))) = flipB x j := by
 unfold flipB flip8
 rw [h]
 rfl
theorem flip_down (x : UInt8) (j : Nat) (h : bbit x j = true) : UInt8.ofBitVec (BitVec.ofNat 8 (x.toNat - 2 ^ (7 - j))) = flipB x j := by
 unfold flipB flip8
 rw [h]
 rfl
end Go.Proofs.YtjhlbbgikccclaaGreatDoor
