/- tree: Put, Get, Delete on the tree of a map; tree.changes: updates checked and put into order; batch.Apply, errors.Is, a Tree's Apply; multiproofs: the reference's Digest and Preimage; The subtrees on the way of a key, where they stand: plain; multiproofs: the reference's Way; multi: the ends of keys; multi.Preimages; find.Way; extract: the preimage of a subtree, the preimages on a way, Collide; A range over a function whose body may leave by a return, at a round that is known; Rows of bytes frozen; the reference's comparison of bytes; extract: pairs, compare; The reference's updates; few updates, few operations; entries alike (joined texts: U163 U174 U175 U68 E21 U76 U75 U80 U141 N21 U142 U176) -/
import Derived.Test.YtjhlbbgikccclaaGreatDoorR11
set_option linter.all false
/- U163 -/
namespace Go.Proofs.YtjhlbbgikccclaaGreatDoor
open Go.RowKit
abbrev TreeF (t0 gh : Nat) (p : Option Addr) : Fa := .blk t0 [.pointer (some ⟨gh, 0, none⟩), .pointer p] 113
def putB : ByteArray := ⟨#[112, 117, 116]⟩
def getB : ByteArray := ⟨#[103, 101, 116]⟩
def delB : ByteArray := ⟨#[100, 101, 108, 101, 116, 101]⟩
def appB : ByteArray := ⟨#[97, 112, 112, 108, 121]⟩
theorem endOk_mkT {key : B32} {m : List En} {D : Nat} (w : WayM key m D) : EndOk key (mkT m 0) D := by
 intro k' v' hw hne
 have hle := w.way.le
 rw [w.on D (Nat.le_refl _)] at hw
 rcases end_get w.last with ⟨h1, _⟩ | ⟨e, h1, hb, _⟩
 ·rw [h1, mkT_nil] at hw; cases hw
 ·rw [h1, mkT_one e hle] at hw
  injection hw with h3 h4
  rw [← h3]
  exact common_ge hle fun i hi => hb i hi
theorem entE_val {kn vn : Nat} (h : entE kn vn = 0) : vn ≤ 65535 := by
 unfold entE at h
 split at h
 ·split at h
  ·cases h
  ·omega
 ·cases h
section
variable (n : Nat) (hn : n ≤ 256) (gh gc t0 k : Nat) (hk : k ≤ 100000000) (h : Zh) [hT : RdZ h (some ⟨1, 0, none⟩) hashT] {m : List En} (hal : Alike m 0) (hml : m.length ≤ 100000) (p : Option Addr) [ht : TrZ n h (mkT m 0) p] (ks : Sl) (kb : List UInt8) [hK : SlZ h ks kb]
include hn hk hal hml
theorem TPut_ok (v : Sl) (vb : List UInt8) [hV : SlZ h v vb] (he : entE kb.length vb.length = 0) : Spec Tryz.prog 36 [.pointer (some ⟨t0, 0, none⟩), .slice ks.A ks.n ks.c, .slice v.A v.n v.c].toArray [HR gh gc n] [.zone true h, CN gc k, TreeF t0 gh p] (fun u : {u : Zh × Option Addr × Nat // LeZ h u.1 ∧ TrZ n u.1 (mkT (putM m ⟨⟨keyOf kb, v⟩, vb⟩) 0) u.2.1 ∧ u.2.2 ≤ k + 1600} => .nilIface) (fun u => [.zone true u.1.1, CN gc u.1.2.2, TreeF t0 gh u.1.2.1]) := by
 have hvn := hV.len
 have hS := tStart_ok h ks kb t0 putB v (by rw [hvn]; exact he)
 obtain ⟨D, w⟩ := wayM (key := keyOf kb) hal
 have hcnt := mkT_cnt (d := 0) (by omega) hal
 have hvl := entE_val he
 have hP := PPut_s n hn gh gc k hk h (mkT m 0) p (keyOf kb) v vb (by omega) D w.way (endOk_mkT w) (by omega)
 have hpt : putT (keyOf kb) vb (mkT m 0) D = mkT (putM m ⟨⟨keyOf kb, v⟩, vb⟩) 0 := putT_mkT (e := ⟨⟨keyOf kb, v⟩, vb⟩) w
 rw [hpt] at hP
 refine spec_of Tryz.func36 rfl (n := 32) rfl rfl ?_
 intro W
 refine yR ?_
 refine yS rfl ?_
 refine yN ?_
 refine yR ?_
 refine yM rfl ?_
 refine yM rfl ?_
 refine yM rfl ?_
 refine h_call (hS.comes) rfl rfl rfl fun _ => ?_
 refine yM rfl ?_
 refine h_op (r_extract rfl rfl) ?_
 refine h_op (r_extract rfl rfl) ?_
 refine h_opX (x_alloc) fun g7 => ?_
 refine h_opS (s_storer rfl rfl) ?_
 refine yS rfl ?_
 refine yN ?_
 refine h_seq ?_
 refine yR ?_
 refine yM rfl ?_
 refine h_op (r_nilnil rfl) ?_
 refine yN ?_
 refine h_condT rfl ?_
 refine ha_start [.blk t0 [.pointer (some ⟨gh, 0, none⟩), .pointer p] 113, .blk g7 (Entry.cells ⟨keyOf kb, v⟩) 89] [] mixed (same) ?_
 refine ha_takeP 0 rfl (r_move rfl) ?_
 refine ha_takeP 1 rfl (r_move rfl) ?_
 refine ha_takeP 2 rfl (r_nilc rfl) ?_
 refine ha_takeP 3 rfl (r_field rfl) ?_
 refine ha_take 4 rfl (r_loadc rfl) ?_
 refine ha_takeP 5 rfl (r_move rfl) ?_
 refine ha_takeP 6 rfl (r_nilc rfl) ?_
 refine ha_takeP 7 rfl (r_field rfl) ?_
 refine ha_take 8 rfl (r_loadc rfl) ?_
 refine ha_take 9 rfl (r_loadr rfl) ?_
 refine ha_one 10 ?_
 refine ho_C 10 rfl (hP.comes) rfl rfl rfl (fun xx => same) fun ⟨⟨h1, q, k1⟩, hle, htq, hk1⟩ => ?_
 refine ha_takeP 11 rfl (r_nilc rfl) ?_
 refine ha_takeP 12 rfl (r_field rfl) ?_
 refine ha_one 13 ?_
 refine ho_SL 13 rfl (s_store rfl rfl rfl) ?_
 refine q_then ?_
 dsimp only at hle htq hk1 ⊢
 refine yR ?_
 refine yM rfl ?_
 refine yS rfl ?_
 refine yN ?_
 refine h_ret ?_
 exact h_ret1 rfl rfl fun w s => ⟨⟨(h1, q, k1), hle, htq, hk1⟩, rfl, (same (L' := [.zone true h1, CN gc k1, TreeF t0 gh q]) w s).res (List.Sublist.refl _) (by simp [Fa.wr])⟩
omit hT ht in
omit hn hk hal hml in
theorem TPut_bad (v : Sl) (he : entE kb.length v.n ≠ 0) : Spec Tryz.prog 36 [.pointer (some ⟨t0, 0, none⟩), .slice ks.A ks.n ks.c, .slice v.A v.n v.c].toArray [.zone false h] [] (fun g : Nat => .iface 145 (.pointer (some ⟨g, 0, none⟩))) (fun g => [.blk g (fltC putB 0 (entE kb.length v.n)) 284]) := by
 have hS := tStart_bad h ks kb t0 putB v he
 refine spec_of Tryz.func36 rfl (n := 32) rfl rfl ?_
 intro W
 refine yR ?_
 refine yS rfl ?_
 refine yN ?_
 refine yR ?_
 refine yM rfl ?_
 refine yM rfl ?_
 refine yM rfl ?_
 refine h_call (hS.comes) rfl rfl rfl fun g13 => ?_
 refine yM rfl ?_
 refine h_op (r_extract rfl rfl) ?_
 refine h_op (r_extract rfl rfl) ?_
 refine h_opX (x_alloc) fun g7 => ?_
 refine h_opS (s_storer rfl rfl) ?_
 refine yS rfl ?_
 refine yN ?_
 refine h_seq ?_
 refine yR ?_
 refine yM rfl ?_
 refine h_op (r_ifnil rfl) ?_
 refine yN ?_
 refine h_condF rfl ?_
 refine h_skip ?_
 refine q_then ?_
 refine yR ?_
 refine yM rfl ?_
 refine yS rfl ?_
 refine yN ?_
 refine h_ret ?_
 exact h_ret1 rfl rfl fun w s => ⟨g13, rfl, (same (L' := [.blk g13 (fltC putB 0 (entE kb.length v.n)) 284]) w s).res (List.Sublist.refl _) (by simp [Fa.wr])⟩
omit hn hk hml in
omit hT in
include ht in
theorem TGet_ok (he : kb.length = 32) (hvl : ∀ e ∈ m, e.val.length ≤ 1000000000) : Spec Tryz.prog 39 [.pointer (some ⟨t0, 0, none⟩), .slice ks.A ks.n ks.c].toArray [.rd (some ⟨t0, 0, none⟩) [.pointer (some ⟨gh, 0, none⟩), .pointer p], .zone false h] [] (fun u : Option Addr × Nat => .tuple #[.slice u.1 (getV (getE' m (keyOf kb))).length u.2, .bool (getE' m (keyOf kb)).isSome, .nilIface]) (fun u => [.own (.slice u.1 (getV (getE' m (keyOf kb))).length u.2) (getV (getE' m (keyOf kb))).length 5 1 (bc (getV (getE' m (keyOf kb))))]) := by
 have hS := tStart_ok h ks kb t0 getB ⟨none, 0, 0⟩ (by unfold entE; rw [if_pos he]; rfl)
 obtain ⟨D, w⟩ := wayM (key := keyOf kb) hal
 have hG := FGet_s n h m p (keyOf kb) D w hvl
 generalize getE' m (keyOf kb) = o at *
 refine spec_of Tryz.func39 rfl (n := 32) rfl rfl ?_
 intro W
 refine yR ?_
 refine yS rfl ?_
 refine yS rfl ?_
 refine yS rfl ?_
 refine yN ?_
 refine yR ?_
 refine yM rfl ?_
 refine yM rfl ?_
 refine h_call (hS.comes) rfl rfl rfl fun _ => ?_
 refine yM rfl ?_
 refine h_op (r_extract rfl rfl) ?_
 refine h_op (r_extract rfl rfl) ?_
 refine h_opX (x_alloc) fun g7 => ?_
 refine h_opS (s_storer rfl rfl) ?_
 refine yS rfl ?_
 refine yN ?_
 refine h_seq ?_
 refine yR ?_
 refine yM rfl ?_
 refine h_op (r_nilnn rfl) ?_
 refine yN ?_
 refine h_condF rfl ?_
 refine h_skip ?_
 refine q_then ?_
 refine h_seq ?_
 refine ha_start [.rd (some ⟨t0, 0, none⟩) [.pointer (some ⟨gh, 0, none⟩), .pointer p], .blk g7 (Entry.cells ⟨keyOf kb, ⟨none, 0, 0⟩⟩) 89] [] mixed (same) ?_
 refine ha_takeP 0 rfl (r_move rfl) ?_
 refine ha_takeP 1 rfl (r_nilc rfl) ?_
 refine ha_takeP 2 rfl (r_field rfl) ?_
 refine ha_take 3 rfl (r_loadc rfl) ?_
 refine ha_takeP 4 rfl (r_field rfl) ?_
 refine ha_take 5 rfl (r_loadr rfl) ?_
 refine ha_one 6 ?_
 refine ho_C 6 rfl (hG.comes) rfl rfl rfl (fun xx => same) fun ⟨A27, c27⟩ => ?_
 refine ha_takeP 7 rfl (r_move rfl) ?_
 refine ha_takeP 8 rfl (r_extract rfl rfl) ?_
 refine ha_takeP 9 rfl (r_extract rfl rfl) ?_
 refine ha_takeP 10 rfl (r_assign rfl) ?_
 refine ha_takeP 11 rfl (r_assign rfl) ?_
 refine ha_done (by kernel_rfl) ?_
 refine q_then ?_
 refine yR ?_
 refine yM rfl ?_
 refine yM rfl ?_
 refine yS rfl ?_
 refine yS rfl ?_
 refine yS rfl ?_
 refine yN ?_
 refine h_ret ?_
 exact h_ret3 rfl rfl rfl rfl fun w s => ⟨(A27, c27), rfl, (same (L' := [.own (.slice A27 (getV o).length c27) (getV o).length 5 1 (bc (getV o))]) w s).res (List.Sublist.refl _) (by simp [Fa.wr])⟩
omit hT ht in
omit hn hk hal hml in
theorem TGet_bad (he : kb.length ≠ 32) : Spec Tryz.prog 39 [.pointer (some ⟨t0, 0, none⟩), .slice ks.A ks.n ks.c].toArray [.zone false h] [] (fun g : Nat => .tuple #[.slice none 0 0, .bool false, .iface 145 (.pointer (some ⟨g, 0, none⟩))]) (fun g => [.blk g (fltC getB 0 2) 284]) := by
 have h2 : entE kb.length (⟨none, 0, 0⟩ : Sl).n = 2 := by unfold entE; rw [if_neg he]
 have hS := tStart_bad h ks kb t0 getB ⟨none, 0, 0⟩ (by rw [h2]; decide)
 rw [h2] at hS
 refine spec_of Tryz.func39 rfl (n := 32) rfl rfl ?_
 intro W
 refine yR ?_
 refine yS rfl ?_
 refine yS rfl ?_
 refine yS rfl ?_
 refine yN ?_
 refine yR ?_
 refine yM rfl ?_
 refine yM rfl ?_
 refine h_call (hS.comes) rfl rfl rfl fun g14 => ?_
 refine yM rfl ?_
 refine h_op (r_extract rfl rfl) ?_
 refine h_op (r_extract rfl rfl) ?_
 refine h_opX (x_alloc) fun g7 => ?_
 refine h_opS (s_storer rfl rfl) ?_
 refine yS rfl ?_
 refine yN ?_
 refine h_seq ?_
 refine yR ?_
 refine yM rfl ?_
 refine h_op (r_ifnn rfl) ?_
 refine yN ?_
 refine h_condT rfl ?_
 refine yR ?_
 refine yM rfl ?_
 refine yS rfl ?_
 refine yS rfl ?_
 refine yS rfl ?_
 refine yN ?_
 refine h_ret ?_
 refine q_thenR ?_
 exact h_ret3 rfl rfl rfl rfl fun w s => ⟨g14, rfl, (same (L' := [.blk g14 (fltC getB 0 2) 284]) w s).res (List.Sublist.refl _) (by simp [Fa.wr])⟩
theorem TDel_ok (he : kb.length = 32) : Spec Tryz.prog 47 [.pointer (some ⟨t0, 0, none⟩), .slice ks.A ks.n ks.c].toArray [HR gh gc n] [.zone true h, CN gc k, TreeF t0 gh p] (fun u : {u : Zh × Option Addr × Nat // LeZ h u.1 ∧ TrZ n u.1 (mkT (remK m (keyOf kb)) 0) u.2.1 ∧ u.2.2 ≤ k + 771} => .tuple #[.bool (hasK m (keyOf kb)), .nilIface]) (fun u => [.zone true u.1.1, CN gc u.1.2.2, TreeF t0 gh u.1.2.1]) := by
 have hS := tStart_ok h ks kb t0 delB ⟨none, 0, 0⟩ (by unfold entE; rw [if_pos he]; rfl)
 have hR := xRemove_s n hn gh gc (keyOf kb) hal (by omega) h k p hT ht (by omega)
 generalize hasK m (keyOf kb) = b at *
 refine spec_of Tryz.func47 rfl (n := 38) rfl rfl ?_
 intro W
 refine yR ?_
 refine yS rfl ?_
 refine yS rfl ?_
 refine yN ?_
 refine yR ?_
 refine yM rfl ?_
 refine yM rfl ?_
 refine h_call (hS.comes) rfl rfl rfl fun _ => ?_
 refine yM rfl ?_
 refine h_op (r_extract rfl rfl) ?_
 refine h_op (r_extract rfl rfl) ?_
 refine h_opX (x_alloc) fun g6 => ?_
 refine h_opS (s_storer rfl rfl) ?_
 refine yS rfl ?_
 refine yN ?_
 refine h_seq ?_
 refine yR ?_
 refine yM rfl ?_
 refine h_op (r_nilnn rfl) ?_
 refine yN ?_
 refine h_condF rfl ?_
 refine h_skip ?_
 refine q_then ?_
 refine h_seq ?_
 refine ha_start [.blk t0 [.pointer (some ⟨gh, 0, none⟩), .pointer p] 113, .blk g6 (Entry.cells ⟨keyOf kb, ⟨none, 0, 0⟩⟩) 89] [] mixed (same) ?_
 refine ha_takeP 0 rfl (r_move rfl) ?_
 refine ha_takeP 1 rfl (r_nilc rfl) ?_
 refine ha_takeP 2 rfl (r_field rfl) ?_
 refine ha_take 3 rfl (r_loadc rfl) ?_
 refine ha_takeP 4 rfl (r_move rfl) ?_
 refine ha_takeP 5 rfl (r_nilc rfl) ?_
 refine ha_takeP 6 rfl (r_field rfl) ?_
 refine ha_take 7 rfl (r_loadc rfl) ?_
 refine ha_takeP 8 rfl (r_field rfl) ?_
 refine ha_take 9 rfl (r_loadr rfl) ?_
 refine ha_one 10 ?_
 refine ho_C 10 rfl (hR.comes) rfl rfl rfl (fun xx => same) fun ⟨⟨h1, q, k1⟩, hle, htq, hk1⟩ => ?_
 refine ha_takeP 11 rfl (r_move rfl) ?_
 refine ha_takeP 12 rfl (r_extract rfl rfl) ?_
 refine ha_takeP 13 rfl (r_extract rfl rfl) ?_
 refine ha_takeP 14 rfl (r_assign rfl) ?_
 refine ha_takeP 15 rfl (r_assign rfl) ?_
 refine ha_done (by kernel_rfl) ?_
 refine q_then ?_
 dsimp only at hle htq hk1 ⊢
 refine yR ?_
 refine yM rfl ?_
 refine yM rfl ?_
 refine h_op (r_nilc rfl) ?_
 refine h_op (r_field rfl) ?_
 refine h_opS (s_store rfl rfl rfl) ?_
 refine yN ?_
 refine yR ?_
 refine yM rfl ?_
 refine yS rfl ?_
 refine yS rfl ?_
 refine yN ?_
 refine h_ret ?_
 exact h_ret2 rfl rfl rfl fun w s => ⟨⟨(h1, q, k1), hle, htq, hk1⟩, rfl, (same (L' := [.zone true h1, CN gc k1, TreeF t0 gh q]) w s).res (List.Sublist.refl _) (by simp [Fa.wr])⟩
omit hT ht in
omit hn hk hal hml in
theorem TDel_bad (he : kb.length ≠ 32) : Spec Tryz.prog 47 [.pointer (some ⟨t0, 0, none⟩), .slice ks.A ks.n ks.c].toArray [.zone false h] [] (fun g : Nat => .tuple #[.bool false, .iface 145 (.pointer (some ⟨g, 0, none⟩))]) (fun g => [.blk g (fltC delB 0 2) 284]) := by
 have h2 : entE kb.length (⟨none, 0, 0⟩ : Sl).n = 2 := by unfold entE; rw [if_neg he]
 have hS := tStart_bad h ks kb t0 delB ⟨none, 0, 0⟩ (by rw [h2]; decide)
 rw [h2] at hS
 refine spec_of Tryz.func47 rfl (n := 38) rfl rfl ?_
 intro W
 refine yR ?_
 refine yS rfl ?_
 refine yS rfl ?_
 refine yN ?_
 refine yR ?_
 refine yM rfl ?_
 refine yM rfl ?_
 refine h_call (hS.comes) rfl rfl rfl fun g13 => ?_
 refine yM rfl ?_
 refine h_op (r_extract rfl rfl) ?_
 refine h_op (r_extract rfl rfl) ?_
 refine h_opX (x_alloc) fun g6 => ?_
 refine h_opS (s_storer rfl rfl) ?_
 refine yS rfl ?_
 refine yN ?_
 refine h_seq ?_
 refine yR ?_
 refine yM rfl ?_
 refine h_op (r_ifnn rfl) ?_
 refine yN ?_
 refine h_condT rfl ?_
 refine yR ?_
 refine yM rfl ?_
 refine yS rfl ?_
 refine yS rfl ?_
 refine yN ?_
 refine h_ret ?_
 refine q_thenR ?_
 exact h_ret2 rfl rfl rfl fun w s => ⟨g13, rfl, (same (L' := [.blk g13 (fltC delB 0 2) 284]) w s).res (List.Sublist.refl _) (by simp [Fa.wr])⟩
end
end Go.Proofs.YtjhlbbgikccclaaGreatDoor
/- U174 -/
namespace Go.Proofs.YtjhlbbgikccclaaGreatDoor
open Go.RowKit
def vsU (x : CB) : Sl := if x.c.present then ⟨none, 0, 0⟩ else x.c.value
theorem vsU_n {h : Zh} {x : CB} (hz : SlZ h x.c.value x.vb) : (vsU x).n = vlU x := by
 have := hz.len
 unfold vsU vlU
 split
 ·rfl
 ·exact this
theorem chU_cells (x : CB) : (chU x).st.cells = Change.cells ⟨keyOf x.kb, vsU x, x.c.present⟩ := by
 unfold chU vsU Chg.st
 cases x.c.present <;> rfl
def ksU (l : List CB) (i : Nat) : List B32 := (l.take i).map fun x => keyOf x.kb
theorem ksU_len {l : List CB} {i : Nat} (h : i ≤ l.length) : (ksU l i).length = i := by unfold ksU; rw [List.length_map, List.length_take]; omega
theorem ksU_snoc {l : List CB} {i : Nat} (h : i < l.length) : ksU l i ++ [keyOf (l.getD i zCB).kb] = ksU l (i + 1) := by
 unfold ksU
 rw [take_snocE (getD_get zCB h), List.map_append]
 rfl
theorem ksU_mem {l : List CB} {i : Nat} (hi : i < l.length) (hz : ∀ j, j < i → errU l j = 0) (h0 : entU (l.getD i zCB) = 0) : errU l i = if keyOf (l.getD i zCB).kb ∈ ksU l i then 9 else 0 := by
 unfold errU
 rw [if_pos h0]
 have hk := entE_key h0
 have : (l.take i).any (fun y => decide (y.kb = (l.getD i zCB).kb)) = decide (keyOf (l.getD i zCB).kb ∈ ksU l i) := by
  rw [Bool.eq_iff_iff, decide_eq_true_iff, List.any_eq_true]
  unfold ksU
  constructor
  ·rintro ⟨y, hy, he⟩
   exact List.mem_map.2 ⟨y, hy, by rw [of_decide_eq_true he]⟩
  ·intro hm
   obtain ⟨y, hy, hk2⟩ := List.mem_map.1 hm
   refine ⟨y, hy, decide_eq_true ?_⟩
   obtain ⟨j, hj, hyj⟩ := List.getElem_of_mem hy
   rw [List.length_take] at hj
   have hyl : (l.getD j zCB) = y := by
    rw [List.getElem_take] at hyj
    rw [List.getD_eq_getElem?_getD, List.getElem?_eq_getElem (by omega)]
    exact hyj
   have h1 := errU_len (hz j (by omega))
   rw [hyl] at h1
   exact keyOf_inj h1 hk hk2
 rw [this]
 by_cases hm : keyOf (l.getD i zCB).kb ∈ ksU l i
 ·rw [if_pos hm, decide_eq_true hm]; rfl
 ·rw [if_neg hm, decide_eq_false hm]; rfl
theorem errU_ent {l : List CB} {i : Nat} (h0 : entU (l.getD i zCB) ≠ 0) : errU l i = entU (l.getD i zCB) := by unfold errU; rw [if_neg h0]
def chT (l : List CB) (i : Nat) : List Chg := (l.take i).map chU
theorem chT_snoc {l : List CB} {i : Nat} (h : i < l.length) : chT l i ++ [chU (l.getD i zCB)] = chT l (i + 1) := by
 unfold chT
 rw [take_snocE (getD_get zCB h), List.map_append]
 rfl
theorem chgs_snocU (l : List Chg) (x : Chg) : chgs l ++ x.st.cells = chgs (l ++ [x]) := by unfold chgs; rw [List.flatMap_append, List.flatMap_singleton]; rfl
theorem ordC_of {l l' : List Chg} (hn : (l.map Chg.key).Nodup) (hp : l'.Perm l) (h : l'.Pairwise fun x y => ¬ cmpB y.key x.key < 0) : OrdC l' := by
 have hn2 : l'.Pairwise fun x y => x.key ≠ y.key := List.pairwise_map.1 ((hp.map _).nodup_iff.2 hn)
 exact List.pairwise_map.2 ((h.and hn2).imp fun ⟨h1, h2⟩ => (cmpB_tri _ _ h1).resolve_left fun e => h2 e.symm)
abbrev ChU (l : List CB) (r : Option (Nat × Int)) : Type := {u : Nat × Option Addr × Nat × List Chg // r = none → u.2.2.2.Perm (l.map chU) ∧ OrdC u.2.2.2}
def chuV (l : List CB) : (r : Option (Nat × Int)) → ChU l r → Value
 | none, u => .tuple #[.slice u.1.2.1 u.1.2.2.2.length u.1.2.2.1, .nilIface]
 | some _, u => .tuple #[.slice none 0 0, .iface 145 (.pointer (some ⟨u.1.1, 0, none⟩))]
def chuN (l : List CB) : (r : Option (Nat × Int)) → ChU l r → List Fa
 | none, u => [.own (.slice u.1.2.1 u.1.2.2.2.length u.1.2.2.1) u.1.2.2.2.length 37 34 (chgs u.1.2.2.2)]
 | some (i, e), u => [.blk u.1.1 (fltC appB (i : Int) e) 284]
theorem Changes_s (h : Zh) (l : List CB) (A : Option Addr) (c : Nat) [hr : RdZ h A (cbs l)] (hz : ClsZ h l) (hl : l.length ≤ 1000000) (r : Option (Nat × Int)) (hR : checkU l = r) : Spec Tryz.prog 56 [.slice A l.length c].toArray [.zone false h] [] (chuV l r) (chuN l r) := by
 refine spec_of Tryz.func56 rfl (n := 59) rfl rfl ?_
 intro W
 refine yR ?_
 refine yS rfl ?_
 refine yS rfl ?_
 refine yN ?_
 refine yR ?_
 refine yS rfl ?_
 refine yN ?_
 refine yR ?_
 refine h_opX (x_makeMap) fun g10 => ?_
 refine yS rfl ?_
 refine yN ?_
 refine h_seq ?_
 refine yR ?_
 refine yM rfl ?_
 refine h_op (r_len rfl) ?_
 refine yM rfl ?_
 refine yN ?_
 refine h_block ?_
 refine h_nil_own 37 34 (xs := []) rfl ?_
 refine h_loop (fun (s : Nat × Option Addr × Nat) => s.1 ≤ l.length ∧ ∀ j, j < s.1 → errU l j = 0) (fun (s : Nat × Option Addr × Nat) => [(13, .int .i64 (s.1 : Int)), (12, .int .i64 (l.length : Int)), (11, .slice A l.length c), (4, .slice s.2.1 s.1 s.2.2), (5, .map (some g10))]) (fun (s : Nat × Option Addr × Nat) => [.own (.slice s.2.1 s.1 s.2.2) s.1 37 34 (chgs (chT l s.1)), .obj g10 (.map (mapE (ksU l s.1)) (ksU l s.1).length), .zone false h]) (fun (s : Nat × Option Addr × Nat) => l.length - s.1) (0, none, 0) (⟨Nat.zero_le _, fun j hj => absurd hj (Nat.not_lt_zero j)⟩) ⟨rfl, rfl, rfl, rfl, rfl, trivial⟩ (same (L' := [.own (.slice none 0 0) 0 37 34 [], .obj g10 (.map (mapE []) 0), .zone false h])) ?_
 rintro ⟨i, A4, c4⟩ ⟨hi, hzz⟩
 dsimp only at hi hzz ⊢
 refine yR ?_
 refine h_op (r_lss rfl rfl) ?_
 refine yN ?_
 refine h_seq ?_
 refine h_cond rfl (fun hlt => ?_) (fun hlt => ?_)
 ·have hi2 : i < l.length := by omega
  have hx := getD_get zCB hi2
  obtain ⟨b, o, rfl, -⟩ := hr.at_ (i * 3) _ (cbs_at hx 0 _ rfl)
  have hsome := firstF_some (errU l) i
  have hz0 : ∀ j, 0 ≤ j → j < i → errU l j = 0 := fun j _ hj => hzz j hj
  have hE1 := fun h0 => errU_ent (l := l) (i := i) h0
  have hE2 := fun h0 => ksU_mem hi2 hzz h0
  have hsn := ksU_snoc hi2
  have hcs := chT_snoc hi2
  have hzx := hz.get hi2
  have hcc := chU_cells (l.getD i zCB)
  have hkl := ksU_len (l := l) (i := i) (by omega)
  have hR2 : errU l i ≠ 0 → checkU l = some (i, errU l i) := fun hne => hsome hne l.length 0 (Nat.zero_le _) (by omega) hz0
  have hnx : errU l i = 0 → ∀ j, j < i + 1 → errU l j = 0 := fun he j hj => by
   rcases Nat.lt_or_ge j i with h9 | h9
   ·exact hzz j h9
   ·obtain rfl : j = i := by omega
    exact he
  generalize l.getD i zCB = x at *
  have hzk : SlZ h x.c.key x.kb := hzx.1
  have hvn := vsU_n hzx.2
  have hTE := TEntry_s h x.c.key x.kb (vsU x)
  have hen : entE x.kb.length (vsU x).n = entU x := by unfold entU; rw [hvn]
  rw [hen] at hTE
  refine h_skip ?_
  refine q_then ?_
  refine h_seq ?_
  refine h_block ?_
  refine yR ?_
  refine yM rfl ?_
  refine h_op (r_idx rfl rfl) ?_
  refine h_op (r_nthr rfl (out := x.c.cells) (Claim.cells_length _) (cbs_at hx)) ?_
  refine h_opX (x_alloc) fun g7 => ?_
  refine yS rfl ?_
  refine h_opS (s_storer rfl rfl) ?_
  refine yN ?_
  refine h_seq ?_
  refine yR ?_
  refine h_op (r_field rfl) ?_
  refine h_op (r_loadc rfl) ?_
  refine yN ?_
  cases hp : x.c.present
  ·rw [show vsU x = x.c.value by unfold vsU; rw [hp]; rfl] at *
   refine h_condF rfl ?_
   refine h_skip ?_
   refine q_then ?_
   refine yR ?_
   refine h_op (r_field rfl) ?_
   refine h_op (r_loadc rfl) ?_
   refine h_op (r_field rfl) ?_
   refine h_op (r_loadc rfl) ?_
   refine h_call (hTE.comes) rfl rfl rfl fun _ => ?_
   by_cases h0 : entU x = 0
   ·rw [h0]
    have hE3 := hE2 h0
    by_cases hm : keyOf x.kb ∈ ksU l i
    ·rw [if_pos hm] at hE3
     obtain rfl : some (i, (9 : Int)) = r := by rw [← hR, hR2 (by rw [hE3]; decide), hE3]
     refine yM rfl ?_
     refine h_op (r_extract rfl rfl) ?_
     refine h_op (r_extract rfl rfl) ?_
     refine h_opX (x_alloc) fun g8 => ?_
     refine h_opS (s_storer rfl rfl) ?_
     refine yS rfl ?_
     refine yN ?_
     refine h_seq ?_
     refine yR ?_
     refine yM rfl ?_
     refine h_op (r_bool (r_eql rfl rfl) (show _ = true from rfl)) ?_
     refine yM rfl ?_
     refine yM rfl ?_
     refine h_op (r_field rfl) ?_
     refine h_op (r_loadr rfl) ?_
     refine h_op (r_bool (r_lookupB (c := (ksU l i).length) rfl rfl) (decide_eq_true hm)) ?_
     refine h_op (r_pick rfl rfl) ?_
     refine yN ?_
     refine h_condT rfl ?_
     refine h_reg ?_
     refine yS rfl ?_
     refine yN ?_
     refine h_seq ?_
     refine yR ?_
     refine yM rfl ?_
     refine h_op (r_neq rfl rfl) ?_
     refine yN ?_
     refine h_condT rfl ?_
     refine yR ?_
     refine yM rfl ?_
     refine yM rfl ?_
     refine h_call ((tFail_s appB (i : Int) 9 (by decide)).comes) rfl rfl rfl fun g41 => ?_
     refine yS rfl ?_
     refine yS rfl ?_
     refine yN ?_
     refine h_ret ?_
     refine q_thenR ?_
     refine q_blockR ?_
     refine q_thenR ?_
     refine q_thenR ?_
     refine q_blockR ?_
     refine q_thenR ?_
     exact h_ret2 rfl rfl rfl fun w s => ⟨⟨(g41, none, 0, []), fun h => by cases h⟩, rfl, (same (L' := [.blk g41 (fltC appB (i : Int) 9) 284]) w s).res (List.Sublist.refl _) (by simp [Fa.wr, chuN])⟩
    ·rw [if_neg hm] at hE3
     refine yM rfl ?_
     refine h_op (r_extract rfl rfl) ?_
     refine h_op (r_extract rfl rfl) ?_
     refine h_opX (x_alloc) fun g8 => ?_
     refine h_opS (s_storer rfl rfl) ?_
     refine yS rfl ?_
     refine yN ?_
     refine h_seq ?_
     refine yR ?_
     refine yM rfl ?_
     refine h_op (r_bool (r_eql rfl rfl) (show _ = true from rfl)) ?_
     refine yM rfl ?_
     refine yM rfl ?_
     refine h_op (r_field rfl) ?_
     refine h_op (r_loadr rfl) ?_
     refine h_op (r_bool (r_lookupB (c := (ksU l i).length) rfl rfl) (decide_eq_false hm)) ?_
     refine h_op (r_pick rfl rfl) ?_
     refine yN ?_
     refine h_condF rfl ?_
     refine h_skip ?_
     refine q_then ?_
     refine h_seq ?_
     refine yR ?_
     refine yM rfl ?_
     refine h_op (r_neq rfl rfl) ?_
     refine yN ?_
     refine h_condF rfl ?_
     refine h_skip ?_
     refine q_then ?_
     refine yR ?_
     refine yM rfl ?_
     refine h_op (r_field rfl) ?_
     refine h_op (r_loadr rfl) ?_
     refine h_opS (s_mapPutB rfl rfl rfl hm) ?_
     refine yN ?_
     refine h_reg ?_
     refine yM rfl ?_
     refine h_op (r_field rfl) ?_
     refine h_op (r_loadr rfl) ?_
     refine h_op (r_field rfl) ?_
     refine h_op (r_loadc rfl) ?_
     refine h_op (r_field rfl) ?_
     refine h_op (r_loadc rfl) ?_
     refine h_op (r_build (out := Change.cells ⟨keyOf x.kb, x.c.value, x.c.present⟩) rfl) ?_
     refine h_opX (x_bsl rfl rfl) fun g53 => ?_
     refine h_opX (x_app rfl rfl (k := 34)) fun ⟨g54, c54⟩ => ?_
     refine yS rfl ?_
     refine h_nil ?_
     refine q_block ?_
     refine q_then ?_
     refine h_reg ?_
     refine h_op (r_add rfl rfl) ?_
     refine yM rfl ?_
     refine h_nil ?_
     rw [← hcc, chgs_snocU, hcs, hsn]
     exact h_back (i + 1, some ⟨g54, 0, none⟩, c54) (⟨hi2, hnx hE3⟩) ((show l.length - (i + 1) < l.length - i by omega)) ⟨rfl, rfl, rfl, rfl, rfl, trivial⟩ (same)
   ·have hE3 := hE1 h0
    obtain rfl : some (i, entU x) = r := by rw [← hR, hR2 (by rw [hE3]; exact h0), hE3]
    refine yM rfl ?_
    refine h_op (r_extract rfl rfl) ?_
    refine h_op (r_extract rfl rfl) ?_
    refine h_opX (x_alloc) fun g8 => ?_
    refine h_opS (s_storer rfl rfl) ?_
    refine yS rfl ?_
    refine yN ?_
    refine h_seq ?_
    refine yR ?_
    refine yM rfl ?_
    refine h_op (r_bool (r_eql rfl rfl) (decide_eq_false h0)) ?_
    refine yM rfl ?_
    refine h_opOff ?_
    refine h_opOff ?_
    refine h_opOff ?_
    refine h_opOff ?_
    refine h_op (r_pick rfl rfl) ?_
    refine yN ?_
    refine h_condF rfl ?_
    refine h_skip ?_
    refine q_then ?_
    refine h_seq ?_
    refine yR ?_
    refine yM rfl ?_
    refine h_op (r_neq rfl rfl) ?_
    refine yN ?_
    refine h_yes rfl (h0) ?_
    refine yR ?_
    refine yM rfl ?_
    refine yM rfl ?_
    refine h_call ((tFail_s appB (i : Int) (entU x) h0).comes) rfl rfl rfl fun g41 => ?_
    refine yS rfl ?_
    refine yS rfl ?_
    refine yN ?_
    refine h_ret ?_
    refine q_thenR ?_
    refine q_blockR ?_
    refine q_thenR ?_
    refine q_thenR ?_
    refine q_blockR ?_
    refine q_thenR ?_
    exact h_ret2 rfl rfl rfl fun w s => ⟨⟨(g41, none, 0, []), fun h => by cases h⟩, rfl, (same (L' := [.blk g41 (fltC appB (i : Int) (entU x)) 284]) w s).res (List.Sublist.refl _) (by simp [Fa.wr, chuN])⟩
  ·rw [show vsU x = ⟨none, 0, 0⟩ by unfold vsU; rw [hp]; rfl] at *
   refine h_condT rfl ?_
   refine h_reg ?_
   refine h_op (r_field rfl) ?_
   refine h_opS (s_store rfl rfl rfl) ?_
   refine yN ?_
   refine yR ?_
   refine h_op (r_field rfl) ?_
   refine h_op (r_loadc rfl) ?_
   refine h_op (r_field rfl) ?_
   refine h_op (r_loadc rfl) ?_
   refine h_call (hTE.comes) rfl rfl rfl fun _ => ?_
   by_cases h0 : entU x = 0
   ·rw [h0]
    have hE3 := hE2 h0
    by_cases hm : keyOf x.kb ∈ ksU l i
    ·rw [if_pos hm] at hE3
     obtain rfl : some (i, (9 : Int)) = r := by rw [← hR, hR2 (by rw [hE3]; decide), hE3]
     refine yM rfl ?_
     refine h_op (r_extract rfl rfl) ?_
     refine h_op (r_extract rfl rfl) ?_
     refine h_opX (x_alloc) fun g8 => ?_
     refine h_opS (s_storer rfl rfl) ?_
     refine yS rfl ?_
     refine yN ?_
     refine h_seq ?_
     refine yR ?_
     refine yM rfl ?_
     refine h_op (r_bool (r_eql rfl rfl) (show _ = true from rfl)) ?_
     refine yM rfl ?_
     refine yM rfl ?_
     refine h_op (r_field rfl) ?_
     refine h_op (r_loadr rfl) ?_
     refine h_op (r_bool (r_lookupB (c := (ksU l i).length) rfl rfl) (decide_eq_true hm)) ?_
     refine h_op (r_pick rfl rfl) ?_
     refine yN ?_
     refine h_condT rfl ?_
     refine h_reg ?_
     refine yS rfl ?_
     refine yN ?_
     refine h_seq ?_
     refine yR ?_
     refine yM rfl ?_
     refine h_op (r_neq rfl rfl) ?_
     refine yN ?_
     refine h_condT rfl ?_
     refine yR ?_
     refine yM rfl ?_
     refine yM rfl ?_
     refine h_call ((tFail_s appB (i : Int) 9 (by decide)).comes) rfl rfl rfl fun g41 => ?_
     refine yS rfl ?_
     refine yS rfl ?_
     refine yN ?_
     refine h_ret ?_
     refine q_thenR ?_
     refine q_blockR ?_
     refine q_thenR ?_
     refine q_thenR ?_
     refine q_blockR ?_
     refine q_thenR ?_
     exact h_ret2 rfl rfl rfl fun w s => ⟨⟨(g41, none, 0, []), fun h => by cases h⟩, rfl, (same (L' := [.blk g41 (fltC appB (i : Int) 9) 284]) w s).res (List.Sublist.refl _) (by simp [Fa.wr, chuN])⟩
    ·rw [if_neg hm] at hE3
     refine yM rfl ?_
     refine h_op (r_extract rfl rfl) ?_
     refine h_op (r_extract rfl rfl) ?_
     refine h_opX (x_alloc) fun g8 => ?_
     refine h_opS (s_storer rfl rfl) ?_
     refine yS rfl ?_
     refine yN ?_
     refine h_seq ?_
     refine yR ?_
     refine yM rfl ?_
     refine h_op (r_bool (r_eql rfl rfl) (show _ = true from rfl)) ?_
     refine yM rfl ?_
     refine yM rfl ?_
     refine h_op (r_field rfl) ?_
     refine h_op (r_loadr rfl) ?_
     refine h_op (r_bool (r_lookupB (c := (ksU l i).length) rfl rfl) (decide_eq_false hm)) ?_
     refine h_op (r_pick rfl rfl) ?_
     refine yN ?_
     refine h_condF rfl ?_
     refine h_skip ?_
     refine q_then ?_
     refine h_seq ?_
     refine yR ?_
     refine yM rfl ?_
     refine h_op (r_neq rfl rfl) ?_
     refine yN ?_
     refine h_condF rfl ?_
     refine h_skip ?_
     refine q_then ?_
     refine yR ?_
     refine yM rfl ?_
     refine h_op (r_field rfl) ?_
     refine h_op (r_loadr rfl) ?_
     refine h_opS (s_mapPutB rfl rfl rfl hm) ?_
     refine yN ?_
     refine h_reg ?_
     refine yM rfl ?_
     refine h_op (r_field rfl) ?_
     refine h_op (r_loadr rfl) ?_
     refine h_op (r_field rfl) ?_
     refine h_op (r_loadc rfl) ?_
     refine h_op (r_field rfl) ?_
     refine h_op (r_loadc rfl) ?_
     refine h_op (r_build (out := Change.cells ⟨keyOf x.kb, ⟨none, 0, 0⟩, x.c.present⟩) rfl) ?_
     refine h_opX (x_bsl rfl rfl) fun g53 => ?_
     refine h_opX (x_app rfl rfl (k := 34)) fun ⟨g54, c54⟩ => ?_
     refine yS rfl ?_
     refine h_nil ?_
     refine q_block ?_
     refine q_then ?_
     refine h_reg ?_
     refine h_op (r_add rfl rfl) ?_
     refine yM rfl ?_
     refine h_nil ?_
     rw [← hcc, chgs_snocU, hcs, hsn]
     exact h_back (i + 1, some ⟨g54, 0, none⟩, c54) (⟨hi2, hnx hE3⟩) ((show l.length - (i + 1) < l.length - i by omega)) ⟨rfl, rfl, rfl, rfl, rfl, trivial⟩ (same)
   ·have hE3 := hE1 h0
    obtain rfl : some (i, entU x) = r := by rw [← hR, hR2 (by rw [hE3]; exact h0), hE3]
    refine yM rfl ?_
    refine h_op (r_extract rfl rfl) ?_
    refine h_op (r_extract rfl rfl) ?_
    refine h_opX (x_alloc) fun g8 => ?_
    refine h_opS (s_storer rfl rfl) ?_
    refine yS rfl ?_
    refine yN ?_
    refine h_seq ?_
    refine yR ?_
    refine yM rfl ?_
    refine h_op (r_bool (r_eql rfl rfl) (decide_eq_false h0)) ?_
    refine yM rfl ?_
    refine h_opOff ?_
    refine h_opOff ?_
    refine h_opOff ?_
    refine h_opOff ?_
    refine h_op (r_pick rfl rfl) ?_
    refine yN ?_
    refine h_condF rfl ?_
    refine h_skip ?_
    refine q_then ?_
    refine h_seq ?_
    refine yR ?_
    refine yM rfl ?_
    refine h_op (r_neq rfl rfl) ?_
    refine yN ?_
    refine h_yes rfl (h0) ?_
    refine yR ?_
    refine yM rfl ?_
    refine yM rfl ?_
    refine h_call ((tFail_s appB (i : Int) (entU x) h0).comes) rfl rfl rfl fun g41 => ?_
    refine yS rfl ?_
    refine yS rfl ?_
    refine yN ?_
    refine h_ret ?_
    refine q_thenR ?_
    refine q_blockR ?_
    refine q_thenR ?_
    refine q_thenR ?_
    refine q_blockR ?_
    refine q_thenR ?_
    exact h_ret2 rfl rfl rfl fun w s => ⟨⟨(g41, none, 0, []), fun h => by cases h⟩, rfl, (same (L' := [.blk g41 (fltC appB (i : Int) (entU x)) 284]) w s).res (List.Sublist.refl _) (by simp [Fa.wr, chuN])⟩
 ·obtain rfl : i = l.length := by omega
  obtain rfl : none = r := by rw [← hR]; exact (firstF_none _ _ _ (fun j _ hj => hzz j (by omega))).symm
  have hall : chT l l.length = l.map chU := by unfold chT; rw [List.take_length]
  rw [hall]
  have hS := SortC_any (l.map chU) A4 c4 (by rw [List.length_map]; exact hl)
  rw [List.length_map] at hS
  refine h_exit ?_
  refine q_thenE ?_
  refine q_thenE ?_
  refine q_blockE ?_
  refine q_then ?_
  refine yR ?_
  refine yM rfl ?_
  refine h_call (hS.comes) rfl rfl rfl fun ⟨l', hp, ho⟩ => ?_
  have hlen : l.length = l'.length := by rw [hp.length_eq, List.length_map]
  have hOr := ordC_of (by rw [List.map_map]; exact checkU_nodup hR) hp ho
  dsimp only
  clear hS
  refine yN ?_
  refine yR ?_
  refine yM rfl ?_
  refine yS rfl ?_
  refine yS rfl ?_
  refine yN ?_
  refine h_ret ?_
  rw [hlen]
  exact h_ret2 rfl rfl rfl fun w s => ⟨⟨(0, A4, c4, l'), fun _ => ⟨hp, hOr⟩⟩, rfl, (same (L' := [.own (.slice A4 l'.length c4) l'.length 37 34 (chgs l')]) w s).res (List.Sublist.refl _) (by simp [Fa.wr, chuN])⟩
theorem Changes_ok (h : Zh) (l : List CB) (A : Option Addr) (c : Nat) [hr : RdZ h A (cbs l)] (hz : ClsZ h l) (hl : l.length ≤ 1000000) (hR : checkU l = none) : Spec Tryz.prog 56 [.slice A l.length c].toArray [.zone false h] [] (fun u : ChU l none => .tuple #[.slice u.1.2.1 u.1.2.2.2.length u.1.2.2.1, .nilIface]) (fun u => [.own (.slice u.1.2.1 u.1.2.2.2.length u.1.2.2.1) u.1.2.2.2.length 37 34 (chgs u.1.2.2.2)]) := Changes_s h l A c hz hl none hR
theorem Changes_bad (h : Zh) (l : List CB) (A : Option Addr) (c : Nat) [hr : RdZ h A (cbs l)] (hz : ClsZ h l) (hl : l.length ≤ 1000000) (i : Nat) (e : Int) (hR : checkU l = some (i, e)) : Spec Tryz.prog 56 [.slice A l.length c].toArray [.zone false h] [] (fun u : ChU l (some (i, e)) => .tuple #[.slice none 0 0, .iface 145 (.pointer (some ⟨u.1.1, 0, none⟩))]) (fun u => [.blk u.1.1 (fltC appB (i : Int) e) 284]) := Changes_s h l A c hz hl (some (i, e)) hR
end Go.Proofs.YtjhlbbgikccclaaGreatDoor
/- U175 -/
namespace Go.Proofs.YtjhlbbgikccclaaGreatDoor
open Go.RowKit Go.Extern.Stop Go.Stop Go.Extern
theorem chkK_ord : ∀ {l : List B32}, l.Pairwise ltK → chkK l = 0
 | [], _ => rfl
 | [_], _ => rfl
 | a :: b :: l, h => by
  obtain ⟨h1, h2⟩ := List.pairwise_cons.1 h
  have h3 := ltK_cmp (h1 b (List.mem_cons_self ..))
  unfold chkK
  rw [if_neg (by omega), if_neg (by omega)]
  exact chkK_ord h2
theorem AlC.zero (l : List Chg) (m : List En) : AlC l m 0 := fun _ _ _ _ _ hi => absurd hi (Nat.not_lt_zero _)
theorem chsZ_U {h : Zh} {l : List CB} (hz : ClsZ h l) (hv : ∀ x ∈ l, x.vb.length ≤ 10000000) {l' : List Chg} (hp : l'.Perm (l.map chU)) : ChsZ h l' := fun c hc => by
 obtain ⟨x, hx, rfl⟩ := List.mem_map.1 (hp.mem_iff.1 hc)
 unfold chU
 cases x.c.present
 ·exact ⟨(hz x hx).2, hv x hx⟩
 ·exact ⟨slz_nil h, Nat.zero_le _⟩
theorem rf_cmp4 (w : World) : (callMethod (rty 54) "Comparable" #[]).run Tryz.prog w = .ok (.value (.bool true)) w := by kernel_rfl
theorem eq00 (w : World) : (binOp .eql 43 (.iface 54 (.int .i64 0)) (.iface 54 (.int .i64 0))).run Tryz.prog w = .ok (.bool true) w := by kernel_rfl
theorem r_eq00 {n : Nat} {D : List Deferred} {E : Env} {L : List Fa} {x y : Nat} {T' : TypeId} (hx : ev E (.tmp x) = some (.iface 54 (.int .i64 0))) (hy : ev E (.tmp y) = some (.iface 54 (.int .i64 0))) : Runs0 Tryz.prog n D E L (.binOp .eql 43 (.tmp x) (.tmp y) T') (.bool true) := fun a w ka s o ho =>
 run_bin ho (ka.ev hx) (ka.ev hy) rfl (eq00 w)
theorem errIs_in : Spec Tryz.prog 114 [.iface 54 (.int .i64 0), .iface 54 (.int .i64 0), .bool true].toArray [] [] (fun _ : Unit => .bool true) (fun _ => []) := by
 refine spec_of Tryz.func114 rfl (n := 54) rfl rfl ?_
 intro W
 refine yR ?_
 refine yS rfl ?_
 refine yN ?_
 refine h_block ?_
 refine h_loop (fun (b : Bool) => True) (fun (b : Bool) => [(0, .iface 54 (.int .i64 0)), (1, .iface 54 (.int .i64 0)), (2, .bool true)]) (fun (b : Bool) => []) (fun (b : Bool) => 0) true (trivial) ⟨rfl, rfl, rfl, trivial⟩ (same) ?_
 rintro b -
 refine h_block ?_
 refine h_seq ?_
 refine yR ?_
 refine yM rfl ?_
 refine h_op (r_bool (r_move rfl) rfl) ?_
 refine yM rfl ?_
 refine yM rfl ?_
 refine h_op (r_eq00 rfl rfl) ?_
 refine h_op (r_pick rfl rfl) ?_
 refine yN ?_
 refine h_condT rfl ?_
 refine yR ?_
 refine yS rfl ?_
 refine yN ?_
 refine h_ret ?_
 refine q_thenR ?_
 refine q_blockR ?_
 refine q_thenR ?_
 refine q_blockR ?_
 exact h_ret1 rfl rfl fun w s => ⟨(), rfl, s.res (List.nil_sublist _) (by simp)⟩
theorem errIs_s : Spec Tryz.prog 58 [.iface 54 (.int .i64 0), .iface 54 (.int .i64 0)].toArray [] [] (fun _ : Unit => .bool true) (fun _ => []) := by
 refine spec_of Tryz.func58 rfl (n := 22) rfl rfl ?_
 intro W
 refine yR ?_
 refine yS rfl ?_
 refine yN ?_
 refine h_seq ?_
 refine yR ?_
 refine yM rfl ?_
 refine h_op (r_ifnil rfl) ?_
 refine yM rfl ?_
 refine yM rfl ?_
 refine h_op (r_ifnil rfl) ?_
 refine h_op (r_pick rfl rfl) ?_
 refine yN ?_
 refine h_condF rfl ?_
 refine h_skip ?_
 refine q_then ?_
 refine yR ?_
 refine yM rfl ?_
 refine h_op (r_fun (rf_typeOf4 _) rfl) ?_
 refine h_op (r_inv rf_cmp4 rfl rfl) ?_
 refine yS rfl ?_
 refine yN ?_
 refine yR ?_
 refine yM rfl ?_
 refine yM rfl ?_
 refine yM rfl ?_
 refine h_call (errIs_in.comes) rfl rfl rfl fun _ => ?_
 refine yS rfl ?_
 refine yN ?_
 refine h_ret ?_
 exact h_ret1 rfl rfl fun w s => ⟨(), rfl, s.res (List.nil_sublist _) (by simp)⟩
section
variable (n : Nat) (hn : n ≤ 256) (gh gc k : Nat) (h : Zh) [hT : RdZ h (some ⟨1, 0, none⟩) hashT] {m : List En} (hal : Alike m 0) (p : Option Addr) [ht : TrZ n h (mkT m 0) p]
include hn hal
theorem bApply_s (l : List Chg) (B : Option Addr) (c : Nat) [hB : RdZ h B (chgs l)] (hc : l.length ≤ c) (ho : OrdC l) (hlen : m.length + l.length ≤ 100000) (hv : ChsZ h l) (hm : ∀ e ∈ m, e.val.length ≤ 10000000) (hk : k + costB (m.length + l.length) 0 ≤ 1000000000) :
  Spec Tryz.prog 57 [.pointer (some ⟨gh, 0, none⟩), .pointer p, .slice B l.length c].toArray [HR gh gc n] [.zone true h, CN gc k] (fun u : {u : Zh × Option Addr × Nat // LeZ h u.1 ∧ TrZ n u.1 (mkT (applyC m l) 0) u.2.1 ∧ u.2.2 ≤ k + costB (m.length + l.length) 0} => .tuple #[.pointer u.1.2.1, .int .i64 0]) (fun u => [.zone true u.1.1, CN gc u.1.2.2]) := by
 have hC := check_s l B c (by omega)
 rw [chkK_ord ho] at hC
 have hA := apply_all n hn gh gc 256 0 (by omega) (by omega) m l h k p B c hT ht hB hc hal (AlC.zero l m) ho hlen hv hm hk
 refine spec_of Tryz.func57 rfl (n := 18) rfl rfl ?_
 intro W
 refine yR ?_
 refine yS rfl ?_
 refine yS rfl ?_
 refine yN ?_
 refine h_seq ?_
 refine yR ?_
 refine yM rfl ?_
 refine h_call (hC.comes) rfl rfl rfl fun _ => ?_
 refine yS rfl ?_
 refine yN ?_
 refine yR ?_
 refine yM rfl ?_
 refine h_op (r_neq rfl rfl) ?_
 refine yN ?_
 refine h_condF rfl ?_
 refine h_skip ?_
 refine q_then ?_
 refine yR ?_
 refine yM rfl ?_
 refine yM rfl ?_
 refine yM rfl ?_
 refine h_call (hA.comes) rfl rfl rfl fun ⟨⟨h1, q, k1⟩, hle, htq, hk1⟩ => ?_
 dsimp only at hle htq hk1 ⊢
 refine yS rfl ?_
 refine yS rfl ?_
 refine yN ?_
 refine h_ret ?_
 exact h_ret2 rfl rfl rfl fun w s => ⟨⟨(h1, q, k1), hle, htq, hk1⟩, rfl, (same (L' := [.zone true h1, CN gc k1]) w s).res (List.Sublist.refl _) (by simp [Fa.wr])⟩
variable (t0 : Nat) (l : List CB) (A : Option Addr) (c : Nat) [hr : RdZ h A (cbs l)] (hz : ClsZ h l)
include hz
theorem TApply_ok (hR : checkU l = none) (hlen : m.length + l.length ≤ 100000) (hvl : ∀ x ∈ l, x.vb.length ≤ 10000000) (hm : ∀ e ∈ m, e.val.length ≤ 10000000) (hk : k + costB (m.length + l.length) 0 ≤ 1000000000) :
  Spec Tryz.prog 17 [.pointer (some ⟨t0, 0, none⟩), .slice A l.length c].toArray [HR gh gc n] [.zone true h, CN gc k, TreeF t0 gh p] (fun u : {u : Zh × Option Addr × Nat // LeZ h u.1 ∧ TrZ n u.1 (mkT (applyU m l) 0) u.2.1 ∧ u.2.2 ≤ k + costB (m.length + l.length) 0} => .nilIface) (fun u => [.zone true u.1.1, CN gc u.1.2.2, TreeF t0 gh u.1.2.1]) := by
 have hC := Changes_ok h l A c hz (by omega) hR
 refine spec_of Tryz.func17 rfl (n := 43) rfl rfl ?_
 intro W
 refine yR ?_
 refine yS rfl ?_
 refine yN ?_
 refine h_seq ?_
 refine yR ?_
 refine yM rfl ?_
 refine h_op (r_nilR rfl rfl) ?_
 refine yN ?_
 refine h_condF rfl ?_
 refine h_skip ?_
 refine q_then ?_
 refine yR ?_
 refine yM rfl ?_
 refine h_call (hC.comes) rfl rfl rfl fun ⟨⟨g0, B, c2, l'⟩, hu⟩ => ?_
 dsimp only
 obtain ⟨hp, hord⟩ := hu rfl
 dsimp only at hp hord
 have hll : l'.length = l.length := by rw [hp.length_eq, List.length_map]
 have hkt : mkT (applyC m l') 0 = mkT (applyU m l) 0 := mkT_perm ((applyC_perm (.refl m) hp).trans (applyU_perm l m (checkU_nodup hR)).symm) 0
 have hch := chsZ_U hz hvl hp
 refine yM rfl ?_
 refine h_op (r_extract rfl rfl) ?_
 refine h_op (r_extract rfl rfl) ?_
 refine yS rfl ?_
 refine yS rfl ?_
 refine yN ?_
 refine h_seq ?_
 refine yR ?_
 refine yM rfl ?_
 refine h_op (r_nilnn rfl) ?_
 refine yN ?_
 refine h_condF rfl ?_
 refine h_skip ?_
 refine q_then ?_
 refine h_seq ?_
 refine h_freezeO (.slice B l'.length c2) fun h2 B2 c3 e2 hc2 _ _ hz2 hr2 => ?_
 obtain rfl : B = B2 := by injection e2
 obtain rfl : c2 = c3 := by injection e2
 have hT2 : RdZ h2 (some ⟨1, 0, none⟩) hashT := hT.mono hz2
 have ht2 : TrZ n h2 (mkT m 0) p := ⟨ht.ok.mono hz2⟩
 have hA := bApply_s n hn gh gc k h2 hal p l' B c2 hc2 hord (by omega) (hch.mono hz2) hm (by rw [hll]; exact hk)
 rw [hkt, hll] at hA
 rw [hll]
 refine ha_start [TreeF t0 gh p] [] mixed (same) ?_
 refine ha_takeP 0 rfl (r_move rfl) ?_
 refine ha_takeP 1 rfl (r_nilc rfl) ?_
 refine ha_takeP 2 rfl (r_field rfl) ?_
 refine ha_take 3 rfl (r_loadc rfl) ?_
 refine ha_takeP 4 rfl (r_move rfl) ?_
 refine ha_takeP 5 rfl (r_nilc rfl) ?_
 refine ha_takeP 6 rfl (r_field rfl) ?_
 refine ha_take 7 rfl (r_loadc rfl) ?_
 refine ha_takeP 8 rfl (r_move rfl) ?_
 refine ha_one 9 ?_
 refine ho_C 9 rfl (hA.comes) rfl rfl rfl (fun xx => same) fun ⟨⟨h3, q, k1⟩, hle, htq, hk1⟩ => ?_
 refine ha_takeP 10 rfl (r_move rfl) ?_
 refine ha_takeP 11 rfl (r_extract rfl rfl) ?_
 refine ha_takeP 12 rfl (r_extract rfl rfl) ?_
 refine ha_takeP 13 rfl (r_assign rfl) ?_
 refine ha_takeP 14 rfl (r_assign rfl) ?_
 refine ha_done (by kernel_rfl) ?_
 refine q_then ?_
 dsimp only at hle htq hk1 ⊢
 refine h_seq ?_
 refine yR ?_
 refine yM rfl ?_
 refine h_op (r_mkI rfl) ?_
 refine h_op (r_mkI rfl) ?_
 refine h_call (errIs_s.comes) rfl rfl rfl fun _ => ?_
 refine yN ?_
 refine h_condT rfl ?_
 refine h_reg ?_
 refine yM rfl ?_
 refine yM rfl ?_
 refine h_op (r_nilc rfl) ?_
 refine h_op (r_field rfl) ?_
 refine h_opS (s_store rfl rfl rfl) ?_
 refine yN ?_
 refine yR ?_
 refine yM rfl ?_
 refine h_call ((tFail_no appB 0).comes) rfl rfl rfl fun _ => ?_
 refine yS rfl ?_
 refine yN ?_
 refine h_ret ?_
 exact h_ret1 rfl rfl fun w s => ⟨⟨(h3, q, k1), hz2.trans hle, htq, hk1⟩, rfl, (same (L' := [.zone true h3, CN gc k1, TreeF t0 gh q]) w s).res (List.Sublist.refl _) (by simp [Fa.wr])⟩
omit hT ht in
omit hn hal in
theorem TApply_bad (i : Nat) (e : Int) (hR : checkU l = some (i, e)) (hlen : l.length ≤ 100000) :
  Spec Tryz.prog 17 [.pointer (some ⟨t0, 0, none⟩), .slice A l.length c].toArray [.zone false h] [] (fun u : Nat => .iface 145 (.pointer (some ⟨u, 0, none⟩))) (fun u => [.blk u (fltC appB (i : Int) e) 284]) := by
 have hC := Changes_bad h l A c hz (by omega) i e hR
 refine spec_of Tryz.func17 rfl (n := 43) rfl rfl ?_
 intro W
 refine yR ?_
 refine yS rfl ?_
 refine yN ?_
 refine h_seq ?_
 refine yR ?_
 refine yM rfl ?_
 refine h_op (r_nilR rfl rfl) ?_
 refine yN ?_
 refine h_condF rfl ?_
 refine h_skip ?_
 refine q_then ?_
 refine yR ?_
 refine yM rfl ?_
 refine h_call (hC.comes) rfl rfl rfl fun ⟨⟨g0, B, c2, l'⟩, hu⟩ => ?_
 dsimp only
 refine yM rfl ?_
 refine h_op (r_extract rfl rfl) ?_
 refine h_op (r_extract rfl rfl) ?_
 refine yS rfl ?_
 refine yS rfl ?_
 refine yN ?_
 refine h_seq ?_
 refine yR ?_
 refine yM rfl ?_
 refine h_op (r_ifnn rfl) ?_
 refine yN ?_
 refine h_condT rfl ?_
 refine yR ?_
 refine yM rfl ?_
 refine yS rfl ?_
 refine yN ?_
 refine h_ret ?_
 refine q_thenR ?_
 exact h_ret1 rfl rfl fun w s => ⟨g0, rfl, (same (L' := [.blk g0 (fltC appB (i : Int) e) 284]) w s).res (List.Sublist.refl _) (by simp [Fa.wr])⟩
end
theorem TApply_nil (v : Value) : Spec Tryz.prog 17 [.pointer none, v].toArray [] [] (fun g : Nat => .iface 145 (.pointer (some ⟨g, 0, none⟩))) (fun g => [.blk g (fltC appB 0 1) 284]) := by
 refine spec_of Tryz.func17 rfl (n := 43) rfl rfl ?_
 intro W
 refine yR ?_
 refine yS rfl ?_
 refine yN ?_
 refine h_seq ?_
 refine yR ?_
 refine yM rfl ?_
 refine h_op (r_nilR rfl rfl) ?_
 refine yN ?_
 refine h_condT rfl ?_
 refine yR ?_
 refine h_call ((tFail_s appB 0 1 (by decide)).comes) rfl rfl rfl fun g11 => ?_
 refine yS rfl ?_
 refine yN ?_
 refine h_ret ?_
 refine q_thenR ?_
 exact h_ret1 rfl rfl fun w s => ⟨g11, rfl, (same (L' := [.blk g11 (fltC appB 0 1) 284]) w s).res (List.Sublist.refl _) (by simp [Fa.wr])⟩
end Go.Proofs.YtjhlbbgikccclaaGreatDoor
/- U68 -/
namespace Go.Proofs.YtjhlbbgikccclaaGreatDoor
open Go.RowKit
end Go.Proofs.YtjhlbbgikccclaaGreatDoor
/- E21 -/
namespace Go.Proofs.YtjhlbbgikccclaaGreatDoor
open Go.RowKit
structure At (l : List Item) (s : Sub) (d i : Nat) : Prop where
 ok : s.ok
 ht : d + s.ht ≤ 256
 le : i ≤ l.length
 eq : ∃ rest, l.drop i = s.flat ++ rest
theorem At.read {l : List Item} {s : Sub} {d i : Nat} (h : At l s d i) : ∃ rest, readM (256 - d) (l.drop i) = some (s, rest) ∧ l.length = i + s.sz + rest.length := by
 obtain ⟨rest, e⟩ := h.eq
 refine ⟨rest, ?_, ?_⟩
 ·rw [e]; exact read_flat s _ _ h.ok (by have := h.ht; omega)
 ·have := congrArg List.length e
  rw [List.length_drop, List.length_append, Sub.flat_len] at this
  have := h.le
  have := s.sz_pos
  omega
theorem At.lt {l : List Item} {s : Sub} {d i : Nat} (h : At l s d i) : i < l.length := by
 obtain ⟨rest, _, e⟩ := h.read
 have := s.sz_pos
 omega
theorem At.skip {l : List Item} {s : Sub} {d i : Nat} (h : At l s d i) : skipI l (readM (256 - d) (l.drop i)) = ((i + s.sz : Nat) : Int) := by
 obtain ⟨rest, e, e2⟩ := h.read
 rw [e]
 show (l.length : Int) - (rest.length : Int) = _
 omega
theorem At.one {l : List Item} {x : Item} {d i : Nat} (h : At l (.one x) d i) : l[i]? = some x := by
 obtain ⟨rest, e⟩ := h.eq
 have := congrArg (·[0]?) e
 simpa [List.getElem?_drop, Sub.flat] using this
theorem At.two {l : List Item} {a b : Sub} {d i : Nat} (h : At l (.two a b) d i) : l[i]? = some innerI ∧ At l a (d + 1) (i + 1) ∧ At l b (d + 1) (i + 1 + a.sz) := by
 obtain ⟨rest, e⟩ := h.eq
 have e' : l.drop i = innerI :: (a.flat ++ (b.flat ++ rest)) := by rw [e]; show innerI :: (a.flat ++ b.flat ++ rest) = _; rw [List.append_assoc]
 have hht : d + (max a.ht b.ht + 1) ≤ 256 := h.ht
 have hlt := h.lt
 have e1 : l.drop (i + 1) = a.flat ++ (b.flat ++ rest) := by
  rw [← List.drop_drop, e']; rfl
 have hl1 : l.length - (i + 1) = a.sz + (b.sz + rest.length) := by
  have := congrArg List.length e1
  rwa [List.length_drop, List.length_append, List.length_append, Sub.flat_len, Sub.flat_len] at this
 refine ⟨?_, ⟨h.ok.1, by omega, by omega, _, e1⟩, ⟨h.ok.2, by omega, by have := b.sz_pos; omega, rest, ?_⟩⟩
 ·have := congrArg (·[0]?) e'
  simpa [List.getElem?_drop] using this
 ·rw [← List.drop_drop, e1, ← a.flat_len, List.drop_left]
end Go.Proofs.YtjhlbbgikccclaaGreatDoor
/- U76 -/
namespace Go.Proofs.YtjhlbbgikccclaaGreatDoor
open Go.RowKit
end Go.Proofs.YtjhlbbgikccclaaGreatDoor
/- U75 -/
namespace Go.Proofs.YtjhlbbgikccclaaGreatDoor
open Go.RowKit
end Go.Proofs.YtjhlbbgikccclaaGreatDoor
/- U80 -/
namespace Go.Proofs.YtjhlbbgikccclaaGreatDoor
open Go.RowKit
def SegsZ (h : Zh) (xs : List Seg) (ls : List (List UInt8)) : Prop := xs.map (fun x => x.2.2) = ls ∧ ∀ x ∈ xs, (∃ g, x.1 = some ⟨g, 0, none⟩) ∧ RdZ h x.1 (bc x.2.2)
theorem SegsZ.len {h : Zh} {xs : List Seg} {ls : List (List UInt8)} (x : SegsZ h xs ls) : xs.length = ls.length := by rw [← x.1, List.length_map]
end Go.Proofs.YtjhlbbgikccclaaGreatDoor
/- U141 -/
namespace Go.Proofs.YtjhlbbgikccclaaGreatDoor
open Go.RowKit
end Go.Proofs.YtjhlbbgikccclaaGreatDoor
/- N21 -/
namespace Go.Proofs.YtjhlbbgikccclaaGreatDoor
open Go.RowKit
end Go.Proofs.YtjhlbbgikccclaaGreatDoor
/- U142 -/
namespace Go.Proofs.YtjhlbbgikccclaaGreatDoor
open Go.RowKit
class TakeA (X L : List Fa) (M : outParam (List Fa)) : Prop where
 perm : L.Perm (X ++ M)
instance iTakeA1 (X M : List Fa) : TakeA X (X ++ M) M := ⟨List.Perm.refl _⟩
instance (priority := 100) iTakeA2 (X : List Fa) (f : Fa) (L M : List Fa) [h : TakeA X L M] : TakeA X (f :: L) (f :: M) := ⟨(h.perm.cons f).trans List.perm_middle.symm⟩
theorem rSame_s (x y : List UInt8) (B B' : Option Addr) (c c' : Nat) (hl : x.length ≤ 1000000000) : Spec Tryz.prog 26 [.slice B x.length c, .slice B' y.length c'].toArray [.rd B (bc x), .rd B' (bc y)] [] (fun _ : Unit => .bool (decide (x = y))) (fun _ => []) := by
 refine spec_of Tryz.func26 rfl (n := 26) rfl rfl ?_
 intro W
 refine yR ?_
 refine yS rfl ?_
 refine yN ?_
 refine h_seq ?_
 refine yR ?_
 refine yM rfl ?_
 refine h_op (r_len rfl) ?_
 refine yM rfl ?_
 refine h_op (r_len rfl) ?_
 refine h_op (r_neq rfl rfl) ?_
 refine yN ?_
 by_cases hlen : x.length = y.length
 ·refine h_no rfl ((show ¬ ¬ ((x.length : Nat) : Int) = ((y.length : Nat) : Int) by omega)) ?_
  refine h_skip ?_
  refine q_then ?_
  refine h_seq ?_
  refine yR ?_
  refine yS rfl ?_
  refine yN ?_
  refine h_block ?_
  refine h_loop (fun (k : Nat) => k ≤ x.length ∧ x.take k = y.take k) (fun (k : Nat) => [(5, .int .i64 (k : Int)), (0, .slice B x.length c), (1, .slice B' y.length c')]) (fun (k : Nat) => [.rd B (bc x), .rd B' (bc y)]) (fun (k : Nat) => x.length - k) 0 (⟨Nat.zero_le _, rfl⟩) ⟨rfl, rfl, rfl, trivial⟩ (same) ?_
  rintro k ⟨hk, ht⟩
  refine h_seq ?_
  refine yR ?_
  refine yM rfl ?_
  refine yM rfl ?_
  refine h_op (r_len rfl) ?_
  refine h_op (r_lss rfl rfl) ?_
  refine yN ?_
  refine h_cond rfl (fun h => ?_) (fun h => ?_)
  ·have hk2 : k < x.length := by omega
   refine h_pure (φ := (∃ b o, B = some ⟨b, o, none⟩) ∧ ∃ b o, B' = some ⟨b, o, none⟩) (fun w s => ⟨Rd.some (s.ok (.rd B (bc x)) (by simp)) (by rw [bc_length]; omega), Rd.some (s.ok (.rd B' (bc y)) (by simp)) (by rw [bc_length]; omega)⟩) ?_
   rintro ⟨⟨b, o, rfl⟩, b', o', rfl⟩
   have hx := bc_at' (l := x) (i := k) hk2
   have hy := bc_at' (l := y) (i := k) (by omega)
   have ex : x[k]? = some (x.getD k 0) := by rw [List.getD_eq_getElem?_getD, List.getElem?_eq_getElem hk2]; rfl
   have ey : y[k]? = some (y.getD k 0) := by rw [List.getD_eq_getElem?_getD, List.getElem?_eq_getElem (by omega)]; rfl
   by_cases he : x.getD k 0 = y.getD k 0
   ·refine h_skip ?_
    refine q_then ?_
    refine h_seq ?_
    refine h_block ?_
    refine h_seq ?_
    refine ha_start [.rd (some ⟨b, o, none⟩) (bc x), .rd (some ⟨b', o', none⟩) (bc y)] [] mixed (same) ?_
    refine ha_takeP 0 rfl (r_move rfl) ?_
    refine ha_takeP 1 rfl (r_move rfl) ?_
    refine ha_takeP 2 rfl (r_idx rfl rfl) ?_
    refine ha_take 3 rfl (r_nth rfl hx) ?_
    refine ha_takeP 4 rfl (r_move rfl) ?_
    refine ha_takeP 5 rfl (r_move rfl) ?_
    refine ha_takeP 6 rfl (r_idx rfl rfl) ?_
    refine ha_take 7 rfl (r_nth rfl hy) ?_
    refine ha_takeP 8 rfl (r_bool (r_neq rfl rfl) (decide_eq_false (fun hh => hh (by rw [he])))) ?_
    refine ha_done (by kernel_rfl) ?_
    refine q_then ?_
    refine h_condF rfl ?_
    refine h_skip ?_
    refine q_block ?_
    refine q_then ?_
    refine h_reg ?_
    refine yM rfl ?_
    refine h_op (r_add rfl rfl) ?_
    refine yS rfl ?_
    refine h_nil ?_
    exact h_back (k + 1) (⟨hk2, by rw [List.take_add_one, List.take_add_one, ht, ex, ey, he]⟩) (by omega) ⟨rfl, rfl, rfl, trivial⟩ (same)
   ·have hne : ¬ x = y := fun h => he (by rw [h])
    rw [decide_eq_false hne]
    refine h_skip ?_
    refine q_then ?_
    refine h_seq ?_
    refine h_block ?_
    refine h_seq ?_
    refine ha_start [.rd (some ⟨b, o, none⟩) (bc x), .rd (some ⟨b', o', none⟩) (bc y)] [] mixed (same) ?_
    refine ha_takeP 0 rfl (r_move rfl) ?_
    refine ha_takeP 1 rfl (r_move rfl) ?_
    refine ha_takeP 2 rfl (r_idx rfl rfl) ?_
    refine ha_take 3 rfl (r_nth rfl hx) ?_
    refine ha_takeP 4 rfl (r_move rfl) ?_
    refine ha_takeP 5 rfl (r_move rfl) ?_
    refine ha_takeP 6 rfl (r_idx rfl rfl) ?_
    refine ha_take 7 rfl (r_nth rfl hy) ?_
    refine ha_takeP 8 rfl (r_bool (r_neq rfl rfl) (decide_eq_true (fun hh => he (UInt8.toNat_inj.1 (Int.ofNat.inj hh))))) ?_
    refine ha_done (by kernel_rfl) ?_
    refine q_then ?_
    refine h_condT rfl ?_
    refine yR ?_
    refine yS rfl ?_
    refine yN ?_
    refine h_ret ?_
    refine q_blockR ?_
    refine q_thenR ?_
    refine q_thenR ?_
    refine q_blockR ?_
    refine q_thenR ?_
    exact h_ret1 rfl rfl fun w s => ⟨(), rfl, s.res (List.nil_sublist _) (by simp)⟩
  ·obtain rfl : k = x.length := by omega
   rw [List.take_length, hlen, List.take_length] at ht
   rw [decide_eq_true ht]
   refine h_exit ?_
   refine q_thenE ?_
   refine q_thenE ?_
   refine q_blockE ?_
   refine q_then ?_
   refine yR ?_
   refine yS rfl ?_
   refine yN ?_
   refine h_ret ?_
   exact h_ret1 rfl rfl fun w s => ⟨(), rfl, s.res (List.nil_sublist _) (by simp)⟩
 ·rw [decide_eq_false (show ¬ x = y from fun h => hlen (congrArg List.length h))]
  refine h_yes rfl ((show ¬ ((x.length : Nat) : Int) = ((y.length : Nat) : Int) by omega)) ?_
  refine yR ?_
  refine yS rfl ?_
  refine yN ?_
  refine h_ret ?_
  refine q_thenR ?_
  exact h_ret1 rfl rfl fun w s => ⟨(), rfl, s.res (List.nil_sublist _) (by simp)⟩
end Go.Proofs.YtjhlbbgikccclaaGreatDoor
/- U176 -/
namespace Go.Proofs.YtjhlbbgikccclaaGreatDoor
open Go.RowKit
theorem rRight13_s (a b : Sl) (han : a.n ≤ 1000000000) : Spec Tryz.prog 37 [.slice a.A a.n a.c, .slice b.A b.n b.c].toArray [] [] (fun _ : Unit => .int .i64 (entE a.n b.n)) (fun _ => []) := by
 unfold entE
 by_cases h1 : a.n = 32
 ·rw [if_pos h1]
  by_cases h2 : 65535 < b.n
  ·rw [if_pos h2]
   refine spec_of Tryz.func37 rfl (n := 11) rfl rfl ?_
   intro W
   refine yR ?_
   refine yS rfl ?_
   refine yN ?_
   refine h_seq ?_
   refine yR ?_
   refine yM rfl ?_
   refine h_op (r_len rfl) ?_
   refine h_op (r_bool (r_neq rfl rfl) (decide_eq_false (show ¬ ¬ ((a.n : Nat) : Int) = 32 by omega))) ?_
   refine yN ?_
   refine h_condF rfl ?_
   refine h_skip ?_
   refine q_then ?_
   refine h_seq ?_
   refine yR ?_
   refine yM rfl ?_
   refine h_op (r_len rfl) ?_
   refine h_op (r_bool (r_gtr rfl rfl) (decide_eq_true (by omega))) ?_
   refine yN ?_
   refine h_condT rfl ?_
   refine yR ?_
   refine yS rfl ?_
   refine yN ?_
   refine h_ret ?_
   refine q_thenR ?_
   exact h_ret1 rfl rfl fun w s => ⟨(), rfl, s.res (List.nil_sublist _) (by simp)⟩
  ·rw [if_neg h2]
   refine spec_of Tryz.func37 rfl (n := 11) rfl rfl ?_
   intro W
   refine yR ?_
   refine yS rfl ?_
   refine yN ?_
   refine h_seq ?_
   refine yR ?_
   refine yM rfl ?_
   refine h_op (r_len rfl) ?_
   refine h_op (r_bool (r_neq rfl rfl) (decide_eq_false (show ¬ ¬ ((a.n : Nat) : Int) = 32 by omega))) ?_
   refine yN ?_
   refine h_condF rfl ?_
   refine h_skip ?_
   refine q_then ?_
   refine h_seq ?_
   refine yR ?_
   refine yM rfl ?_
   refine h_op (r_len rfl) ?_
   refine h_op (r_bool (r_gtr rfl rfl) (decide_eq_false (by omega))) ?_
   refine yN ?_
   refine h_condF rfl ?_
   refine h_skip ?_
   refine q_then ?_
   refine yR ?_
   refine yS rfl ?_
   refine yN ?_
   refine h_ret ?_
   exact h_ret1 rfl rfl fun w s => ⟨(), rfl, s.res (List.nil_sublist _) (by simp)⟩
 ·rw [if_neg h1]
  refine spec_of Tryz.func37 rfl (n := 11) rfl rfl ?_
  intro W
  refine yR ?_
  refine yS rfl ?_
  refine yN ?_
  refine h_seq ?_
  refine yR ?_
  refine yM rfl ?_
  refine h_op (r_len rfl) ?_
  refine h_op (r_bool (r_neq rfl rfl) (decide_eq_true (show ¬ ((a.n : Nat) : Int) = 32 by omega))) ?_
  refine yN ?_
  refine h_condT rfl ?_
  refine yR ?_
  refine yS rfl ?_
  refine yN ?_
  refine h_ret ?_
  refine q_thenR ?_
  exact h_ret1 rfl rfl fun w s => ⟨(), rfl, s.res (List.nil_sublist _) (by simp)⟩
def chkV : Option (Nat × Int) → Value
 | none => .tuple #[.int .i64 0, .int .i64 0]
 | some (i, e) => .tuple #[.int .i64 (i : Int), .int .i64 e]
theorem same_any {l : List CB} {i : Nat} (h : ∀ j, j < i → (l.getD j zCB).kb ≠ (l.getD i zCB).kb) (hi : i ≤ l.length) : (l.take i).any (fun y => decide (y.kb = (l.getD i zCB).kb)) = false := by
 rw [Bool.eq_false_iff]
 intro ht
 obtain ⟨y, hy, he⟩ := List.any_eq_true.1 ht
 obtain ⟨j, hj, hyj⟩ := List.getElem_of_mem hy
 rw [List.length_take] at hj
 refine h j (by omega) ?_
 rw [List.getElem_take] at hyj
 rw [List.getD_eq_getElem?_getD, List.getElem?_eq_getElem (by omega), Option.getD_some, hyj]
 exact of_decide_eq_true he
theorem same_any' {l : List CB} {i j : Nat} (hj : j < i) (hi : i < l.length) (h : (l.getD j zCB).kb = (l.getD i zCB).kb) : (l.take i).any (fun y => decide (y.kb = (l.getD i zCB).kb)) = true := by
 refine List.any_eq_true.2 ⟨l.getD j zCB, ?_, decide_eq_true h⟩
 rw [List.getD_eq_getElem?_getD, List.getElem?_eq_getElem (by omega), Option.getD_some]
 exact List.mem_take_iff_getElem.2 ⟨j, by omega, rfl⟩
theorem rCheckU_s (h : Zh) (l : List CB) (A : Option Addr) (c : Nat) [hr : RdZ h A (cbs l)] (hz : ClsZ h l) (hl : l.length ≤ 1000000) (hkl : ∀ x ∈ l, x.kb.length ≤ 100000000) (r : Option (Nat × Int)) (hR : checkU l = r) : Spec Tryz.prog 82 [.slice A l.length c].toArray [.zone false h] [] (fun _ : Unit => chkV r) (fun _ => []) := by
 refine spec_of Tryz.func82 rfl (n := 52) rfl rfl ?_
 intro W
 refine yR ?_
 refine yS rfl ?_
 refine yS rfl ?_
 refine yN ?_
 refine h_seq ?_
 refine yR ?_
 refine yS rfl ?_
 refine yN ?_
 refine h_block ?_
 refine h_loop (fun (i : Nat) => i ≤ l.length ∧ ∀ j, j < i → errU l j = 0) (fun (i : Nat) => [(4, .int .i64 (i : Int)), (0, .slice A l.length c)]) (fun (i : Nat) => [.zone false h]) (fun (i : Nat) => l.length - i) 0 (⟨Nat.zero_le _, fun j hj => absurd hj (Nat.not_lt_zero j)⟩) ⟨rfl, rfl, trivial⟩ (same) ?_
 rintro i ⟨hi, hzz⟩
 refine h_seq ?_
 refine yR ?_
 refine yM rfl ?_
 refine yM rfl ?_
 refine h_op (r_len rfl) ?_
 refine h_op (r_lss rfl rfl) ?_
 refine yN ?_
 refine h_cond rfl (fun hlt => ?_) (fun hlt => ?_)
 ·have hi2 : i < l.length := by omega
  have hx := getD_get zCB hi2
  obtain ⟨b, o, rfl, -⟩ := hr.at_ (i * 3) _ (cbs_at hx 0 _ rfl)
  have hsome := firstF_some (errU l) i
  have hz0 : ∀ j, 0 ≤ j → j < i → errU l j = 0 := fun j _ hj => hzz j hj
  have hR2 : errU l i ≠ 0 → checkU l = some (i, errU l i) := fun hne => hsome hne l.length 0 (Nat.zero_le _) (by omega) hz0
  have hnx : errU l i = 0 → ∀ j, j < i + 1 → errU l j = 0 := fun he j hj => by
   rcases Nat.lt_or_ge j i with h9 | h9
   ·exact hzz j h9
   ·obtain rfl : j = i := by omega
    exact he
  have hE1 := fun h0 => errU_ent (l := l) (i := i) h0
  have hE2 : entU (l.getD i zCB) = 0 → errU l i = if (l.take i).any (fun y => decide (y.kb = (l.getD i zCB).kb)) then 9 else 0 := fun h0 => by unfold errU; rw [if_pos h0]
  have hS0 := fun hh => same_any (l := l) (i := i) hh (by omega)
  have hS1 := fun (j : Nat) (hj : j < i) => same_any' hj hi2
  have hzx := hz.get hi2
  have hkx := hkl (l.getD i zCB) (List.mem_of_getElem? hx)
  generalize l.getD i zCB = x at *
  have hzk : SlZ h x.c.key x.kb := hzx.1
  have hkn := hzk.len
  have hvn := vsU_n hzx.2
  have hRi := rRight13_s x.c.key (vsU x) (by omega)
  have hen : entE x.c.key.n (vsU x).n = entU x := by unfold entU; rw [hvn, hkn]
  rw [hen] at hRi
  refine h_skip ?_
  refine q_then ?_
  refine h_seq ?_
  refine h_block ?_
  refine yR ?_
  refine yM rfl ?_
  refine yM rfl ?_
  refine h_op (r_idx rfl rfl) ?_
  refine h_op (r_field rfl (O' := o + (i * 3 + 1)) (by omega)) ?_
  refine h_op (r_nth rfl (cbs_at hx 1 _ rfl)) ?_
  refine yS rfl ?_
  refine yN ?_
  refine h_seq ?_
  refine yR ?_
  refine yM rfl ?_
  refine yM rfl ?_
  refine h_op (r_idx rfl rfl) ?_
  refine h_op (r_field rfl (O' := o + (i * 3 + 2)) (by omega)) ?_
  refine h_op (r_nth rfl (cbs_at hx 2 _ rfl)) ?_
  refine yN ?_
  cases hp : x.c.present
  ·rw [show vsU x = x.c.value by unfold vsU; rw [hp]; rfl] at *
   refine h_condF rfl ?_
   refine h_skip ?_
   refine q_then ?_
   refine yR ?_
   refine yM rfl ?_
   refine yM rfl ?_
   refine h_op (r_idx rfl rfl) ?_
   refine h_op (r_field rfl (O' := o + (i * 3 + 0)) (by omega)) ?_
   refine h_op (r_nth rfl (cbs_at hx 0 _ rfl)) ?_
   refine yM rfl ?_
   refine h_call (hRi.comes) rfl rfl rfl fun _ => ?_
   by_cases h0 : entU x = 0
   ·rw [h0]
    have hE3 := hE2 h0
    refine yS rfl ?_
    refine yN ?_
    refine h_seq ?_
    refine yR ?_
    refine yM rfl ?_
    refine h_op (r_neq rfl rfl) ?_
    refine yN ?_
    refine h_condF rfl ?_
    refine h_skip ?_
    refine q_then ?_
    refine yR ?_
    refine yS rfl ?_
    refine yN ?_
    refine h_block ?_
    refine h_loop (fun (j : Nat) => j ≤ i ∧ ∀ q, q < j → (l.getD q zCB).kb ≠ x.kb) (fun (j : Nat) => [(7, .int .i64 (j : Int)), (4, .int .i64 (i : Int)), (0, .slice (some ⟨b, o, none⟩) l.length c)]) (fun (j : Nat) => [.zone false h]) (fun (j : Nat) => i - j) 0 (⟨Nat.zero_le _, fun q hq => absurd hq (Nat.not_lt_zero q)⟩) ⟨rfl, rfl, rfl, trivial⟩ (same) ?_
    rintro j ⟨hj, hjj⟩
    refine h_seq ?_
    refine yR ?_
    refine yM rfl ?_
    refine yM rfl ?_
    refine h_op (r_lss rfl rfl) ?_
    refine yN ?_
    refine h_cond rfl (fun hjl => ?_) (fun hjl => ?_)
    ·have hj2 : j < i := by omega
     have hy := getD_get zCB (l := l) (k := j) (by omega)
     have hzy := hz.get (k := j) (by omega)
     have hky := hkl (l.getD j zCB) (List.mem_of_getElem? hy)
     have hS2 := hS1 j hj2
     have hnj : (l.getD j zCB).kb ≠ x.kb → ∀ q, q < j + 1 → (l.getD q zCB).kb ≠ x.kb := fun he q hq => by
      rcases Nat.lt_or_ge q j with h9 | h9
      ·exact hjj q h9
      ·obtain rfl : q = j := by omega
       exact he
     generalize l.getD j zCB = y at *
     have hyk : SlZ h y.c.key y.kb := hzy.1
     have hyn := hyk.len
     have hrx : RdZ h x.c.key.A (bc x.kb) := hzk.rd
     have hry : RdZ h y.c.key.A (bc y.kb) := hyk.rd
     have hSm := rSame_s x.kb y.kb x.c.key.A y.c.key.A x.c.key.c y.c.key.c (by omega)
     rw [← hkn, ← hyn] at hSm
     refine h_skip ?_
     refine q_then ?_
     refine h_seq ?_
     refine h_block ?_
     refine h_seq ?_
     refine ha_start [.zone false h] [] mixed (same) ?_
     refine ha_takeP 0 rfl (r_move rfl) ?_
     refine ha_takeP 1 rfl (r_move rfl) ?_
     refine ha_takeP 2 rfl (r_idx rfl rfl) ?_
     refine ha_takeP 3 rfl (r_field rfl (O' := o + (i * 3 + 0)) (by omega)) ?_
     refine ha_take 4 rfl (r_nth rfl (cbs_at hx 0 _ rfl)) ?_
     refine ha_takeP 5 rfl (r_move rfl) ?_
     refine ha_takeP 6 rfl (r_move rfl) ?_
     refine ha_takeP 7 rfl (r_idx rfl rfl) ?_
     refine ha_takeP 8 rfl (r_field rfl (O' := o + (j * 3 + 0)) (by omega)) ?_
     refine ha_take 9 rfl (r_nth rfl (cbs_at hy 0 _ rfl)) ?_
     refine ha_one 10 ?_
     refine ho_C 10 rfl (hSm.comes) rfl rfl rfl (fun xx => same) fun _ => ?_
     refine ha_done (by kernel_rfl) ?_
     refine q_then ?_
     by_cases he : x.kb = y.kb
     ·rw [decide_eq_true he]
      rw [if_pos (hS2 he.symm)] at hE3
      obtain rfl : some (i, (9 : Int)) = r := by rw [← hR, hR2 (by rw [hE3]; decide), hE3]
      refine h_condT rfl ?_
      refine yR ?_
      refine yM rfl ?_
      refine yS rfl ?_
      refine yS rfl ?_
      refine yN ?_
      refine h_ret ?_
      refine q_blockR ?_
      refine q_thenR ?_
      refine q_thenR ?_
      refine q_blockR ?_
      refine q_blockR ?_
      refine q_thenR ?_
      refine q_thenR ?_
      refine q_blockR ?_
      refine q_thenR ?_
      exact h_ret2 rfl rfl rfl fun w s => ⟨(), rfl, s.res (List.nil_sublist _) (by simp)⟩
     ·rw [decide_eq_false he]
      refine h_condF rfl ?_
      refine h_skip ?_
      refine q_block ?_
      refine q_then ?_
      refine h_reg ?_
      refine yM rfl ?_
      refine h_op (r_add rfl rfl) ?_
      refine yS rfl ?_
      refine h_nil ?_
      exact h_back (j + 1) (⟨hj2, hnj (fun e => he e.symm)⟩) ((show i - (j + 1) < i - j by omega)) ⟨rfl, rfl, rfl, trivial⟩ (same)
    ·obtain rfl : j = i := by omega
     rw [hS0 hjj] at hE3
     refine h_exit ?_
     refine q_thenE ?_
     refine q_thenE ?_
     refine q_blockE ?_
     refine q_block ?_
     refine q_then ?_
     refine h_reg ?_
     refine yM rfl ?_
     refine h_op (r_add rfl rfl) ?_
     refine yS rfl ?_
     refine h_nil ?_
     exact h_back (j + 1) (⟨hi2, hnx hE3⟩) ((show l.length - (j + 1) < l.length - j by omega)) ⟨rfl, rfl, trivial⟩ (same)
   ·have hE3 := hE1 h0
    obtain rfl : some (i, entU x) = r := by rw [← hR, hR2 (by rw [hE3]; exact h0), hE3]
    refine yS rfl ?_
    refine yN ?_
    refine h_seq ?_
    refine yR ?_
    refine yM rfl ?_
    refine h_op (r_neq rfl rfl) ?_
    refine yN ?_
    refine h_yes rfl (h0) ?_
    refine yR ?_
    refine yM rfl ?_
    refine yM rfl ?_
    refine yS rfl ?_
    refine yS rfl ?_
    refine yN ?_
    refine h_ret ?_
    refine q_thenR ?_
    refine q_blockR ?_
    refine q_thenR ?_
    refine q_thenR ?_
    refine q_blockR ?_
    refine q_thenR ?_
    exact h_ret2 rfl rfl rfl fun w s => ⟨(), rfl, s.res (List.nil_sublist _) (by simp)⟩
  ·rw [show vsU x = ⟨none, 0, 0⟩ by unfold vsU; rw [hp]; rfl] at *
   refine h_condT rfl ?_
   refine h_reg ?_
   refine yS rfl ?_
   refine yN ?_
   refine yR ?_
   refine yM rfl ?_
   refine yM rfl ?_
   refine h_op (r_idx rfl rfl) ?_
   refine h_op (r_field rfl (O' := o + (i * 3 + 0)) (by omega)) ?_
   refine h_op (r_nth rfl (cbs_at hx 0 _ rfl)) ?_
   refine yM rfl ?_
   refine h_call (hRi.comes) rfl rfl rfl fun _ => ?_
   by_cases h0 : entU x = 0
   ·rw [h0]
    have hE3 := hE2 h0
    refine yS rfl ?_
    refine yN ?_
    refine h_seq ?_
    refine yR ?_
    refine yM rfl ?_
    refine h_op (r_neq rfl rfl) ?_
    refine yN ?_
    refine h_condF rfl ?_
    refine h_skip ?_
    refine q_then ?_
    refine yR ?_
    refine yS rfl ?_
    refine yN ?_
    refine h_block ?_
    refine h_loop (fun (j : Nat) => j ≤ i ∧ ∀ q, q < j → (l.getD q zCB).kb ≠ x.kb) (fun (j : Nat) => [(7, .int .i64 (j : Int)), (4, .int .i64 (i : Int)), (0, .slice (some ⟨b, o, none⟩) l.length c)]) (fun (j : Nat) => [.zone false h]) (fun (j : Nat) => i - j) 0 (⟨Nat.zero_le _, fun q hq => absurd hq (Nat.not_lt_zero q)⟩) ⟨rfl, rfl, rfl, trivial⟩ (same) ?_
    rintro j ⟨hj, hjj⟩
    refine h_seq ?_
    refine yR ?_
    refine yM rfl ?_
    refine yM rfl ?_
    refine h_op (r_lss rfl rfl) ?_
    refine yN ?_
    refine h_cond rfl (fun hjl => ?_) (fun hjl => ?_)
    ·have hj2 : j < i := by omega
     have hy := getD_get zCB (l := l) (k := j) (by omega)
     have hzy := hz.get (k := j) (by omega)
     have hky := hkl (l.getD j zCB) (List.mem_of_getElem? hy)
     have hS2 := hS1 j hj2
     have hnj : (l.getD j zCB).kb ≠ x.kb → ∀ q, q < j + 1 → (l.getD q zCB).kb ≠ x.kb := fun he q hq => by
      rcases Nat.lt_or_ge q j with h9 | h9
      ·exact hjj q h9
      ·obtain rfl : q = j := by omega
       exact he
     generalize l.getD j zCB = y at *
     have hyk : SlZ h y.c.key y.kb := hzy.1
     have hyn := hyk.len
     have hrx : RdZ h x.c.key.A (bc x.kb) := hzk.rd
     have hry : RdZ h y.c.key.A (bc y.kb) := hyk.rd
     have hSm := rSame_s x.kb y.kb x.c.key.A y.c.key.A x.c.key.c y.c.key.c (by omega)
     rw [← hkn, ← hyn] at hSm
     refine h_skip ?_
     refine q_then ?_
     refine h_seq ?_
     refine h_block ?_
     refine h_seq ?_
     refine ha_start [.zone false h] [] mixed (same) ?_
     refine ha_takeP 0 rfl (r_move rfl) ?_
     refine ha_takeP 1 rfl (r_move rfl) ?_
     refine ha_takeP 2 rfl (r_idx rfl rfl) ?_
     refine ha_takeP 3 rfl (r_field rfl (O' := o + (i * 3 + 0)) (by omega)) ?_
     refine ha_take 4 rfl (r_nth rfl (cbs_at hx 0 _ rfl)) ?_
     refine ha_takeP 5 rfl (r_move rfl) ?_
     refine ha_takeP 6 rfl (r_move rfl) ?_
     refine ha_takeP 7 rfl (r_idx rfl rfl) ?_
     refine ha_takeP 8 rfl (r_field rfl (O' := o + (j * 3 + 0)) (by omega)) ?_
     refine ha_take 9 rfl (r_nth rfl (cbs_at hy 0 _ rfl)) ?_
     refine ha_one 10 ?_
     refine ho_C 10 rfl (hSm.comes) rfl rfl rfl (fun xx => same) fun _ => ?_
     refine ha_done (by kernel_rfl) ?_
     refine q_then ?_
     by_cases he : x.kb = y.kb
     ·rw [decide_eq_true he]
      rw [if_pos (hS2 he.symm)] at hE3
      obtain rfl : some (i, (9 : Int)) = r := by rw [← hR, hR2 (by rw [hE3]; decide), hE3]
      refine h_condT rfl ?_
      refine yR ?_
      refine yM rfl ?_
      refine yS rfl ?_
      refine yS rfl ?_
      refine yN ?_
      refine h_ret ?_
      refine q_blockR ?_
      refine q_thenR ?_
      refine q_thenR ?_
      refine q_blockR ?_
      refine q_blockR ?_
      refine q_thenR ?_
      refine q_thenR ?_
      refine q_blockR ?_
      refine q_thenR ?_
      exact h_ret2 rfl rfl rfl fun w s => ⟨(), rfl, s.res (List.nil_sublist _) (by simp)⟩
     ·rw [decide_eq_false he]
      refine h_condF rfl ?_
      refine h_skip ?_
      refine q_block ?_
      refine q_then ?_
      refine h_reg ?_
      refine yM rfl ?_
      refine h_op (r_add rfl rfl) ?_
      refine yS rfl ?_
      refine h_nil ?_
      exact h_back (j + 1) (⟨hj2, hnj (fun e => he e.symm)⟩) ((show i - (j + 1) < i - j by omega)) ⟨rfl, rfl, rfl, trivial⟩ (same)
    ·obtain rfl : j = i := by omega
     rw [hS0 hjj] at hE3
     refine h_exit ?_
     refine q_thenE ?_
     refine q_thenE ?_
     refine q_blockE ?_
     refine q_block ?_
     refine q_then ?_
     refine h_reg ?_
     refine yM rfl ?_
     refine h_op (r_add rfl rfl) ?_
     refine yS rfl ?_
     refine h_nil ?_
     exact h_back (j + 1) (⟨hi2, hnx hE3⟩) ((show l.length - (j + 1) < l.length - j by omega)) ⟨rfl, rfl, trivial⟩ (same)
   ·have hE3 := hE1 h0
    obtain rfl : some (i, entU x) = r := by rw [← hR, hR2 (by rw [hE3]; exact h0), hE3]
    refine yS rfl ?_
    refine yN ?_
    refine h_seq ?_
    refine yR ?_
    refine yM rfl ?_
    refine h_op (r_neq rfl rfl) ?_
    refine yN ?_
    refine h_yes rfl (h0) ?_
    refine yR ?_
    refine yM rfl ?_
    refine yM rfl ?_
    refine yS rfl ?_
    refine yS rfl ?_
    refine yN ?_
    refine h_ret ?_
    refine q_thenR ?_
    refine q_blockR ?_
    refine q_thenR ?_
    refine q_thenR ?_
    refine q_blockR ?_
    refine q_thenR ?_
    exact h_ret2 rfl rfl rfl fun w s => ⟨(), rfl, s.res (List.nil_sublist _) (by simp)⟩
 ·obtain rfl : i = l.length := by omega
  obtain rfl : none = r := by rw [← hR]; exact (firstF_none _ _ _ (fun j _ hj => hzz j (by omega))).symm
  refine h_exit ?_
  refine q_thenE ?_
  refine q_thenE ?_
  refine q_blockE ?_
  refine q_then ?_
  refine yR ?_
  refine yS rfl ?_
  refine yS rfl ?_
  refine yN ?_
  refine h_ret ?_
  exact h_ret2 rfl rfl rfl fun w s => ⟨(), rfl, s.res (List.nil_sublist _) (by simp)⟩
end Go.Proofs.YtjhlbbgikccclaaGreatDoor
