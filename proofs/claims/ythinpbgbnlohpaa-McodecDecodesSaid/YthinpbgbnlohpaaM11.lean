/- mcodec.item. -/
import Derived.Test.YthinpbgbnlohpaaM6
namespace Go.Proofs.Ythinpbgbnlohpaa
set_option linter.unusedSimpArgs false
set_option linter.unusedVariables false
open Go.RowKit
attribute [local irreducible] wpStill wpList
section
variable {P : Program} {a : Act} {w : World} {o : Oper} {T e : TypeId} {x : Operand} {n c b off : Nat}
theorem ex_head {xh : Operand} {kh : IntKind} {H : Nat} (ho : o.op = .slice T x none (some xh) none) (hT : P.underlying T = some (.slice e)) (hs : (P.info? e).map (·.size) = some 1) (hx : a.eval x = .slice (some ⟨b, off, none⟩) n c) (hh : a.eval xh = .int kh H) (h1 : H ≤ c) (hc : 0 < c) :
    (execOp a.eval o).run P w = .ok (.value (.slice (some ⟨b, off, none⟩) H c)) w := by
  have h := cut_h (w := w) ho hT hs hx hh (by omega) (by omega)
  have e : cutA (some ⟨b, off, none⟩) c 0 1 = some ⟨b, off, none⟩ := by
    have : ¬ c = 0 := by omega
    simp [cutA, this, Addr.add_mid]
  rw [e] at h
  simpa using h
theorem ex_tail {xl : Operand} {kl : IntKind} {L : Nat} (ho : o.op = .slice T x (some xl) none none) (hT : P.underlying T = some (.slice e)) (hs : (P.info? e).map (·.size) = some 1) (hx : a.eval x = .slice (some ⟨b, off, none⟩) n c) (hl : a.eval xl = .int kl L) (h1 : L ≤ n) (hc : L < c) :
    (execOp a.eval o).run P w = .ok (.value (.slice (some ⟨b, off + L, none⟩) (n - L) (c - L))) w := by
  have h := cut_l (w := w) ho hT hs hx hl (by omega) (by omega)
  have e : cutA (some ⟨b, off, none⟩) c L 1 = some ⟨b, off + L, none⟩ := by
    have : ¬ c = L := by omega
    simp [cutA, this, Addr.add_mid]
  simp only [Int.toNat_natCast] at h
  rw [e] at h
  exact h
end
section
variable {P : Program} {ops : Array Oper} {rest : List Oper} {a : Act} {w : World} {Q : Exit → Act → World → Prop} {d : Option Tmp} {ty : TypeId} {pos : String} {af gd}
theorem gToArray {T : TypeId} {x : Operand} (h : wpList P ops Q (⟨d, .sliceToArrayPointer T x, ty, pos, af, gd⟩ :: rest) a w) : wpList P ops Q (⟨d, .sliceToArrayPointer T x, ty, pos, af, gd⟩ :: rest) a w := h
end
section
variable {P : Program} {a : Act} {w : World} {o : Oper} {T e size : Nat} {x : Operand} {A : Option Addr} {n c : Nat}
theorem cutN_l {xl : Operand} {kl : IntKind} (L : Nat) (ho : o.op = .slice T x (some xl) none none) (hT : P.underlying T = some (.slice e)) (hs : (P.info? e).map (·.size) = some size) (hx : a.eval x = .slice A n c) (hl : a.eval xl = .int kl (L : Int)) (h1 : L ≤ n) :
    (execOp a.eval o).run P w = .ok (.value (.slice (cutA A c L size) (n - L) (c - L))) w := by
  have h := cut_l (w := w) ho hT hs hx hl (by omega) (by omega)
  simpa using h
theorem cutN_h {xh : Operand} {kh : IntKind} (H : Nat) (ho : o.op = .slice T x none (some xh) none) (hT : P.underlying T = some (.slice e)) (hs : (P.info? e).map (·.size) = some size) (hx : a.eval x = .slice A n c) (hh : a.eval xh = .int kh (H : Int)) (h1 : H ≤ c) :
    (execOp a.eval o).run P w = .ok (.value (.slice (cutA A c 0 size) H c)) w := by
  have h := cut_h (w := w) ho hT hs hx hh (by omega) (by omega)
  simpa using h
theorem cutN_lh {xl xh : Operand} {kl kh : IntKind} (L H : Nat) (ho : o.op = .slice T x (some xl) (some xh) none) (hT : P.underlying T = some (.slice e)) (hs : (P.info? e).map (·.size) = some size) (hx : a.eval x = .slice A n c) (hl : a.eval xl = .int kl (L : Int)) (hh : a.eval xh = .int kh (H : Int)) (h1 : L ≤ H) (h2 : H ≤ c) :
    (execOp a.eval o).run P w = .ok (.value (.slice (cutA A c L size) (H - L) (c - L))) w := by
  have h := cut_lh (w := w) ho hT hs hx hl hh (by omega) (by omega) (by omega)
  simpa using h
end
/-- an item from its kind and the bytes from i on -/
def itemOf (kind : Int) (l : List UInt8) (i : Nat) : Item :=
  if kind = 1 then ⟨1, zB32, ⟨part32 l i, part32 l (i + 32)⟩⟩ else if kind = 3 then ⟨3, part32 l i, zLeaf⟩ else ⟨kind, zB32, zLeaf⟩
theorem part_range {w : World} {b o : Nat} {l : List UInt8} (h : w.rangeAt b o (bc l)) (i : Nat) (hi : i + 32 ≤ l.length) : w.rangeAt b (o + i) (part32 l i).cells := by
  unfold B32.cells
  rw [part32_val l i hi, bc_take, bc_drop]
  exact rangeAt_take (rangeAt_drop h i) 32
set_option maxRecDepth 100000 in
set_option maxHeartbeats 400000 in
theorem item_any (kind : Int) (l : List UInt8) (A : Option Addr) (cap : Nat) (hl : l.length ≤ 100000) (hcap : l.length ≤ cap) (h1 : kind = 1 → 64 ≤ l.length) (h3 : kind = 3 → 32 ≤ l.length) (w : World) (hr : Rd w A (bc l)) :
    Calls Try.prog 36 #[.int .i64 kind, .slice A l.length cap] w fun e w' => e = .returned (.agg (itemOf kind l 0).cells.toArray) ∧ Below w.heap.size w w' := by
  by_cases k1 : kind = 1
  · subst k1
    have hlen := h1 rfl
    obtain ⟨b, o, rfl, _, hrg⟩ := hr.open_ (by rw [bc_length]; omega)
    have hp0 := Lib.hid (part_range hrg 0 (by omega))
    have hp1 := Lib.hid (part_range hrg 32 (by omega))
    clear h1 h3
    go_enter Try.func36, Try.ntmps36
    go_wp2_with (first | ((with_reducible refine gBuild (T := 61) ?_); refine wpl_runG ?_ (exItem0 rfl rfl) ?_; (focus (simp [Region.wanted, yielded]; done))) | ((with_reducible refine gAlloc (T := 61) ?_); refine copyItem rfl rfl rfl _ rfl _ rfl rfl _ rfl rfl ?_) | ((with_reducible refine gAlloc (T := 61) ?_); refine wplAllocZ rfl rfl zero61 ?_))
    have hB := balloc (balloc (brefl w) (.cells zItem.cells.toArray 61)) (.cells (Item.cells ⟨1, zB32, zLeaf⟩).toArray 61)
    have hq0 := rangeAt_below hp0.out hB
    have hq1 := rangeAt_below hp1.out hB
    have hg1 := heap_alloc2_new w (.cells zItem.cells.toArray 61) (.cells (Item.cells ⟨1, zB32, zLeaf⟩).toArray 61)
    have hg0 := heap_alloc2_old w (.cells zItem.cells.toArray 61) (.cells (Item.cells ⟨1, zB32, zLeaf⟩).toArray 61)
    rw [Nat.add_zero] at hq0
    generalize (w.alloc (.cells zItem.cells.toArray 61)).alloc (.cells (Item.cells ⟨1, zB32, zLeaf⟩).toArray 61) = W at *
    refine wp_region_still_tail 10 follows (by kernel_rfl) ?_
    replace hB := hB.drew
    replace hq0 : W.drew.rangeAt _ _ _ := hq0
    replace hq1 : W.drew.rangeAt _ _ _ := hq1
    replace hg1 : W.drew.heap[_]? = _ := hg1
    replace hg0 : W.drew.heap[_]? = _ := hg0
    (refine wpStill_run rfl (ex_move rfl rfl) ?_; simp only [Act.put, Act.eval, List.setIfInBounds_toArray, List.set_cons_zero, List.set_cons_succ, Array.getD_eq_getD_getElem?, List.getElem?_toArray, List.getElem?_cons_zero, List.getElem?_cons_succ, Option.getD_some])
    (refine wpStill_run rfl (ex_head (H := 32) rfl Try.underlying25 size5 rfl rfl (by omega) (by omega)) ?_; simp only [Act.put, Act.eval, List.setIfInBounds_toArray, List.set_cons_zero, List.set_cons_succ, Array.getD_eq_getD_getElem?, List.getElem?_toArray, List.getElem?_cons_zero, List.getElem?_cons_succ, Option.getD_some])
    (refine wpStill_run rfl (ex_arrayAt rfl Try.underlying42 rfl (by omega)) ?_; simp only [Act.put, Act.eval, List.setIfInBounds_toArray, List.set_cons_zero, List.set_cons_succ, Array.getD_eq_getD_getElem?, List.getElem?_toArray, List.getElem?_cons_zero, List.getElem?_cons_succ, Option.getD_some])
    (refine wpStill_run rfl (ex_load_row rfl rfl hq0 Try.underlying42 rfl (by rw [B32.cells_length]; exact size42)) ?_; simp only [Act.put, Act.eval, List.setIfInBounds_toArray, List.set_cons_zero, List.set_cons_succ, Array.getD_eq_getD_getElem?, List.getElem?_toArray, List.getElem?_cons_zero, List.getElem?_cons_succ, Option.getD_some])
    (refine wpStill_run rfl (ex_move rfl rfl) ?_; simp only [Act.put, Act.eval, List.setIfInBounds_toArray, List.set_cons_zero, List.set_cons_succ, Array.getD_eq_getD_getElem?, List.getElem?_toArray, List.getElem?_cons_zero, List.getElem?_cons_succ, Option.getD_some])
    (refine wpStill_run rfl (ex_tail (L := 32) rfl Try.underlying25 size5 rfl rfl (by omega) (by omega)) ?_; simp only [Act.put, Act.eval, List.setIfInBounds_toArray, List.set_cons_zero, List.set_cons_succ, Array.getD_eq_getD_getElem?, List.getElem?_toArray, List.getElem?_cons_zero, List.getElem?_cons_succ, Option.getD_some])
    (refine wpStill_run rfl (ex_arrayAt rfl Try.underlying43 rfl (by omega)) ?_; simp only [Act.put, Act.eval, List.setIfInBounds_toArray, List.set_cons_zero, List.set_cons_succ, Array.getD_eq_getD_getElem?, List.getElem?_toArray, List.getElem?_cons_zero, List.getElem?_cons_succ, Option.getD_some])
    (refine wpStill_run rfl (ex_load_row rfl rfl hq1 Try.underlying43 rfl (by rw [B32.cells_length]; exact size43)) ?_; simp only [Act.put, Act.eval, List.setIfInBounds_toArray, List.set_cons_zero, List.set_cons_succ, Array.getD_eq_getD_getElem?, List.getElem?_toArray, List.getElem?_cons_zero, List.getElem?_cons_succ, Option.getD_some])
    (refine wpStill_run rfl (exLeaf01 rfl rfl rfl) ?_; simp only [Act.put, Act.eval, List.setIfInBounds_toArray, List.set_cons_zero, List.set_cons_succ, Array.getD_eq_getD_getElem?, List.getElem?_toArray, List.getElem?_cons_zero, List.getElem?_cons_succ, Option.getD_some])
    (refine wpStill_run rfl (exItemLeaf rfl rfl) ?_; simp only [Act.put, Act.eval, List.setIfInBounds_toArray, List.set_cons_zero, List.set_cons_succ, Array.getD_eq_getD_getElem?, List.getElem?_toArray, List.getElem?_cons_zero, List.getElem?_cons_succ, Option.getD_some])
    refine wpStill_nil ?_
    refine wplStoreMid rfl rfl rfl rfl hg1 (by rw [Leaf.cells_length]; exact size45) (by rw [Leaf.cells_length, List.size_toArray, Item.cells_length]; omega) (Leaf.cells_one _) ?_
    intro w2 h21 h22 h23 h24
    rw [Item.set2] at h21
    replace h23 := (h23 _ (by omega)).trans hg0
    replace h24 := h24 _ _ hB (by omega)
    clear hq0 hq1 hg1 hg0 hB
    have hrg : w2.rangeAt (w.heap.size + 1) 0 _ := blk_range h21
    go_wp2_with (first | ((with_reducible refine gLoad (T := 61) ?_); refine wLoadItem _ rfl ?_ _ _ rfl _ hrg ?_; (focus (simp [Region.wanted, yielded]; done))) | ((with_reducible refine gStore (T := 61) ?_); refine wplStoreRow rfl rfl rfl rfl h23 (itemLen _) (by rw [zItem_size, Item.cells_length]) (Item.cells_one _) ?_; intro w3 h31 h32 h33 h34))
    exact ret_row Try.results36 rfl h31 Try.underlying61 rfl (itemLen _) rfl ⟨by simp [itemOf], h34 _ _ h24 (Nat.le_refl _)⟩
  · by_cases k3 : kind = 3
    · subst k3
      have hlen := h3 rfl
      obtain ⟨b, o, rfl, _, hrg⟩ := hr.open_ (by rw [bc_length]; omega)
      have hp0 := Lib.hid (part_range hrg 0 (by omega))
      clear h1 h3
      go_enter Try.func36, Try.ntmps36
      have hB := balloc (balloc (brefl w) (.cells zItem.cells.toArray 61)) (.cells (Item.cells ⟨3, zB32, zLeaf⟩).toArray 61)
      have hg1 := heap_alloc2_new w (.cells zItem.cells.toArray 61) (.cells (Item.cells ⟨3, zB32, zLeaf⟩).toArray 61)
      have hg0 := heap_alloc2_old w (.cells zItem.cells.toArray 61) (.cells (Item.cells ⟨3, zB32, zLeaf⟩).toArray 61)
      go_wp2_with (first | ((with_reducible refine gBuild (T := 61) ?_); refine wpl_runG ?_ (exItem0 rfl rfl) ?_; (focus (simp [Region.wanted, yielded]; done))) | ((with_reducible refine gAlloc (T := 61) ?_); refine copyItem rfl rfl rfl _ rfl _ rfl rfl _ rfl rfl ?_) | ((with_reducible refine gAlloc (T := 61) ?_); refine wplAllocZ rfl rfl zero61 ?_) | ((with_reducible refine gToArray ?_); refine wpl_run rfl (ex_arrayAt rfl Try.underlying43 rfl hlen) ?_) | ((with_reducible refine gStore (T := 43) ?_); refine wplStoreMid rfl rfl rfl rfl hg1 (by rw [B32.cells_length]; exact size43) (by rw [B32.cells_length, List.size_toArray, Item.cells_length]; omega) (B32.cells_one _) ?_; intro w2 h21 h22 h23 h24; rw [Item.set1] at h21; replace h23 := (h23 _ (by omega)).trans hg0; replace h24 := h24 _ _ hB (by omega); have hrg2 := Lib.hid (blk_range h21)) | ((with_reducible refine gLoad (T := 61) ?_); refine wLoadItem _ rfl ?_ _ _ rfl _ hrg2.out ?_; (focus (simp [Region.wanted, yielded]; done))) | ((with_reducible refine gStore (T := 61) ?_); refine wplStoreRow rfl rfl rfl rfl h23 (itemLen _) (by rw [zItem_size, Item.cells_length]) (Item.cells_one _) ?_; intro w3 h31 h32 h33 h34) | ((with_reducible refine gLoad (T := 43) ?_); refine wLoadDigest _ rfl ?_ _ _ rfl (part32 l 0) (rangeAt_below hp0.out (balloc (balloc (brefl w) (.cells zItem.cells.toArray 61)) (.cells (Item.cells ⟨3, zB32, zLeaf⟩).toArray 61))) ?_; (focus (simp [Region.wanted, yielded]; done))))
      exact ret_row Try.results36 rfl h31 Try.underlying61 rfl (itemLen _) rfl ⟨by simp [itemOf], h34 _ _ h24 (Nat.le_refl _)⟩
    · have e1 : (kind == 1) = false := by simpa using k1
      have e3 : (kind == 3) = false := by simpa using k3
      have he := Lib.hid (show itemOf kind l 0 = ⟨kind, zB32, zLeaf⟩ by simp [itemOf, k1, k3])
      clear h1 h3 k1 k3
      go_enter Try.func36, Try.ntmps36
      have hB := balloc (balloc (brefl w) (.cells zItem.cells.toArray 61)) (.cells (Item.cells ⟨kind, zB32, zLeaf⟩).toArray 61)
      have hg1 := heap_alloc2_new w (.cells zItem.cells.toArray 61) (.cells (Item.cells ⟨kind, zB32, zLeaf⟩).toArray 61)
      have hg0 := heap_alloc2_old w (.cells zItem.cells.toArray 61) (.cells (Item.cells ⟨kind, zB32, zLeaf⟩).toArray 61)
      have hrg := Lib.hid (blk_range hg1)
      go_wp2_with (first | ((with_reducible refine gBuild (T := 61) ?_); refine wpl_runG ?_ (exItem0 rfl rfl) ?_; (focus (simp [Region.wanted, yielded]; done))) | ((with_reducible refine gAlloc (T := 61) ?_); refine copyItem rfl rfl rfl _ rfl _ rfl rfl _ rfl rfl ?_) | ((with_reducible refine gAlloc (T := 61) ?_); refine wplAllocZ rfl rfl zero61 ?_) | ((with_reducible refine gLoad (T := 61) ?_); refine wLoadItem _ rfl ?_ _ _ rfl _ hrg.out ?_; (focus (simp [Region.wanted, yielded]; done))) | ((with_reducible refine gStore (T := 61) ?_); refine wplStoreRow rfl rfl rfl rfl hg0 (itemLen _) (by rw [zItem_size, Item.cells_length]) (Item.cells_one _) ?_; intro w3 h31 h32 h33 h34))
      exact ret_row Try.results36 rfl h31 Try.underlying61 rfl (itemLen _) rfl ⟨by rw [he.out], h34 _ _ hB (Nat.le_refl _)⟩
end Go.Proofs.Ythinpbgbnlohpaa
