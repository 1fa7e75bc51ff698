/- multi.Check, mcodec.payload, mcodec.Size. -/
import Derived.Test.YthinpbgbnlohpaaM3
import Derived.Test.YthinpbgbnlohpaaM1
namespace Go.Proofs.Ythinpbgbnlohpaa
set_option linter.unusedSimpArgs false
set_option linter.unusedVariables false
open Go.RowKit

def checkM (l : List Item) : Int := match parseM l with | .ok _ => 0 | .error c => c
def IntPost (n : Int) (w : World) (e : Ending) (w' : World) : Prop := e = .returned (.int .i64 n) ∧ Below w.heap.size w w'
theorem Check_any (l : List Item) (A : Option Addr) (cap : Nat) (hl : l.length ≤ 100000) (hcap : l.length ≤ cap) (w : World) (hr : Rd w A (l.flatMap Item.cells)) :
    Calls Try.prog 32 #[.slice A l.length cap] w (IntPost (checkM l) w) := by
  have P := parse_any l A cap hl hcap w hr
  go_enter Try.func32, Try.ntmps32
  go_wp2_with fail
  cases h : parseM l with
  | ok t =>
    rw [h] at P
    have hm : checkM l = 0 := by simp [checkM, h]
    have HM := Lib.hid hm; clear hm h
    refine P.mono ?_
    rintro e w1 ⟨rfl, hb⟩
    go_wp2
    go_ret
    exact ⟨ret_int HM.out.symm, hb⟩
  | error c =>
    rw [h] at P
    have hm : checkM l = c := by simp [checkM, h]
    have HM := Lib.hid hm; clear hm h
    refine P.mono ?_
    rintro e w1 ⟨rfl, hb⟩
    go_wp2
    go_ret
    exact ⟨ret_int HM.out.symm, hb⟩
theorem Check_at (l : List Item) (A : Option Addr) (cap : Nat) (hl : l.length ≤ 100000) (hcap : l.length ≤ cap) (w0 w : World) (h0 : Below w0.heap.size w0 w) (hr : Rd w0 A (l.flatMap Item.cells)) :
    Calls Try.prog 32 #[.slice A l.length cap] w (IntPost (checkM l) w) := Check_any l A cap hl hcap w (hr.below h0)

def payloadF (k : Int) : Int := if k = 1 then 64 else if k = 3 then 32 else 0
theorem payload_any (k : Int) (w : World) :
    Calls Try.prog 34 #[.int .i64 k] w fun e w' => e = .returned (.int .i64 (payloadF k)) ∧ w = w' := by
  by_cases h1 : k = 1
  · subst h1
    go_enter Try.func34, Try.ntmps34
    go_wp2
    go_ret
    exact ⟨rfl, rfl⟩
  · by_cases h3 : k = 3
    · subst h3
      go_enter Try.func34, Try.ntmps34
      go_wp2
      go_ret
      exact ⟨rfl, rfl⟩
    · have hf : payloadF k = 0 := by simp [payloadF, h1, h3]
      have HF := Lib.hid hf; clear hf
      have a1 : (k == 1) = false := by simpa using h1
      have a3 : (k == 3) = false := by simpa using h3
      go_enter Try.func34, Try.ntmps34
      go_wp2
      go_ret
      exact ⟨ret_int HF.out.symm, rfl⟩
theorem payloadF_le (k : Int) : 0 ≤ payloadF k ∧ payloadF k ≤ 64 := by unfold payloadF; split <;> (try split) <;> omega

def sizeSum (l : List Item) : Int := (l.map fun x => 1 + payloadF x.kind).sum
def sizeM (l : List Item) : Int := if checkM l = 0 then 6 + sizeSum l else 0
theorem sizeSum_le (l : List Item) : 0 ≤ sizeSum l ∧ sizeSum l ≤ 65 * l.length := by
  unfold sizeSum
  induction l with
  | nil => simp
  | cons x l ih =>
    have := payloadF_le x.kind
    simp only [List.map_cons, List.sum_cons, List.length_cons]
    omega
theorem sizeSum_take (l : List Item) (k : Nat) (x : Item) (h : l[k]? = some x) : sizeSum (l.take (k + 1)) = sizeSum (l.take k) + (1 + payloadF x.kind) := by
  unfold sizeSum
  rw [List.take_add_one, h, List.map_append, List.sum_append]
  simp
set_option maxRecDepth 100000 in
set_option maxHeartbeats 400000 in
theorem Size_any (l : List Item) (A : Option Addr) (cap : Nat) (hl : l.length ≤ 100000) (hcap : l.length ≤ cap) (w : World) (hr : Rd w A (l.flatMap Item.cells)) :
    Calls Try.prog 15 #[.slice A l.length cap] w (IntPost (sizeM l) w) := by
  have C := Check_any l A cap hl hcap w hr
  by_cases hc : checkM l = 0
  · have hm : sizeM l = 6 + sizeSum l := by simp [sizeM, hc]
    rw [hc] at C
    have HM := Lib.hid hm; clear hm hc
    go_enter Try.func15, Try.ntmps15
    go_wp2_with fail
    refine C.mono ?_
    rintro e w1 ⟨rfl, hb1⟩
    go_wp2
    go_loopw [3, 11] (fun n i wr => ∃ k : Nat, k ≤ l.length ∧ i = .int .i64 k ∧ n = .int .i64 (6 + sizeSum (l.take k)) ∧ Below w.heap.size w wr) (fun _ i _ => l.length - (intOf i).toNat)
    case atStart => exact ⟨0, by omega, rfl, by simp [sizeSum], hb1⟩
    case round =>
      obtain ⟨k, hk, rfl, rfl, hb⟩ := hrel
      have hs := sizeSum_le (l.take k)
      have hle : (l.take k).length ≤ l.length := by simp; omega
      by_cases hlt : k < l.length
      · have hx : l[k]? = some l[k] := by simp [hlt]
        generalize l[k] = x at hx
        obtain ⟨b, o, rfl, hbw, hr'⟩ := hr.open_ (by rw [flat_length Item.cells_length]; omega)
        have hrx := rangeAt_below (rangeAt_flat Item.cells_length hr' hx) hb
        have hp := payloadF_le x.kind
        have HS := Lib.hid (sizeSum_take l k x hx)
        go_wp2_with (first | ((with_reducible refine gLoad (T := 61) ?_); refine wLoadItem _ rfl ?_ _ _ rfl x hrx ?_; (focus (first | (simp [Region.wanted, yielded]; done) | (simp [Region.wanted, yielded, *]; done)))) | ((with_reducible refine gAlloc (T := 61) ?_); refine copyItem rfl rfl rfl _ rfl _ rfl rfl x rfl rfl ?_) | (go_at_call 34; refine (payload_any _ _).mono ?_; rintro e w' ⟨rfl, rfl⟩))
        refine ⟨⟨k + 1, by omega, by go_num, ?_, hb.alloc hb.size _⟩, by simp [intOf]; omega⟩
        rw [HS.out]
        go_num
      · go_wp2
        go_ret
        obtain rfl : k = l.length := by omega
        rw [HM.out]
        exact ⟨ret_int (by rw [List.take_length]), hb⟩
  · have hm : sizeM l = 0 := by simp [sizeM, hc]
    have hne : (checkM l != 0) = true := by simpa using hc
    have HM := Lib.hid hm; clear hm hc
    go_enter Try.func15, Try.ntmps15
    go_wp2_with fail
    refine C.mono ?_
    rintro e w1 ⟨rfl, hb1⟩
    go_wp2
    go_ret
    exact ⟨ret_int HM.out.symm, hb1⟩
end Go.Proofs.Ythinpbgbnlohpaa
