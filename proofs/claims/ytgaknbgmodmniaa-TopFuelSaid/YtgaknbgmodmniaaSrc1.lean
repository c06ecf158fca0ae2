/- Walks of job.Inputs and its reference, at one source's events. -/
import Derived.Test.YtgaknbgmodmniaaSrc0
namespace Go.Proofs.Ytgaknbgmodmniaa
open Go.RowKit
set_option linter.unusedVariables false
set_option linter.unusedSimpArgs false

set_option maxHeartbeats 400000 in
theorem bad_any (x : Ev) (w : World) (hs : x.key.size ≤ maxLen) : Calls Try.prog 25 #[.agg #[.string x.key, .int .i64 x.at_, .int .i64 x.v]] w fun e w' => e = .returned (.bool (!evB x)) ∧ Below w.heap.size w w' := by
  go_enter Try.func25, Try.ntmps25
  go_wp2_with fail
  refine (event_any x _ hs).mono ?_
  rintro e w1 ⟨rfl, hb1⟩
  have k1 : Below w.heap.size w w1 := next_below (by go_grown) hb1
  go_wp2
  go_ret
  exact ⟨rfl, k1⟩

/-- The place of the first event that may not be, or -1. -/
def IdxPost (l : List Ev) (w : World) (e : Ending) (w' : World) : Prop := ∃ i : Int, e = .returned (.int .i64 i) ∧ decide (0 ≤ i) = badB l ∧ Below w.heap.size w w'
theorem badB_take (l : List Ev) (k : Nat) (h : k < l.length) : badB (l.take (k + 1)) = (badB (l.take k) || !evB l[k]) := by
  unfold badB; rw [List.take_succ_eq_append_getElem h, List.any_append]; simp
theorem badB_of_take (l : List Ev) (k : Nat) (h : badB (l.take k) = true) : badB l = true := by
  unfold badB at *
  rw [List.any_eq_true] at *
  obtain ⟨x, hx, h⟩ := h
  exact ⟨x, List.mem_of_mem_take hx, h⟩

set_option maxHeartbeats 1000000 in
theorem idx_any (A : Option Addr) (n c : Nat) (ls : List Ev) (w : World) (hr : Reads w w.heap.size 3 A n (evs ls)) (hm : n ≤ 9223372036854775807) (hs : ∀ z ∈ ls, z.key.size ≤ maxLen) :
    Calls Try.prog 33 #[.slice A n c, .func (.func 25) #[] #[]] w (IdxPost ls w) := by
  have HL := Lib.hid (evs_len hr)
  have HS := Lib.hid hs
  clear hs
  go_enter Try.func33, Try.ntmps33
  go_wp2
  go_loopw [8] (fun i wr => ∃ k : Nat, k ≤ n ∧ i = .int .i64 k ∧ Hid (badB (ls.take k) = false) ∧ Below w.heap.size w wr) (fun i _ => n - (intOf i).toNat)
  case atStart => exact ⟨0, Nat.zero_le _, rfl, Lib.hid rfl, Below.refl _ _⟩
  case round =>
    obtain ⟨k, hk, rfl, HB, hB⟩ := hrel
    by_cases hlt : k < n
    · obtain ⟨ad, hl, rfl, _, x0, x1, x2⟩ := evs_get (hr.below hB) hlt
      have hs1 := HS.out ls[k] (List.getElem_mem hl)
      have ht := badB_take ls k hl
      rw [HB.out] at ht
      generalize ls[k] = x at *
      cases he : evB x
      · have HT := Lib.hid (badB_of_take ls (k + 1) (by rw [ht, he]; rfl))
        clear ht
        go_wp2_with fail
        refine (bad_any x wr hs1).mono ?_
        rw [he]
        rintro e w1 ⟨rfl, hb1⟩
        have k1 : Below w.heap.size w w1 := next_below hB hb1
        go_wp2
        go_ret
        exact ⟨_, rfl, by rw [HT.out]; simp, k1⟩
      · have HT := Lib.hid (ht.trans (by rw [he]; rfl) : badB (ls.take (k + 1)) = false)
        clear ht
        go_wp2_with fail
        refine (bad_any x wr hs1).mono ?_
        rw [he]
        rintro e w1 ⟨rfl, hb1⟩
        have k1 : Below w.heap.size w w1 := next_below hB hb1
        go_wp2
        go_roundw
        case rel => exact ⟨k + 1, by omega, by go_num, HT, k1⟩
        case measure => simp [intOf]; omega
    · go_wp2
      go_ret
      exact ⟨_, rfl, by have := HB.out; rw [List.take_of_length_le (by have := HL.out; omega)] at this; rw [this]; simp, hB⟩

set_option maxHeartbeats 400000 in
theorem contains_any (A : Option Addr) (n c : Nat) (ls : List Ev) (w : World) (hr : Reads w w.heap.size 3 A n (evs ls)) (hm : n ≤ 9223372036854775807) (hs : ∀ z ∈ ls, z.key.size ≤ maxLen) :
    Calls Try.prog 24 #[.slice A n c, .func (.func 25) #[] #[]] w fun e w' => e = .returned (.bool (badB ls)) ∧ Below w.heap.size w w' := by
  go_enter Try.func24, Try.ntmps24
  go_wp2_with fail
  refine (idx_any _ _ _ _ _ hr hm hs).mono ?_
  rintro e w1 ⟨i, rfl, hi, hb⟩
  have HI := Lib.hid hi
  clear hi
  go_wp2
  go_ret
  exact ⟨ret_bool' HI.out, hb⟩

theorem inB_long {l : List Ev} (h : 200 < l.length) : inB l = false := by unfold inB; simp; omega
theorem inB_short {l : List Ev} (h : l.length ≤ 200) : inB l = !badB l := by rw [inB_eq]; simp [h]
set_option maxHeartbeats 400000 in
theorem row_any (A : Option Addr) (n c : Nat) (ls : List Ev) (w : World) (hr : Reads w w.heap.size 3 A n (evs ls)) (hm : n ≤ 9223372036854775807) (hs : ∀ z ∈ ls, z.key.size ≤ maxLen) :
    Calls Try.prog 23 #[.slice A n c] w fun e w' => e = .returned (.bool (!inB ls)) ∧ Below w.heap.size w w' := by
  have hl := evs_len hr
  by_cases h : 200 < n
  · rw [inB_long (by omega)]
    clear hl
    go_enter Try.func23, Try.ntmps23
    go_wp2
    go_ret
    exact ⟨ret_bool' (by simp; try omega), Below.refl _ _⟩
  · rw [inB_short (by omega)]
    clear hl
    have h' : decide ((200 : Int) < n) = false := by simp; omega
    go_enter Try.func23, Try.ntmps23
    go_wp2_with fail
    refine (contains_any A n c ls w hr hm hs).mono ?_
    rintro e w1 ⟨rfl, hb⟩
    go_wp2
    go_ret
    exact ⟨ret_bool' (by simp; try omega), hb⟩

/-- The place of the first source whose events may not be, or -1, of one source. -/
def idxI (b : Bool) : Int := if b then -1 else 0
set_option maxHeartbeats 1000000 in
theorem idx1_any (ad : Addr) (A : Option Addr) (n c : Nat) (ls : List Ev) (w : World) (hc : w.cell? ad = some (.slice A n c)) (hr : Reads w w.heap.size 3 A n (evs ls)) (hm : n ≤ 9223372036854775807) (hs : ∀ z ∈ ls, z.key.size ≤ maxLen) :
    Calls Try.prog 32 #[.slice (some ad) 1 1, .func (.func 23) #[] #[]] w fun e w' => e = .returned (.int .i64 (idxI (inB ls))) ∧ Below w.heap.size w w' := by
  go_enter Try.func32, Try.ntmps32
  go_wp2
  go_loopw [8] (fun i wr => (i = .int .i64 0 ∧ w = wr) ∨ (i = .int .i64 1 ∧ inB ls = true ∧ Below w.heap.size w wr)) (fun i _ => 1 - (intOf i).toNat)
  case atStart => exact .inl ⟨rfl, rfl⟩
  case round =>
    rcases hrel with ⟨rfl, rfl⟩ | ⟨rfl, hI, hB⟩
    · cases hI : inB ls
      · go_wp2_with fail
        refine (row_any A n c ls w hr hm hs).mono ?_
        rw [hI]
        have HI := Lib.hid hI
        clear hI
        rintro e w1 ⟨rfl, hb1⟩
        go_wp2
        go_ret
        exact ⟨by rw [HI.out]; rfl, hb1⟩
      · go_wp2_with fail
        refine (row_any A n c ls w hr hm hs).mono ?_
        rw [hI]
        rintro e w1 ⟨rfl, hb1⟩
        go_wp2
        go_roundw
        case rel => exact .inr ⟨rfl, by first | trivial | rfl, hb1⟩
        case measure => simp [intOf]
    · have HI := Lib.hid hI
      clear hI
      go_wp2
      go_ret
      exact ⟨by rw [HI.out]; rfl, hB⟩
set_option maxHeartbeats 400000 in
theorem contains1_any (ad : Addr) (A : Option Addr) (n c : Nat) (ls : List Ev) (w : World) (hc : w.cell? ad = some (.slice A n c)) (hr : Reads w w.heap.size 3 A n (evs ls)) (hm : n ≤ 9223372036854775807) (hs : ∀ z ∈ ls, z.key.size ≤ maxLen) :
    Calls Try.prog 22 #[.slice (some ad) 1 1, .func (.func 23) #[] #[]] w fun e w' => e = .returned (.bool (!inB ls)) ∧ Below w.heap.size w w' := by
  go_enter Try.func22, Try.ntmps22
  cases hI : inB ls
  all_goals
    go_wp2_with fail
    refine (idx1_any _ _ _ _ _ _ hc hr hm hs).mono ?_
    rw [hI]
    unfold idxI
    rintro e w1 ⟨rfl, hb⟩
    go_wp2
    go_ret
    exact ⟨ret_bool' (by simp), hb⟩
set_option maxHeartbeats 400000 in
theorem inputs_any (ad : Addr) (A : Option Addr) (n c : Nat) (ls : List Ev) (w : World) (hc : w.cell? ad = some (.slice A n c)) (hr : Reads w w.heap.size 3 A n (evs ls)) (hm : n ≤ 9223372036854775807) (hs : ∀ z ∈ ls, z.key.size ≤ maxLen) :
    Calls Try.prog 14 #[.slice (some ad) 1 1] w fun e w' => e = .returned (.bool (inB ls)) ∧ Below w.heap.size w w' := by
  go_enter Try.func14, Try.ntmps14
  go_wp2_with fail
  refine (contains1_any _ _ _ _ _ _ hc hr hm hs).mono ?_
  rintro e w1 ⟨rfl, hb⟩
  go_wp2
  go_ret
  exact ⟨ret_bool' (by simp), hb⟩

theorem inB_of_bad {l : List Ev} (h : badB l = true) : inB l = false := by rw [inB_eq, h]; simp
theorem inB_of_good {l : List Ev} (h : badB l = false) (h' : l.length ≤ 200) : inB l = true := by rw [inB_eq, h]; simp [h']
end Go.Proofs.Ytgaknbgmodmniaa
