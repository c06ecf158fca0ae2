/- Walks of package link's Right, within, and of what they call; the law's alive. -/
import Derived.Test.YtplodggiifachaaMem
namespace Go.Proofs.Ytplodggiifachaa
open Go.RowKit
set_option linter.unusedVariables false
set_option linter.unusedSimpArgs false

theorem ret_bool {a b : Bool} (h : a = b) : Ending.returned (.bool a) = .returned (.bool b) := by rw [h]
def withinB (n lo hi : Int) : Bool := decide (lo ≤ n) && decide (n ≤ hi)
theorem withinB_true {n lo hi : Int} : withinB n lo hi = true ↔ lo ≤ n ∧ n ≤ hi := by simp [withinB]
theorem withinB_false {n lo hi : Int} : withinB n lo hi = false ↔ n < lo ∨ hi < n := by
  simp only [withinB, Bool.and_eq_false_iff, decide_eq_false_iff_not]; omega

set_option maxHeartbeats 400000 in
theorem within_any (n lo hi : Int) (w : World) : Calls Try.prog 24 #[.int .i64 n, .int .i64 lo, .int .i64 hi] w fun e w' => e = .returned (.bool (withinB n lo hi)) ∧ w = w' := by
  by_cases h : lo ≤ n
  all_goals
    go_enter Try.func24, Try.ntmps24
    go_wp2
    go_ret
    exact ⟨ret_bool (by simp [withinB, h]; try omega), rfl⟩
set_option maxHeartbeats 400000 in
theorem in_any (n lo hi : Int) (w : World) : Calls Try.prog 25 #[.int .i64 n, .int .i64 lo, .int .i64 hi] w fun e w' => e = .returned (.bool (withinB n lo hi)) ∧ w = w' := by
  by_cases h : lo ≤ n
  all_goals
    go_enter Try.func25, Try.ntmps25
    go_wp2
    go_ret
    exact ⟨ret_bool (by simp [withinB, h]; try omega), rfl⟩

/-- One end of a link: its epoch, the number of the first body, the bodies, its timer. -/
structure Snd where
  ep : Int
  base : Int
  bodies : List ByteArray
  timer : Int
def longB (l : List ByteArray) : Bool := l.any fun b => decide (4096 < b.size)
def rightB (s : Snd) : Bool :=
  withinB s.ep 0 1073741824 && withinB s.bodies.length 0 8 && withinB s.base 0 (1073741824 - s.bodies.length) && withinB s.timer 0 4 && ((s.timer == 0) == ((s.bodies.length : Int) == 0)) && !longB s.bodies

/-- An element of a slice of strings that reads as a list. -/
theorem strs_at {w : World} {B n : Nat} {A : Option Addr} {zs : List ByteArray} (h : Reads w B 1 A n (zs.map Value.string)) {k : Nat} (hk : k < n) :
    ∃ (ad : Addr) (hl : k < zs.length), A = some ad ∧ w.cell? (ad.add k) = some (.string zs[k]) := by
  obtain ⟨ad, u, rfl, _, hx, hc⟩ := h.at_ hk
  have hl : k < zs.length := by have := h.1; simp at this; omega
  rw [List.getElem?_map, List.getElem?_eq_getElem hl] at hx
  simp at hx
  exact ⟨ad, hl, rfl, by rw [hc, hx]⟩

set_option maxHeartbeats 400000 in
theorem long_any (s : ByteArray) (w : World) (hs : s.size ≤ maxLen) : Calls Try.prog 27 #[.string s] w fun e w' => e = .returned (.bool (decide (4096 < s.size))) ∧ w = w' := by
  unfold maxLen at hs
  by_cases h : 4096 < s.size
  all_goals
    go_enter Try.func27, Try.ntmps27
    go_wp2
    go_ret
    exact ⟨ret_bool (by simp; try omega), rfl⟩

/-- The place of the first long one, or -1. -/
def IdxPost (l : List ByteArray) (w : World) (e : Ending) (w' : World) : Prop := ∃ i : Int, e = .returned (.int .i64 i) ∧ decide (0 ≤ i) = longB l ∧ w = w'
theorem longB_take (l : List ByteArray) (k : Nat) (h : k < l.length) : longB (l.take (k + 1)) = (longB (l.take k) || decide (4096 < l[k].size)) := by
  unfold longB; rw [List.take_succ_eq_append_getElem h, List.any_append]; simp
theorem longB_of_take (l : List ByteArray) (k : Nat) (h : longB (l.take k) = true) : longB l = true := by
  unfold longB at *
  rw [List.any_eq_true] at *
  obtain ⟨x, hx, h⟩ := h
  exact ⟨x, List.mem_of_mem_take hx, h⟩

set_option maxHeartbeats 400000 in
theorem idx_any (A : Option Addr) (n c : Nat) (zs : List ByteArray) (w : World) (hr : Reads w w.heap.size 1 A n (zs.map Value.string)) (hm : n ≤ 9223372036854775807) (hs : ∀ z ∈ zs, z.size ≤ maxLen) :
    Calls Try.prog 32 #[.slice A n c, .func (.func 27) #[] #[]] w (IdxPost zs w) := by
  have hlen : zs.length = n := by have := hr.1; simpa using this
  have HL := Lib.hid hlen
  have HS := Lib.hid hs
  clear hlen hs
  go_enter Try.func32, Try.ntmps32
  go_wp2
  go_loop [8] (fun i => ∃ k : Nat, k ≤ n ∧ i = .int .i64 k ∧ Hid (longB (zs.take k) = false)) (fun i => n - (intOf i).toNat)
  case atStart => exact ⟨0, Nat.zero_le _, rfl, Lib.hid rfl⟩
  case round =>
    obtain ⟨k, hk, rfl, HB⟩ := hrel
    by_cases hlt : k < n
    · obtain ⟨ad, hl, rfl, hc⟩ := strs_at hr hlt
      have hs1 := HS.out zs[k] (List.getElem_mem hl)
      have ht := longB_take zs k hl
      rw [HB.out] at ht
      by_cases h4 : 4096 < zs[k].size
      · have hL : longB zs = true := longB_of_take zs (k + 1) (by rw [ht]; simp [h4])
        have HT := Lib.hid hL
        clear ht hL
        go_wp2_with (go_at_call 27; refine (long_any _ _ hs1).mono ?_; rintro e w' ⟨rfl, rfl⟩)
        go_ret
        exact ⟨_, rfl, by rw [HT.out]; simp, rfl⟩
      · have HT := Lib.hid (ht.trans (by simp; omega) : longB (zs.take (k + 1)) = false)
        clear ht
        go_wp2_with (go_at_call 27; refine (long_any _ _ hs1).mono ?_; rintro e w' ⟨rfl, rfl⟩)
        go_round
        case rel => exact ⟨k + 1, by omega, by go_num, HT⟩
        case measure => simp [intOf]; omega
    · go_wp2
      go_ret
      exact ⟨_, rfl, by have := HB.out; rw [List.take_of_length_le (by have := HL.out; omega)] at this; rw [this]; simp, rfl⟩

set_option maxHeartbeats 400000 in
theorem contains_any (A : Option Addr) (n c : Nat) (zs : List ByteArray) (w : World) (hr : Reads w w.heap.size 1 A n (zs.map Value.string)) (hm : n ≤ 9223372036854775807) (hs : ∀ z ∈ zs, z.size ≤ maxLen) :
    Calls Try.prog 26 #[.slice A n c, .func (.func 27) #[] #[]] w fun e w' => e = .returned (.bool (longB zs)) ∧ w = w' := by
  go_enter Try.func26, Try.ntmps26
  go_wp2_with (go_at_call 32; refine (idx_any _ _ _ _ _ hr hm hs).mono ?_; rintro e w' ⟨i, rfl, hi, rfl⟩; have HI := Lib.hid hi; clear hi)
  go_ret
  exact ⟨ret_bool HI.out, rfl⟩

set_option maxHeartbeats 1000000 in
theorem right_any (ep base timer : Int) (bodies : List ByteArray) (A : Option Addr) (n c : Nat) (w : World) (hr : Reads w w.heap.size 1 A n (bodies.map Value.string)) (hm : n ≤ 9223372036854775807) (hs : ∀ z ∈ bodies, z.size ≤ maxLen) :
    Calls Try.prog 14 #[.agg #[.int .i64 ep, .int .i64 base, .slice A n c, .int .i64 timer]] w fun e w' => e = .returned (.bool (rightB ⟨ep, base, bodies, timer⟩)) ∧ Below w.heap.size w w' := by
  have hlen : bodies.length = n := by have := hr.1; simpa using this
  unfold rightB
  simp only [hlen]
  clear hlen
  have hr1 : Reads (w.alloc (.cells #[.int .i64 ep, .int .i64 base, .slice A n c, .int .i64 timer] 31)) (w.alloc (.cells #[.int .i64 ep, .int .i64 base, .slice A n c, .int .i64 timer] 31)).heap.size 1 A n (bodies.map Value.string) :=
    (hr.alloc (Nat.le_refl _) _).more (by simp)
  cases h1 : withinB ep 0 1073741824
  · go_enter Try.func14, Try.ntmps14
    go_wp2_with (go_at_call 24; refine (within_any _ _ _ _).mono ?_; rintro e w' ⟨rfl, rfl⟩)
    go_ret
    exact ⟨rfl, by go_grown⟩
  cases h2 : withinB n 0 8
  · go_enter Try.func14, Try.ntmps14
    go_wp2_with (go_at_call 24; refine (within_any _ _ _ _).mono ?_; rintro e w' ⟨rfl, rfl⟩)
    go_ret
    exact ⟨rfl, by go_grown⟩
  have hn8 := withinB_true.1 h2
  cases h3 : withinB base 0 (1073741824 - n)
  · go_enter Try.func14, Try.ntmps14
    go_wp2_with (go_at_call 24; refine (within_any _ _ _ _).mono ?_; rintro e w' ⟨rfl, rfl⟩)
    go_ret
    exact ⟨rfl, by go_grown⟩
  cases h4 : withinB timer 0 4
  · go_enter Try.func14, Try.ntmps14
    go_wp2_with (go_at_call 24; refine (within_any _ _ _ _).mono ?_; rintro e w' ⟨rfl, rfl⟩)
    go_ret
    exact ⟨rfl, by go_grown⟩
  cases h5 : (timer == 0) <;> cases h6 : ((n : Int) == 0)
  · go_enter Try.func14, Try.ntmps14
    go_wp2_with (first
      | (go_at_call 24; refine (within_any _ _ _ _).mono ?_; rintro e w' ⟨rfl, rfl⟩)
      | (go_at_call 26; refine (contains_any _ _ _ _ _ hr1 hm hs).mono ?_; rintro e w' ⟨rfl, rfl⟩))
    go_ret
    exact ⟨rfl, by go_grown⟩
  · go_enter Try.func14, Try.ntmps14
    go_wp2_with (go_at_call 24; refine (within_any _ _ _ _).mono ?_; rintro e w' ⟨rfl, rfl⟩)
    go_ret
    exact ⟨rfl, by go_grown⟩
  · go_enter Try.func14, Try.ntmps14
    go_wp2_with (go_at_call 24; refine (within_any _ _ _ _).mono ?_; rintro e w' ⟨rfl, rfl⟩)
    go_ret
    exact ⟨rfl, by go_grown⟩
  · go_enter Try.func14, Try.ntmps14
    go_wp2_with (first
      | (go_at_call 24; refine (within_any _ _ _ _).mono ?_; rintro e w' ⟨rfl, rfl⟩)
      | (go_at_call 26; refine (contains_any _ _ _ _ _ hr1 hm hs).mono ?_; rintro e w' ⟨rfl, rfl⟩))
    go_ret
    exact ⟨rfl, by go_grown⟩
end Go.Proofs.Ytplodggiifachaa
