/- Walks of tick.First and tick.Last and of their references over any slice of numbers. -/
import Derived.Test.YtkcehgmkjkhobaaMem
import Derived.Test.YtkcehgmkjkhobaaTick
namespace Go.Proofs.Ytkcehgmkjkhobaa
open Go.RowKit
set_option linter.unusedVariables false

def firstZ (l : List Int) : Int := l.foldl (fun o t => if clampZ t < o then clampZ t else o) 1099511627776
def lastZ (l : List Int) : Int := l.foldl (fun o t => if o < clampZ t then clampZ t else o) 0
theorem take_succ' (l : List Int) (k : Nat) (h : k < l.length) : l.take (k + 1) = l.take k ++ [l[k]] := by
  rw [List.take_succ_eq_append_getElem h]
theorem firstZ_snoc (l : List Int) (k : Nat) (h : k < l.length) : firstZ (l.take (k + 1)) = if clampZ l[k] < firstZ (l.take k) then clampZ l[k] else firstZ (l.take k) := by
  unfold firstZ; rw [take_succ' l k h, List.foldl_append]; rfl
theorem lastZ_snoc (l : List Int) (k : Nat) (h : k < l.length) : lastZ (l.take (k + 1)) = if lastZ (l.take k) < clampZ l[k] then clampZ l[k] else lastZ (l.take k) := by
  unfold lastZ; rw [take_succ' l k h, List.foldl_append]; rfl

/-- An element of a slice of numbers that reads as a list. -/
theorem ints_at {w : World} {B n : Nat} {A : Option Addr} {zs : List Int} (h : Reads w B 1 A n (zs.map (Value.int .i64))) {k : Nat} (hk : k < n) :
    ∃ (ad : Addr) (hl : k < zs.length), A = some ad ∧ w.cell? (ad.add k) = some (.int .i64 zs[k]) := by
  obtain ⟨ad, u, rfl, _, hx, hc⟩ := h.at_ hk
  have hl : k < zs.length := by have := h.1; simp at this; omega
  rw [List.getElem?_map, List.getElem?_eq_getElem hl] at hx
  simp at hx
  exact ⟨ad, hl, rfl, by rw [hc, hx]⟩

set_option maxHeartbeats 400000 in
theorem first_any (A : Option Addr) (n c : Nat) (zs : List Int) (w : World) (hr : Reads w w.heap.size 1 A n (zs.map (Value.int .i64))) (hm : n ≤ 9223372036854775807) :
    Calls Try.prog 18 #[.slice A n c] w fun e w' => e = .returned (.int .i64 (firstZ zs)) ∧ w = w' := by
  have hlen : zs.length = n := by have := hr.1; simpa using this
  have HL := Lib.hid hlen
  clear hlen
  go_enter Try.func18, Try.ntmps18
  go_wp2
  go_loop [3, 5, 8] (fun o x i => ∃ k : Nat, k ≤ n ∧ i = .int .i64 k ∧ o = .int .i64 (firstZ (zs.take k))) (fun _ _ i => n - (intOf i).toNat)
  case atStart => exact ⟨0, Nat.zero_le _, rfl, rfl⟩
  case round =>
    obtain ⟨k, hk, rfl, rfl⟩ := hrel
    by_cases hlt : k < n
    · obtain ⟨ad, hl, rfl, hc⟩ := ints_at hr hlt
      have hs := Lib.hid (firstZ_snoc zs k hl)
      go_wp2_with (go_at_call 10; refine (clamp_any _ _).mono ?_; rintro e w' ⟨rfl, rfl⟩)
      all_goals
        go_round
        case rel => exact ⟨k + 1, by omega, by go_num, by rw [hs.out]; try (simp [*]; try omega)⟩
        case measure => simp [intOf]; omega
    · go_wp2
      go_ret
      exact ⟨ret_int (by rw [List.take_of_length_le (by have := HL.out; omega)]), rfl⟩
set_option maxHeartbeats 400000 in
theorem last_any (A : Option Addr) (n c : Nat) (zs : List Int) (w : World) (hr : Reads w w.heap.size 1 A n (zs.map (Value.int .i64))) (hm : n ≤ 9223372036854775807) :
    Calls Try.prog 20 #[.slice A n c] w fun e w' => e = .returned (.int .i64 (lastZ zs)) ∧ w = w' := by
  have hlen : zs.length = n := by have := hr.1; simpa using this
  have HL := Lib.hid hlen
  clear hlen
  go_enter Try.func20, Try.ntmps20
  go_wp2
  go_loop [3, 5, 8] (fun o x i => ∃ k : Nat, k ≤ n ∧ i = .int .i64 k ∧ o = .int .i64 (lastZ (zs.take k))) (fun _ _ i => n - (intOf i).toNat)
  case atStart => exact ⟨0, Nat.zero_le _, rfl, rfl⟩
  case round =>
    obtain ⟨k, hk, rfl, rfl⟩ := hrel
    by_cases hlt : k < n
    · obtain ⟨ad, hl, rfl, hc⟩ := ints_at hr hlt
      have hs := Lib.hid (lastZ_snoc zs k hl)
      go_wp2_with (go_at_call 10; refine (clamp_any _ _).mono ?_; rintro e w' ⟨rfl, rfl⟩)
      all_goals
        go_round
        case rel => exact ⟨k + 1, by omega, by go_num, by rw [hs.out]; try (simp [*]; try omega)⟩
        case measure => simp [intOf]; omega
    · go_wp2
      go_ret
      exact ⟨ret_int (by rw [List.take_of_length_le (by have := HL.out; omega)]), rfl⟩
set_option maxHeartbeats 400000 in
theorem refFirst_any (A : Option Addr) (n c : Nat) (zs : List Int) (w : World) (hr : Reads w w.heap.size 1 A n (zs.map (Value.int .i64))) (hm : n ≤ 9223372036854775807) :
    Calls Try.prog 19 #[.slice A n c] w fun e w' => e = .returned (.int .i64 (firstZ zs)) ∧ w = w' := by
  have hlen : zs.length = n := by have := hr.1; simpa using this
  have HL := Lib.hid hlen
  clear hlen
  go_enter Try.func19, Try.ntmps19
  go_wp2
  go_loop [3, 5, 8] (fun o x i => ∃ k : Nat, k ≤ n ∧ i = .int .i64 k ∧ o = .int .i64 (firstZ (zs.take k))) (fun _ _ i => n - (intOf i).toNat)
  case atStart => exact ⟨0, Nat.zero_le _, rfl, rfl⟩
  case round =>
    obtain ⟨k, hk, rfl, rfl⟩ := hrel
    by_cases hlt : k < n
    · obtain ⟨ad, hl, rfl, hc⟩ := ints_at hr hlt
      have hs := Lib.hid (firstZ_snoc zs k hl)
      go_wp2_with (go_at_call 11; refine (refClamp_any _ _).mono ?_; rintro e w' ⟨rfl, rfl⟩)
      all_goals
        go_round
        case rel => exact ⟨k + 1, by omega, by go_num, by rw [hs.out]; try (simp [*]; try omega)⟩
        case measure => simp [intOf]; omega
    · go_wp2
      go_ret
      exact ⟨ret_int (by rw [List.take_of_length_le (by have := HL.out; omega)]), rfl⟩
set_option maxHeartbeats 400000 in
theorem refLast_any (A : Option Addr) (n c : Nat) (zs : List Int) (w : World) (hr : Reads w w.heap.size 1 A n (zs.map (Value.int .i64))) (hm : n ≤ 9223372036854775807) :
    Calls Try.prog 21 #[.slice A n c] w fun e w' => e = .returned (.int .i64 (lastZ zs)) ∧ w = w' := by
  have hlen : zs.length = n := by have := hr.1; simpa using this
  have HL := Lib.hid hlen
  clear hlen
  go_enter Try.func21, Try.ntmps21
  go_wp2
  go_loop [3, 5, 8] (fun o x i => ∃ k : Nat, k ≤ n ∧ i = .int .i64 k ∧ o = .int .i64 (lastZ (zs.take k))) (fun _ _ i => n - (intOf i).toNat)
  case atStart => exact ⟨0, Nat.zero_le _, rfl, rfl⟩
  case round =>
    obtain ⟨k, hk, rfl, rfl⟩ := hrel
    by_cases hlt : k < n
    · obtain ⟨ad, hl, rfl, hc⟩ := ints_at hr hlt
      have hs := Lib.hid (lastZ_snoc zs k hl)
      go_wp2_with (go_at_call 11; refine (refClamp_any _ _).mono ?_; rintro e w' ⟨rfl, rfl⟩)
      all_goals
        go_round
        case rel => exact ⟨k + 1, by omega, by go_num, by rw [hs.out]; try (simp [*]; try omega)⟩
        case measure => simp [intOf]; omega
    · go_wp2
      go_ret
      exact ⟨ret_int (by rw [List.take_of_length_le (by have := HL.out; omega)]), rfl⟩

set_option maxHeartbeats 400000 in
theorem walkEnds (A : Option Addr) (n c : Nat) (zs : List Int) (w : World) (hr : Reads w w.heap.size 1 A n (zs.map (Value.int .i64))) (hm : n ≤ 9223372036854775807) :
    Calls Try.prog 8 #[.slice A n c] w fun e w' => e = .returned (.bool true) ∧ Below w.heap.size w w' := by
  have h7 : clampZ 7 = 7 := by decide
  go_enter Try.func8, Try.ntmps8
  go_wp2_with (first
    | (go_at_call 18; refine (first_any _ _ _ _ _ hr hm).mono ?_; rintro e w' ⟨rfl, rfl⟩)
    | (go_at_call 20; refine (last_any _ _ _ _ _ hr hm).mono ?_; rintro e w' ⟨rfl, rfl⟩)
    | (go_at_call 19; refine (refFirst_any _ _ _ _ _ hr hm).mono ?_; rintro e w' ⟨rfl, rfl⟩)
    | (go_at_call 21; refine (refLast_any _ _ _ _ _ hr hm).mono ?_; rintro e w' ⟨rfl, rfl⟩)
    | (go_at_call 10; refine (clamp_any _ _).mono ?_; rintro e w' ⟨rfl, rfl⟩))
  go_ret
  exact ⟨rfl, Below.refl _ _⟩
end Go.Proofs.Ytkcehgmkjkhobaa
