/- The walk of chapter 15's law LinkTakes. -/
import Derived.Test.YtplodggiifachaaLink2
namespace Go.Proofs.Ytplodggiifachaa
open Go.RowKit
set_option linter.unusedVariables false

set_option maxHeartbeats 1000000 in
theorem walkTakes1 (re rw pe pn ep : Int) (body : ByteArray) (w : World) (hs : body.size ≤ maxLen) (he : -9223372036854775808 ≤ ep ∧ ep ≤ 9223372036854775807) (hw : withinB ep 0 1073741824 = true) :
    Calls Try.prog 3 #[.agg #[.int .i64 re, .int .i64 rw], .agg #[.int .i64 pe, .int .i64 pn, .string body], .int .i64 ep] w fun e w' => e = .returned (.bool true) ∧ Below w.heap.size w w' := by
  obtain ⟨r1, r2, r3, r4, hr⟩ : ∃ r1 r2 r3 r4, takeZ re rw pe pn body = (r1, r2, r3, r4) := ⟨_, _, _, _, rfl⟩
  have HR := Lib.hid hr
  clear hr
  have hb := withinB_true.1 hw
  have HW := Lib.hid hw
  clear hw
  go_enter Try.func3, Try.ntmps3
  go_wp2_with fail
  refine (take_any _ _ _ _ _ _ hs).mono ?_
  rw [HR.out]
  rintro e w1 ⟨rfl, hb1⟩
  obtain ⟨c1, f1⟩ := bcell hb1
  have y1 := hb1.size
  try simp at y1
  have z0_0_1 : w.heap.size < w1.heap.size := by omega
  have z0_1_1 : w.heap.size + 1 < w1.heap.size := by omega
  have k1 : Below w.heap.size w w1 := next_below (by go_grown) hb1
  go_wp2_with fail
  refine (refTake_any _ _ _ _ _ _ hs).mono ?_
  rw [HR.out]
  rintro e w2 ⟨rfl, hb2⟩
  obtain ⟨c2, f2⟩ := bcell hb2
  have y2 := hb2.size
  try simp at y2
  have z0_0_2 : w.heap.size < w2.heap.size := by omega
  have zz0_0_2 : w.heap.size < w1.heap.size + 1 := by omega
  have z0_1_2 : w.heap.size + 1 < w2.heap.size := by omega
  have zz0_1_2 : w.heap.size + 1 < w1.heap.size + 1 := by omega
  have z1_0_2 : w1.heap.size < w2.heap.size := by omega
  have k2 : Below w.heap.size w w2 := next_below (by go_grown) hb2
  go_wp2_with fail
  refine (open_any _ _).mono ?_
  rintro e w3 ⟨he3, hb3⟩
  obtain ⟨c3, f3⟩ := bcell hb3
  have y3 := hb3.size
  try simp at y3
  have z0_0_3 : w.heap.size < w3.heap.size := by omega
  have zz0_0_3 : w.heap.size < w2.heap.size + 1 := by omega
  have z0_1_3 : w.heap.size + 1 < w3.heap.size := by omega
  have zz0_1_3 : w.heap.size + 1 < w2.heap.size + 1 := by omega
  have z1_0_3 : w1.heap.size < w3.heap.size := by omega
  have zz1_0_3 : w1.heap.size < w2.heap.size + 1 := by omega
  have z2_0_3 : w2.heap.size < w3.heap.size := by omega
  have k3 : Below w.heap.size w w3 := next_below (by go_grown) hb3
  rw [HW.out] at he3
  simp at he3
  subst he3
  go_wp2_with fail
  refine (alive_any _).mono ?_
  rintro e w4 ⟨rfl, hb4⟩
  obtain ⟨c4, f4⟩ := bcell hb4
  have y4 := hb4.size
  try simp at y4
  have z0_0_4 : w.heap.size < w4.heap.size := by omega
  have zz0_0_4 : w.heap.size < w3.heap.size + 2 := by omega
  have z0_1_4 : w.heap.size + 1 < w4.heap.size := by omega
  have zz0_1_4 : w.heap.size + 1 < w3.heap.size + 2 := by omega
  have z1_0_4 : w1.heap.size < w4.heap.size := by omega
  have zz1_0_4 : w1.heap.size < w3.heap.size + 2 := by omega
  have z2_0_4 : w2.heap.size < w4.heap.size := by omega
  have zz2_0_4 : w2.heap.size < w3.heap.size + 2 := by omega
  have z3_0_4 : w3.heap.size < w4.heap.size := by omega
  have z3_1_4 : w3.heap.size + 1 < w4.heap.size := by omega
  have k4 : Below w.heap.size w w4 := next_below (by go_grown) hb4
  go_wp2_with fail
  refine (like_same ep 0 0 [] none none 0 0 0 _ Reads.none_ Reads.none_ (by omega)).mono ?_
  rintro e w5 ⟨rfl, hb5⟩
  obtain ⟨c5, f5⟩ := bcell hb5
  have y5 := hb5.size
  try simp at y5
  have z0_0_5 : w.heap.size < w5.heap.size := by omega
  have z0_1_5 : w.heap.size + 1 < w5.heap.size := by omega
  have z1_0_5 : w1.heap.size < w5.heap.size := by omega
  have z2_0_5 : w2.heap.size < w5.heap.size := by omega
  have z3_0_5 : w3.heap.size < w5.heap.size := by omega
  have z3_1_5 : w3.heap.size + 1 < w5.heap.size := by omega
  have k5 : Below w.heap.size w w5 := next_below (by go_grown) hb5
  go_wp2
  go_ret
  exact ⟨rfl, by go_grown⟩

set_option maxHeartbeats 1000000 in
theorem walkTakes2 (re rw pe pn ep : Int) (body : ByteArray) (w : World) (hs : body.size ≤ maxLen) (he : -9223372036854775808 ≤ ep ∧ ep ≤ 9223372036854775807) (hw : withinB ep 0 1073741824 = false) :
    Calls Try.prog 3 #[.agg #[.int .i64 re, .int .i64 rw], .agg #[.int .i64 pe, .int .i64 pn, .string body], .int .i64 ep] w fun e w' => e = .returned (.bool true) ∧ Below w.heap.size w w' := by
  obtain ⟨r1, r2, r3, r4, hr⟩ : ∃ r1 r2 r3 r4, takeZ re rw pe pn body = (r1, r2, r3, r4) := ⟨_, _, _, _, rfl⟩
  have HR := Lib.hid hr
  clear hr
  have hb := withinB_false.1 hw
  have HW := Lib.hid hw
  clear hw
  rcases hb with hb | hb
  all_goals
    go_enter Try.func3, Try.ntmps3
    go_wp2_with fail
    refine (take_any _ _ _ _ _ _ hs).mono ?_
    rw [HR.out]
    rintro e w1 ⟨rfl, hb1⟩
    obtain ⟨c1, f1⟩ := bcell hb1
    have y1 := hb1.size
    try simp at y1
    have z0_0_1 : w.heap.size < w1.heap.size := by omega
    have z0_1_1 : w.heap.size + 1 < w1.heap.size := by omega
    have k1 : Below w.heap.size w w1 := next_below (by go_grown) hb1
    go_wp2_with fail
    refine (refTake_any _ _ _ _ _ _ hs).mono ?_
    rw [HR.out]
    rintro e w2 ⟨rfl, hb2⟩
    obtain ⟨c2, f2⟩ := bcell hb2
    have y2 := hb2.size
    try simp at y2
    have z0_0_2 : w.heap.size < w2.heap.size := by omega
    have zz0_0_2 : w.heap.size < w1.heap.size + 1 := by omega
    have z0_1_2 : w.heap.size + 1 < w2.heap.size := by omega
    have zz0_1_2 : w.heap.size + 1 < w1.heap.size + 1 := by omega
    have z1_0_2 : w1.heap.size < w2.heap.size := by omega
    have k2 : Below w.heap.size w w2 := next_below (by go_grown) hb2
    go_wp2_with fail
    refine (open_any _ _).mono ?_
    rintro e w3 ⟨he3, hb3⟩
    obtain ⟨c3, f3⟩ := bcell hb3
    have y3 := hb3.size
    try simp at y3
    have z0_0_3 : w.heap.size < w3.heap.size := by omega
    have zz0_0_3 : w.heap.size < w2.heap.size + 1 := by omega
    have z0_1_3 : w.heap.size + 1 < w3.heap.size := by omega
    have zz0_1_3 : w.heap.size + 1 < w2.heap.size + 1 := by omega
    have z1_0_3 : w1.heap.size < w3.heap.size := by omega
    have zz1_0_3 : w1.heap.size < w2.heap.size + 1 := by omega
    have z2_0_3 : w2.heap.size < w3.heap.size := by omega
    have k3 : Below w.heap.size w w3 := next_below (by go_grown) hb3
    rw [HW.out] at he3
    simp at he3
    subst he3
    go_wp2_with fail
    refine (alive_any _).mono ?_
    rintro e w4 ⟨rfl, hb4⟩
    obtain ⟨c4, f4⟩ := bcell hb4
    have y4 := hb4.size
    try simp at y4
    have z0_0_4 : w.heap.size < w4.heap.size := by omega
    have zz0_0_4 : w.heap.size < w3.heap.size + 2 := by omega
    have z0_1_4 : w.heap.size + 1 < w4.heap.size := by omega
    have zz0_1_4 : w.heap.size + 1 < w3.heap.size + 2 := by omega
    have z1_0_4 : w1.heap.size < w4.heap.size := by omega
    have zz1_0_4 : w1.heap.size < w3.heap.size + 2 := by omega
    have z2_0_4 : w2.heap.size < w4.heap.size := by omega
    have zz2_0_4 : w2.heap.size < w3.heap.size + 2 := by omega
    have z3_0_4 : w3.heap.size < w4.heap.size := by omega
    have z3_1_4 : w3.heap.size + 1 < w4.heap.size := by omega
    have k4 : Below w.heap.size w w4 := next_below (by go_grown) hb4
    go_wp2_with fail
    refine (like_same 0 0 0 [] none none 0 0 0 _ Reads.none_ Reads.none_ (by omega)).mono ?_
    rintro e w5 ⟨rfl, hb5⟩
    obtain ⟨c5, f5⟩ := bcell hb5
    have y5 := hb5.size
    try simp at y5
    have z0_0_5 : w.heap.size < w5.heap.size := by omega
    have z0_1_5 : w.heap.size + 1 < w5.heap.size := by omega
    have z1_0_5 : w1.heap.size < w5.heap.size := by omega
    have z2_0_5 : w2.heap.size < w5.heap.size := by omega
    have z3_0_5 : w3.heap.size < w5.heap.size := by omega
    have z3_1_5 : w3.heap.size + 1 < w5.heap.size := by omega
    have k5 : Below w.heap.size w w5 := next_below (by go_grown) hb5
    go_wp2
    go_ret
    exact ⟨rfl, by go_grown⟩

theorem walkTakes (re rw pe pn ep : Int) (body : ByteArray) (w : World) (hs : body.size ≤ maxLen) (he : -9223372036854775808 ≤ ep ∧ ep ≤ 9223372036854775807) :
    Calls Try.prog 3 #[.agg #[.int .i64 re, .int .i64 rw], .agg #[.int .i64 pe, .int .i64 pn, .string body], .int .i64 ep] w fun e w' => e = .returned (.bool true) ∧ Below w.heap.size w w' := by
  cases hw : withinB ep 0 1073741824
  · exact walkTakes2 re rw pe pn ep body w hs he hw
  · exact walkTakes1 re rw pe pn ep body w hs he hw
end Go.Proofs.Ytplodggiifachaa
