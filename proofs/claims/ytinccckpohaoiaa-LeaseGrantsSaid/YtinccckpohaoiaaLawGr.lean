/- The walk of chapter 16's law LeaseGrants. -/
import Derived.Test.YtinccckpohaoiaaLse8
namespace Go.Proofs.Ytinccckpohaoiaa
open Go.RowKit
set_option linter.unusedVariables false
set_option linter.unusedSimpArgs false

theorem grantZ_len (ls : List Lse) (last g wk now long : Int) : (grantZ ls last g wk now long).1.1.length ≤ ls.length := by
  unfold grantZ
  (repeat' split) <;> simp

set_option maxRecDepth 100000 in
set_option maxHeartbeats 2000000 in
theorem walkGrants (A : Option Addr) (n c : Nat) (last g wk now long : Int) (ls : List Lse) (w : World) (hr : Reads w w.heap.size 3 A n (flat ls)) (hm : n ≤ 9223372036854775807) (hc : n ≤ c) :
    Calls Try.prog 4 #[.agg #[.slice A n c, .int .i64 last], .int .i64 g, .int .i64 wk, .int .i64 now, .int .i64 long] w fun e w' => e = .returned (.bool true) ∧ Below w.heap.size w w' := by
  cases hs : decide ((n : Int) ≤ 100)
  · go_enter Try.func4, Try.ntmps4
    go_wp2_with (go_at_call 9; refine (small_any _ _ _ _ _).mono ?_; rw [hs]; rintro e w1 ⟨rfl, hb1⟩)
    go_ret
    exact ⟨rfl, next_below (by go_grown) hb1⟩
  · have HS := Lib.hid hs
    clear hs
    obtain ⟨⟨⟨rl, rlast⟩, rtok, rerr⟩, hZ⟩ : ∃ Z, grantZ ls last g wk now long = Z := ⟨_, rfl⟩
    have hln := grantZ_len ls last g wk now long
    rw [hZ, lse_len hr] at hln
    simp only at hln
    have HZ := Lib.hid hZ
    clear hZ
    go_enter Try.func4, Try.ntmps4
    go_wp2_with fail
    refine (small_any _ _ _ _ _).mono ?_
    rw [HS.out]
    rintro e w1 ⟨rfl, hb1⟩
    obtain ⟨c1, f1⟩ := bcell hb1
    have y1 := hb1.size
    try simp at y1
    have z0_0_1 : w.heap.size < w1.heap.size := by omega
    have k1 : Below w.heap.size w w1 := next_below (by go_grown) hb1

    go_wp2_with fail
    refine (grant_any A n c last g wk now long ls _ ((hr.below k1).more k1.size) hm hc).mono ?_
    rw [HZ.out]
    rintro e w2 ⟨A2, c2', rfl, hr2, hc2, hf2, hb2⟩
    obtain ⟨c2, f2⟩ := bcell hb2
    have y2 := hb2.size
    try simp at y2
    have z0_0_2 : w.heap.size < w2.heap.size := by omega
    have k2 : Below w.heap.size w w2 := next_below (by go_grown) hb2

    go_wp2_with fail
    refine (refGrant_any A n c last g wk now long ls _ (reads_alloc ((hr.below k2).more k2.size)) hm hc).mono ?_
    rw [HZ.out]
    rintro e w3 ⟨A3, c3', rfl, hr3, hc3, hf3, hb3⟩
    obtain ⟨c3, f3⟩ := bcell hb3
    have y3 := hb3.size
    try simp at y3
    have z0_0_3 : w.heap.size < w3.heap.size := by omega
    have zz0_0_3 : w.heap.size < w2.heap.size + 1 := by omega
    have z2_0_3 : w2.heap.size < w3.heap.size := by omega
    have k3 : Below w.heap.size w w3 := next_below (by go_grown) hb3

    go_wp2_with fail
    refine (alive_any _).mono ?_
    rintro e w4 ⟨rfl, hb4⟩
    obtain ⟨c4, f4⟩ := bcell hb4
    have y4 := hb4.size
    try simp at y4
    have z0_0_4 : w.heap.size < w4.heap.size := by omega
    have zz0_0_4 : w.heap.size < w3.heap.size + 1 := by omega
    have z2_0_4 : w2.heap.size < w4.heap.size := by omega
    have zz2_0_4 : w2.heap.size < w3.heap.size + 1 := by omega
    have z3_0_4 : w3.heap.size < w4.heap.size := by omega
    have k4 : Below w.heap.size w w4 := next_below (by go_grown) hb4

    try simp only at hr2 hr3 hc2 hc3
    have hm2 : rl.length ≤ 9223372036854775807 := by omega
    have hr24 := reads_below (reads_alloc (reads_below (reads_alloc hr2) hb3)) hb4
    have hr34 := reads_below (reads_alloc hr3) hb4
    go_wp2_with fail
    refine (like_same rlast rl A2 A3 rl.length c2' c3' _ hr24 hr34 hm2).mono ?_
    rintro e w5 ⟨rfl, hb5⟩
    obtain ⟨c5, f5⟩ := bcell hb5
    have y5 := hb5.size
    try simp at y5
    have z0_0_5 : w.heap.size < w5.heap.size := by omega
    have z2_0_5 : w2.heap.size < w5.heap.size := by omega
    have z3_0_5 : w3.heap.size < w5.heap.size := by omega
    have k5 : Below w.heap.size w w5 := next_below (by go_grown) hb5

    go_wp2
    go_ret
    exact ⟨by simp, by go_grown⟩
end Go.Proofs.Ytinccckpohaoiaa
