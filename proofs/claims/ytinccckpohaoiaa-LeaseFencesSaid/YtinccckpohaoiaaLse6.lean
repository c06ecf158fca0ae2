/- Walks of Grant, of package lease and of the reference. -/
import Derived.Test.YtinccckpohaoiaaLse6a
namespace Go.Proofs.Ytinccckpohaoiaa
open Go.RowKit
set_option linter.unusedVariables false
set_option linter.unusedSimpArgs false
set_option maxHeartbeats 4000000 in
theorem grant_any (A : Option Addr) (n c : Nat) (last g wk now long : Int) (ls : List Lse) (w : World) (hr : Reads w w.heap.size 3 A n (flat ls)) (hm : n ≤ 9223372036854775807) (hc : n ≤ c) :
    Calls Try.prog 18 #[.agg #[.slice A n c, .int .i64 last], .int .i64 g, .int .i64 wk, .int .i64 now, .int .i64 long] w (GrantPost (grantZ ls last g wk now long) w) := by
  have hlen := lse_len hr
  obtain ⟨r, hR⟩ : ∃ r, hasT ls last g = r := ⟨_, rfl⟩
  have HR := Lib.hid hR
  cases r
  · clear hlen
    rw [show grantZ ls last g wk now long = (([], 0), 0, 1) from by unfold grantZ; rw [if_pos (.inl hR)]]
    clear hR
    go_enter Try.func18, Try.ntmps18
    go_wp2_with (go_at_call 30; refine (leaseAt_any _ _).mono ?_; rintro e w' ⟨rfl, rfl⟩)
    refine (has_any A n c last g ls _ (reads_alloc (reads_alloc hr)) hm hc).mono ?_
    rw [HR.out]
    rintro e w1 ⟨rfl, hb1⟩
    obtain ⟨c1, f1⟩ := bcell hb1
    have y1 := hb1.size
    try simp at y1
    have z0_0_1 : w.heap.size < w1.heap.size := by omega
    have z0_1_1 : w.heap.size + 1 < w1.heap.size := by omega
    have k1 : Below w.heap.size w w1 := next_below (by go_grown) hb1
    go_wp2
    exact bodyPost_ret (v := .tuple #[.agg #[.slice none 0 0, .int .i64 0], .int .i64 0, .int .i64 1]) (by simp [results, Try.results18, go_sem, c1, f1, z0_0_1, z0_1_1, World.cell?_setCell_other]) rfl (grant_none (by go_grown))
  obtain ⟨G, rfl, hG, h32, hright⟩ := hasT_elim hR
  by_cases h1 : wk < 1
  · clear hlen
    rw [show grantZ ls last G wk now long = (([], 0), 0, 1) from by unfold grantZ; rw [if_pos (.inr (.inl h1))]]
    clear hR
    go_enter Try.func18, Try.ntmps18
    go_wp2_with (go_at_call 30; refine (leaseAt_any _ _).mono ?_; rintro e w' ⟨rfl, rfl⟩)
    refine (has_any A n c last G ls _ (reads_alloc (reads_alloc hr)) hm hc).mono ?_
    rw [HR.out]
    rintro e w1 ⟨rfl, hb1⟩
    obtain ⟨c1, f1⟩ := bcell hb1
    have y1 := hb1.size
    try simp at y1
    have z0_0_1 : w.heap.size < w1.heap.size := by omega
    have z0_1_1 : w.heap.size + 1 < w1.heap.size := by omega
    have k1 : Below w.heap.size w w1 := next_below (by go_grown) hb1
    go_wp2
    exact bodyPost_ret (v := .tuple #[.agg #[.slice none 0 0, .int .i64 0], .int .i64 0, .int .i64 1]) (by simp [results, Try.results18, go_sem, c1, f1, z0_0_1, z0_1_1, World.cell?_setCell_other]) rfl (grant_none (by go_grown))
  by_cases h2 : 99 < wk
  · clear hlen
    rw [show grantZ ls last G wk now long = (([], 0), 0, 1) from by unfold grantZ; rw [if_pos (.inr (.inr h2))]]
    clear hR
    go_enter Try.func18, Try.ntmps18
    go_wp2_with (go_at_call 30; refine (leaseAt_any _ _).mono ?_; rintro e w' ⟨rfl, rfl⟩)
    refine (has_any A n c last G ls _ (reads_alloc (reads_alloc hr)) hm hc).mono ?_
    rw [HR.out]
    rintro e w1 ⟨rfl, hb1⟩
    obtain ⟨c1, f1⟩ := bcell hb1
    have y1 := hb1.size
    try simp at y1
    have z0_0_1 : w.heap.size < w1.heap.size := by omega
    have z0_1_1 : w.heap.size + 1 < w1.heap.size := by omega
    have k1 : Below w.heap.size w w1 := next_below (by go_grown) hb1
    go_wp2
    exact bodyPost_ret (v := .tuple #[.agg #[.slice none 0 0, .int .i64 0], .int .i64 0, .int .i64 1]) (by simp [results, Try.results18, go_sem, c1, f1, z0_0_1, z0_1_1, World.cell?_setCell_other]) rfl (grant_none (by go_grown))
  have hif : ¬ (hasT ls last G = false ∨ wk < 1 ∨ 99 < wk) := by rw [hR]; simp; omega
  have hlast := (rightT_iff.1 hright).2.1
  have hZ : grantZ ls last G wk now long = if countsB now ls[G] = true then (([], 0), 0, 160) else if 1073741824 ≤ last then (([], 0), 0, 3) else ((ls.set G ⟨wk, last + 1, addZ now long⟩, last + 1), last + 1, 0) := by
    unfold grantZ
    rw [if_neg hif, lseAt_nat hG, Int.toNat_natCast]
  rw [hlen] at hG h32
  have HL := Lib.hid hlen
  rw [hZ]
  clear hZ hif hlen hR
  generalize hx : ls[G] = x
  obtain ⟨ow, tk, ti⟩ := x
  obtain ⟨q, hq⟩ : ∃ q, countsB now ⟨ow, tk, ti⟩ = q := ⟨_, rfl⟩
  have HC := Lib.hid (show (!(ow == 0) && decide (clampZ now < ti)) = q from hq)
  rw [hq]
  cases q
  rotate_left
  · rw [if_pos rfl]
    clear hq
    go_enter Try.func18, Try.ntmps18
    go_wp2_with (go_at_call 30; refine (leaseAt_any _ _).mono ?_; rintro e w' ⟨rfl, rfl⟩)
    refine (has_any A n c last G ls _ (reads_alloc (reads_alloc hr)) hm hc).mono ?_
    rw [HR.out]
    rintro e w1 ⟨rfl, hb1⟩
    obtain ⟨c1, f1⟩ := bcell hb1
    have y1 := hb1.size
    try simp at y1
    have z0_0_1 : w.heap.size < w1.heap.size := by omega
    have z0_1_1 : w.heap.size + 1 < w1.heap.size := by omega
    have k1 : Below w.heap.size w w1 := next_below (by go_grown) hb1
    obtain ⟨ad, hl, rfl, hbk, d0, d1, d2⟩ := lse_at (reads_below (reads_alloc (reads_alloc hr)) hb1) hG
    rw [hx] at d0 d1 d2
    simp only at d0 d1 d2
    go_wp2_with fail
    refine (counts_any (clampZ now) ow tk ti _).mono ?_
    rw [HC.out]
    rintro e w2 ⟨rfl, hb2⟩
    obtain ⟨c2, f2⟩ := bcell hb2
    have y2 := hb2.size
    try simp at y2
    have z0_0_2 : w.heap.size < w2.heap.size := by omega
    have z0_1_2 : w.heap.size + 1 < w2.heap.size := by omega
    have k2 : Below w.heap.size w w2 := next_below (by go_grown) hb2
    go_wp2
    exact bodyPost_ret (v := .tuple #[.agg #[.slice none 0 0, .int .i64 0], .int .i64 0, .int .i64 160]) (by simp [results, Try.results18, go_sem, c1, f1, c2, f2, z0_0_1, z0_1_1, z0_0_2, z0_1_2, World.cell?_setCell_other]) rfl (grant_none (by go_grown))
  rw [if_neg (by simp)]
  clear hq
  by_cases h3 : 1073741824 ≤ last
  · rw [if_pos h3]
    go_enter Try.func18, Try.ntmps18
    go_wp2_with (go_at_call 30; refine (leaseAt_any _ _).mono ?_; rintro e w' ⟨rfl, rfl⟩)
    refine (has_any A n c last G ls _ (reads_alloc (reads_alloc hr)) hm hc).mono ?_
    rw [HR.out]
    rintro e w1 ⟨rfl, hb1⟩
    obtain ⟨c1, f1⟩ := bcell hb1
    have y1 := hb1.size
    try simp at y1
    have z0_0_1 : w.heap.size < w1.heap.size := by omega
    have z0_1_1 : w.heap.size + 1 < w1.heap.size := by omega
    have k1 : Below w.heap.size w w1 := next_below (by go_grown) hb1
    obtain ⟨ad, hl, rfl, hbk, d0, d1, d2⟩ := lse_at (reads_below (reads_alloc (reads_alloc hr)) hb1) hG
    rw [hx] at d0 d1 d2
    simp only at d0 d1 d2
    go_wp2_with fail
    refine (counts_any (clampZ now) ow tk ti _).mono ?_
    rw [HC.out]
    rintro e w2 ⟨rfl, hb2⟩
    obtain ⟨c2, f2⟩ := bcell hb2
    have y2 := hb2.size
    try simp at y2
    have z0_0_2 : w.heap.size < w2.heap.size := by omega
    have z0_1_2 : w.heap.size + 1 < w2.heap.size := by omega
    have k2 : Below w.heap.size w w2 := next_below (by go_grown) hb2
    go_wp2
    exact bodyPost_ret (v := .tuple #[.agg #[.slice none 0 0, .int .i64 0], .int .i64 0, .int .i64 3]) (by simp [results, Try.results18, go_sem, c1, f1, c2, f2, z0_0_1, z0_1_1, z0_0_2, z0_1_2, World.cell?_setCell_other]) rfl (grant_none (by go_grown))
  · rw [if_neg h3]
    exact grant_ok A n c G last wk now long ow tk ti ls w hr hm hc HR (by omega) (by omega) HL hG h32 hlast (by omega) hx HC

end Go.Proofs.Ytinccckpohaoiaa
