/- The walk of the reference's Grant. -/
import Derived.Test.YtinccckpohaoiaaLse6
namespace Go.Proofs.Ytinccckpohaoiaa
open Go.RowKit
set_option linter.unusedVariables false
set_option linter.unusedSimpArgs false

theorem counts_ref {ls : List Lse} {last now : Int} {G : Nat} {ow tk ti : Int} (h : rightT ls last = true) {hG : G < ls.length} (hx : ls[G] = ⟨ow, tk, ti⟩) : (decide (0 < ow) && decide (clampZ now < ti)) = (!(ow == 0) && decide (clampZ now < ti)) := by
  have hb := ((rightT_iff.1 h).2.2 G hG).1
  rw [hx] at hb
  have := (badB_false.1 hb).1
  simp only at this
  congr 1
  rw [Bool.eq_iff_iff]
  simp
  omega

set_option maxHeartbeats 4000000 in
theorem refGrant_ok (A : Option Addr) (n c G : Nat) (last wk now long ow tk ti : Int) (ls : List Lse) (w : World) (hr : Reads w w.heap.size 3 A n (flat ls)) (hm : n ≤ 9223372036854775807) (hc : n ≤ c)
    (HR : Hid (hasT ls last G = true)) (HI : Hid (withinB wk 1 99 = true)) (HL : Hid (ls.length = n)) (hG : G < n) (h32 : n ≤ 32) (hlast : 0 ≤ last ∧ last ≤ 1073741824) (h3 : (last == 1073741824) = false) {hG' : G < ls.length} (hx : ls[G] = ⟨ow, tk, ti⟩) (HC : Hid ((decide (0 < ow) && decide (clampZ now < ti)) = false)) :
    Calls Try.prog 19 #[.agg #[.slice A n c, .int .i64 last], .int .i64 G, .int .i64 wk, .int .i64 now, .int .i64 long] w (GrantPost ((ls.set G ⟨wk, last + 1, addZ now long⟩, last + 1), last + 1, 0) w) := by
  go_enter Try.func19, Try.ntmps19
  go_wp2_with fail
  refine (refHas_any A n c last G ls _ (reads_alloc (reads_alloc hr)) hm hc).mono ?_
  rw [HR.out]
  rintro e w1 ⟨rfl, hb1⟩
  obtain ⟨c1, f1⟩ := bcell hb1
  have y1 := hb1.size
  try simp at y1
  have z0_0_1 : w.heap.size < w1.heap.size := by omega
  have z0_1_1 : w.heap.size + 1 < w1.heap.size := by omega
  have k1 : Below w.heap.size w w1 := next_below (by go_grown) hb1
  obtain ⟨ad, hl, rfl, hbk, d0, d1, d2⟩ := lse_at (reads_below (reads_alloc (reads_alloc hr)) hb1) hG
  rw [hx] at d0 d1 d2
  simp only at d0 d1 d2
  go_wp2_with (go_at_call 29; refine (in_any _ _ _ _).mono ?_; rw [HI.out]; rintro e w' ⟨rfl, rfl⟩)
  refine (refCounts_any now ow tk ti _).mono ?_
  rw [HC.out]
  rintro e w2 ⟨rfl, hb2⟩
  obtain ⟨c2, f2⟩ := bcell hb2
  have y2 := hb2.size
  try simp at y2
  have z0_0_2 : w.heap.size < w2.heap.size := by omega
  have z0_1_2 : w.heap.size + 1 < w2.heap.size := by omega
  have k2 : Below w.heap.size w w2 := next_below (by go_grown) hb2
  have wl : IntKind.i64.wrap (last + 1) = last + 1 := IntWalk.i64_in _ (by omega)
  obtain ⟨M, hM⟩ : ∃ M, ls.set G ⟨wk, last + 1, addZ now long⟩ = M := ⟨_, rfl⟩
  have HML := Lib.hid (show M.length = n from by rw [← hM, List.length_set]; exact HL.out)
  have bT : Blk w2 w.heap.size 24 #[.slice (some ad) n c, .int .i64 last] := (((Blk.new w _ _).alloc _).below hb1 (by simp; omega)).below hb2 z0_0_1
  have bO : Blk w2 (w.heap.size + 1) 24 #[.slice none 0 0, .int .i64 0] := ((by simpa using Blk.new (w.alloc (.cells #[.slice (some ad) n c, .int .i64 last] 24)) 24 #[.slice none 0 0, .int .i64 0] : Blk _ (w.heap.size + 1) _ _).below hb1 (by simp)).below hb2 z0_1_1
  have rdW := (hr.below k2).more k2.size
  clear c1 f1 c2 f2 d0 d1 d2
  have t0 : w2.cell? ⟨w.heap.size, 0, none⟩ = some (.slice (some ad) n c) := bT.cell 0
  have t1 : w2.cell? ⟨w.heap.size, 1, none⟩ = some (.int .i64 last) := bT.cell 1
  have lT := bT.lt
  have lO := bO.lt
  go_wp2_with fail
  go_region_held3 (fun w' => w'.cell? ⟨w.heap.size, 0, none⟩ = some (.slice (some ad) n c) ∧ w'.cell? ⟨w.heap.size, 1, none⟩ = some (.int .i64 last))
    (first | exact keepN _ _ | exact ⟨tt0, tt1⟩ | exact ⟨t0, t1⟩ | go_keep)
    (first
      | (go_at_call 37; refine (refAdd_any _ _ _).mono ?_; rintro e w' ⟨rfl, rfl⟩)
      | (go_at_call 36; refine (refWith_any (some ad) n c G last wk (last + 1) (addZ now long) ls _ ?_ (by omega) hG).mono ?_; (first | exact rdW | exact reads_alloc rdW); rw [hM]; rintro e w4 ⟨A4, c4, rfl, rd4, hc4, hf4, hb4⟩; (first | (have ordA := True.intro; have bT4 := bT.drew.below hb4 lT; have bO4 := bO.drew.below hb4 lO; have k4 := (below_drew k2).trans (hb4.mono k2.size)) | (have ordB := True.intro; have bT4 := (bT.alloc (.cells #[.slice none 0 0, .int .i64 0] 24)).drew.below hb4 (show w.heap.size < (w2.alloc (.cells #[.slice none 0 0, .int .i64 0] 24)).heap.size from by rw [World.size_alloc]; omega); have bO4 := (bO.alloc (.cells #[.slice none 0 0, .int .i64 0] 24)).drew.below hb4 (show w.heap.size + 1 < (w2.alloc (.cells #[.slice none 0 0, .int .i64 0] 24)).heap.size from by rw [World.size_alloc]; omega); have bN4 := (Blk.new w2 24 #[.slice none 0 0, .int .i64 0]).drew.below hb4 (show w2.heap.size < (w2.alloc (.cells #[.slice none 0 0, .int .i64 0] 24)).heap.size from by rw [World.size_alloc]; omega); have nn0 : w4.cell? ⟨w2.heap.size, 0, none⟩ = some (.slice none 0 0) := bN4.cell 0; have nn1 : w4.cell? ⟨w2.heap.size, 1, none⟩ = some (.int .i64 0) := bN4.cell 1; have fN4 := bN4.frozen; have lN4 := bN4.lt; have keepN : ∀ u v, ((w4.setCell ⟨w2.heap.size, 0, none⟩ u).setCell ⟨w2.heap.size, 1, none⟩ v).cell? ⟨w.heap.size, 0, none⟩ = some (.slice (some ad) n c) ∧ ((w4.setCell ⟨w2.heap.size, 0, none⟩ u).setCell ⟨w2.heap.size, 1, none⟩ v).cell? ⟨w.heap.size, 1, none⟩ = some (.int .i64 last) := (fun u v => ⟨((bT4.far (show w.heap.size ≠ w2.heap.size from Nat.ne_of_lt lT) u).far (show w.heap.size ≠ w2.heap.size from Nat.ne_of_lt lT) v).cell 0, ((bT4.far (show w.heap.size ≠ w2.heap.size from Nat.ne_of_lt lT) u).far (show w.heap.size ≠ w2.heap.size from Nat.ne_of_lt lT) v).cell 1⟩); have k4 := (below_drew (k2.alloc k2.size (.cells #[.slice none 0 0, .int .i64 0] 24))).trans (hb4.mono (show w.heap.size ≤ (w2.alloc (.cells #[.slice none 0 0, .int .i64 0] 24)).heap.size from by rw [World.size_alloc]; omega)))); have tt0 : w4.cell? ⟨w.heap.size, 0, none⟩ = some (.slice (some ad) n c) := bT4.cell 0; have tt1 : w4.cell? ⟨w.heap.size, 1, none⟩ = some (.int .i64 last) := bT4.cell 1; have l4 := bO4.lt; have l4' := bT4.lt))
  all_goals
    have hmv := True.intro
    first
      | (have := ordB; have bTV := (bT4.far (p := ⟨w2.heap.size, 0, none⟩) (show w.heap.size ≠ w2.heap.size from Nat.ne_of_lt lT) (.slice A4 n c4)).far (p := ⟨w2.heap.size, 1, none⟩) (show w.heap.size ≠ w2.heap.size from Nat.ne_of_lt lT) (.int .i64 last); have bOV := (bO4.far (p := ⟨w2.heap.size, 0, none⟩) (show w.heap.size + 1 ≠ w2.heap.size from Nat.ne_of_lt lO) (.slice A4 n c4)).far (p := ⟨w2.heap.size, 1, none⟩) (show w.heap.size + 1 ≠ w2.heap.size from Nat.ne_of_lt lO) (.int .i64 last); have bNV := (bN4.set_ 0 (.slice A4 n c4)).set_ 1 (.int .i64 last); have hneN := fresh_of (w := w) (W := w2.alloc (.cells #[.slice none 0 0, .int .i64 0] 24)) (b := w2.heap.size) hf4 (by rw [World.size_alloc]; omega); have rdV := (reads_far' (q := ⟨w2.heap.size, 1, none⟩) (reads_far' (q := ⟨w2.heap.size, 0, none⟩) rd4 hneN (.slice A4 n c4)) hneN (.int .i64 last)).more (B' := ((w4.setCell ⟨w2.heap.size, 0, none⟩ (.slice A4 n c4)).setCell ⟨w2.heap.size, 1, none⟩ (.int .i64 last)).heap.size) (by simp); have kV : Below w.heap.size w ((w4.setCell ⟨w2.heap.size, 0, none⟩ (.slice A4 n c4)).setCell ⟨w2.heap.size, 1, none⟩ (.int .i64 last)) := (k4.setCell (p := ⟨w2.heap.size, 0, none⟩) (Nat.le_of_lt lT) _).setCell (p := ⟨w2.heap.size, 1, none⟩) (Nat.le_of_lt lT) _; have hfr := fresh_le (w := w) (W := w2.alloc (.cells #[.slice none 0 0, .int .i64 0] 24)) hf4 (by rw [World.size_alloc]; omega); have hneO := fresh_of (w := w) (W := w2.alloc (.cells #[.slice none 0 0, .int .i64 0] 24)) (b := w.heap.size + 1) hf4 (by rw [World.size_alloc]; omega); generalize ((w4.setCell ⟨w2.heap.size, 0, none⟩ (.slice A4 n c4)).setCell ⟨w2.heap.size, 1, none⟩ (.int .i64 last)) = V at *; clear ordB bN4 nn0 nn1 fN4 keepN hb4 rd4 bT4 bO4 tt0 tt1; generalize w2.heap.size = o at *)
      | (have := ordA; have bTV := bT4.alloc (.cells #[.slice A4 n c4, .int .i64 last] 24); have bOV := bO4.alloc (.cells #[.slice A4 n c4, .int .i64 last] 24); have bNV := Blk.new w4 24 #[.slice A4 n c4, .int .i64 last]; have hneN : ∀ a, A4 = some a → w4.heap.size ≠ a.block := (fun a ea => by obtain ⟨ad', e', hb', _⟩ := rd4.2 (by omega); rw [ea] at e'; injection e' with e'; subst e'; omega); have rdV := reads_alloc (o := .cells #[.slice A4 n c4, .int .i64 last] 24) rd4; have kV := k4.alloc k4.size (.cells #[.slice A4 n c4, .int .i64 last] 24); have hfr := fresh_le (w := w) (W := w2) hf4 k2.size; have hneO := fresh_of (w := w) (W := w2) (b := w.heap.size + 1) hf4 lO; generalize (w4.alloc (.cells #[.slice A4 n c4, .int .i64 last] 24)) = V at *; clear ordA rd4 bT4 bO4 tt0 tt1 hb4 lO; have lO := l4; clear l4 l4' k4; generalize w4.heap.size = o at *)
    have x0 : V.cell? ⟨w.heap.size, 1, none⟩ = some (.int .i64 last) := bTV.cell 1
    have n0 : V.cell? ⟨o, 0, none⟩ = some (.slice A4 n c4) := by simpa using bNV.cell 0
    have n1 : V.cell? ⟨o, 1, none⟩ = some (.int .i64 last) := by simpa using bNV.cell 1
    have fN := bNV.frozen
    have lN := bNV.lt
    have oo0 : V.cell? ⟨w.heap.size + 1, 0, none⟩ = some (.slice none 0 0) := bOV.cell 0
    have oo1 : V.cell? ⟨w.heap.size + 1, 1, none⟩ = some (.int .i64 0) := bOV.cell 1
    have fO := bOV.frozen
    have lOV := bOV.lt
    have hno : o ≠ w.heap.size + 1 := by omega
    go_wp2_with fail
    go_region
    go_wp2
    refine bodyPost_ret (v := .tuple #[.agg #[.slice A4 n c4, .int .i64 (last + 1)], .int .i64 (last + 1), .int .i64 0]) (by simp [results, Try.results19, go_sem, oo0, oo1, hno, hno.symm, World.cell?_setCell_other]) rfl ?_
    rw [hM]
    exact grant_new HML.out (Reads.drew ((reads_far' (q := ⟨w.heap.size + 1, 1, none⟩) (reads_far' (q := ⟨w.heap.size + 1, 0, none⟩) (reads_far' (q := ⟨o, 1, none⟩) rdV hneN _) hneO _) hneO _).more (by simp))) hc4 hfr
      (below_drew (((kV.setCell (p := ⟨o, 1, none⟩) (show w.heap.size ≤ o by omega) _).setCell (p := ⟨w.heap.size + 1, 0, none⟩) (Nat.le_succ _) _).setCell (p := ⟨w.heap.size + 1, 1, none⟩) (Nat.le_succ _) _))

set_option maxHeartbeats 4000000 in
theorem refGrant_any (A : Option Addr) (n c : Nat) (last g wk now long : Int) (ls : List Lse) (w : World) (hr : Reads w w.heap.size 3 A n (flat ls)) (hm : n ≤ 9223372036854775807) (hc : n ≤ c) :
    Calls Try.prog 19 #[.agg #[.slice A n c, .int .i64 last], .int .i64 g, .int .i64 wk, .int .i64 now, .int .i64 long] w (GrantPost (grantZ ls last g wk now long) w) := by
  have hlen := lse_len hr
  obtain ⟨r, hR⟩ : ∃ r, hasT ls last g = r := ⟨_, rfl⟩
  have HR := Lib.hid hR
  cases r
  · clear hlen
    have HI : Hid (withinB 5 1 99 = true) := Lib.hid (by decide)
    rw [show grantZ ls last g wk now long = (([], 0), 0, 1) from by unfold grantZ; rw [if_pos (.inl hR)]]
    clear hR
    go_enter Try.func19, Try.ntmps19
    go_wp2_with fail
    refine (refHas_any A n c last g ls _ (reads_alloc (reads_alloc hr)) hm hc).mono ?_
    rw [HR.out]
    rintro e w1 ⟨rfl, hb1⟩
    obtain ⟨c1, f1⟩ := bcell hb1
    have y1 := hb1.size
    try simp at y1
    have z0_0_1 : w.heap.size < w1.heap.size := by omega
    have z0_1_1 : w.heap.size + 1 < w1.heap.size := by omega
    have k1 : Below w.heap.size w w1 := next_below (by go_grown) hb1
    go_wp2_with (go_at_call 29; refine (in_any _ _ _ _).mono ?_; rw [HI.out]; rintro e w' ⟨rfl, rfl⟩)
    exact bodyPost_ret (v := .tuple #[.agg #[.slice none 0 0, .int .i64 0], .int .i64 0, .int .i64 1]) (by simp [results, Try.results19, go_sem, c1, f1, z0_0_1, z0_1_1, World.cell?_setCell_other]) rfl (grant_none (by go_grown))
  obtain ⟨G, rfl, hG, h32, hright⟩ := hasT_elim hR
  cases h1 : withinB wk 1 99
  · clear hlen
    have HI := Lib.hid h1
    have h1' := withinB_false.1 h1
    rw [show grantZ ls last G wk now long = (([], 0), 0, 1) from by unfold grantZ; rw [if_pos (.inr h1')]]
    clear hR h1 h1'
    go_enter Try.func19, Try.ntmps19
    go_wp2_with fail
    refine (refHas_any A n c last G ls _ (reads_alloc (reads_alloc hr)) hm hc).mono ?_
    rw [HR.out]
    rintro e w1 ⟨rfl, hb1⟩
    obtain ⟨c1, f1⟩ := bcell hb1
    have y1 := hb1.size
    try simp at y1
    have z0_0_1 : w.heap.size < w1.heap.size := by omega
    have z0_1_1 : w.heap.size + 1 < w1.heap.size := by omega
    have k1 : Below w.heap.size w w1 := next_below (by go_grown) hb1
    go_wp2_with (go_at_call 29; refine (in_any _ _ _ _).mono ?_; rw [HI.out]; rintro e w' ⟨rfl, rfl⟩)
    exact bodyPost_ret (v := .tuple #[.agg #[.slice none 0 0, .int .i64 0], .int .i64 0, .int .i64 1]) (by simp [results, Try.results19, go_sem, c1, f1, z0_0_1, z0_1_1, World.cell?_setCell_other]) rfl (grant_none (by go_grown))
  have HI := Lib.hid h1
  have h1' := withinB_true.1 h1
  have hif : ¬ (hasT ls last G = false ∨ wk < 1 ∨ 99 < wk) := by rw [hR]; simp; omega
  have hlast := (rightT_iff.1 hright).2.1
  have hZ : grantZ ls last G wk now long = if countsB now ls[G] = true then (([], 0), 0, 160) else if 1073741824 ≤ last then (([], 0), 0, 3) else ((ls.set G ⟨wk, last + 1, addZ now long⟩, last + 1), last + 1, 0) := by
    unfold grantZ
    rw [if_neg hif, lseAt_nat hG, Int.toNat_natCast]
  have hG' := hG
  rw [hlen] at hG h32
  have HL := Lib.hid hlen
  rw [hZ]
  clear hZ hif hlen hR h1
  obtain ⟨⟨ow, tk, ti⟩, hx⟩ : ∃ x, ls[G] = x := ⟨_, rfl⟩
  rw [hx]
  obtain ⟨q, hq⟩ : ∃ q, countsB now ⟨ow, tk, ti⟩ = q := ⟨_, rfl⟩
  have HC := Lib.hid ((counts_ref hright hx).trans (show (!(ow == 0) && decide (clampZ now < ti)) = q from hq))
  rw [hq]
  cases q
  rotate_left
  · rw [if_pos rfl]
    clear hq
    go_enter Try.func19, Try.ntmps19
    go_wp2_with fail
    refine (refHas_any A n c last G ls _ (reads_alloc (reads_alloc hr)) hm hc).mono ?_
    rw [HR.out]
    rintro e w1 ⟨rfl, hb1⟩
    obtain ⟨c1, f1⟩ := bcell hb1
    have y1 := hb1.size
    try simp at y1
    have z0_0_1 : w.heap.size < w1.heap.size := by omega
    have z0_1_1 : w.heap.size + 1 < w1.heap.size := by omega
    have k1 : Below w.heap.size w w1 := next_below (by go_grown) hb1
    obtain ⟨ad, hl, rfl, hbk, d0, d1, d2⟩ := lse_at (reads_below (reads_alloc (reads_alloc hr)) hb1) hG
    rw [hx] at d0 d1 d2
    simp only at d0 d1 d2
    go_wp2_with (go_at_call 29; refine (in_any _ _ _ _).mono ?_; rw [HI.out]; rintro e w' ⟨rfl, rfl⟩)
    refine (refCounts_any now ow tk ti _).mono ?_
    rw [HC.out]
    rintro e w2 ⟨rfl, hb2⟩
    obtain ⟨c2, f2⟩ := bcell hb2
    have y2 := hb2.size
    try simp at y2
    have z0_0_2 : w.heap.size < w2.heap.size := by omega
    have z0_1_2 : w.heap.size + 1 < w2.heap.size := by omega
    have k2 : Below w.heap.size w w2 := next_below (by go_grown) hb2
    go_wp2_with (go_at_call 29; refine (in_any _ _ _ _).mono ?_; rw [HI.out]; rintro e w' ⟨rfl, rfl⟩)
    exact bodyPost_ret (v := .tuple #[.agg #[.slice none 0 0, .int .i64 0], .int .i64 0, .int .i64 160]) (by simp [results, Try.results19, go_sem, c1, f1, c2, f2, z0_0_1, z0_1_1, z0_0_2, z0_1_2, World.cell?_setCell_other]) rfl (grant_none (by go_grown))
  rw [if_neg (by simp)]
  clear hq
  by_cases h3 : last = 1073741824
  · rw [if_pos (by omega)]
    have h3' : (last == 1073741824) = true := by simpa using h3
    clear h3
    go_enter Try.func19, Try.ntmps19
    go_wp2_with fail
    refine (refHas_any A n c last G ls _ (reads_alloc (reads_alloc hr)) hm hc).mono ?_
    rw [HR.out]
    rintro e w1 ⟨rfl, hb1⟩
    obtain ⟨c1, f1⟩ := bcell hb1
    have y1 := hb1.size
    try simp at y1
    have z0_0_1 : w.heap.size < w1.heap.size := by omega
    have z0_1_1 : w.heap.size + 1 < w1.heap.size := by omega
    have k1 : Below w.heap.size w w1 := next_below (by go_grown) hb1
    obtain ⟨ad, hl, rfl, hbk, d0, d1, d2⟩ := lse_at (reads_below (reads_alloc (reads_alloc hr)) hb1) hG
    rw [hx] at d0 d1 d2
    simp only at d0 d1 d2
    go_wp2_with (go_at_call 29; refine (in_any _ _ _ _).mono ?_; rw [HI.out]; rintro e w' ⟨rfl, rfl⟩)
    refine (refCounts_any now ow tk ti _).mono ?_
    rw [HC.out]
    rintro e w2 ⟨rfl, hb2⟩
    obtain ⟨c2, f2⟩ := bcell hb2
    have y2 := hb2.size
    try simp at y2
    have z0_0_2 : w.heap.size < w2.heap.size := by omega
    have z0_1_2 : w.heap.size + 1 < w2.heap.size := by omega
    have k2 : Below w.heap.size w w2 := next_below (by go_grown) hb2
    go_wp2_with (go_at_call 29; refine (in_any _ _ _ _).mono ?_; rw [HI.out]; rintro e w' ⟨rfl, rfl⟩)
    exact bodyPost_ret (v := .tuple #[.agg #[.slice none 0 0, .int .i64 0], .int .i64 0, .int .i64 3]) (by simp [results, Try.results19, go_sem, c1, f1, c2, f2, z0_0_1, z0_1_1, z0_0_2, z0_1_2, World.cell?_setCell_other]) rfl (grant_none (by go_grown))
  · rw [if_neg (by omega)]
    exact refGrant_ok A n c G last wk now long ow tk ti ls w hr hm hc HR HI HL hG h32 hlast (by simpa using h3) hx HC

end Go.Proofs.Ytinccckpohaoiaa
