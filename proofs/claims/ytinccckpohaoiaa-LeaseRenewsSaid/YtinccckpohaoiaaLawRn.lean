/- The walk of chapter 16's law LeaseRenews. -/
import Derived.Test.YtinccckpohaoiaaLseP
namespace Go.Proofs.Ytinccckpohaoiaa
open Go.RowKit
set_option linter.unusedVariables false
set_option linter.unusedSimpArgs false

theorem clampZ_at {t : Int} : (t < 0 → clampZ t = 0) ∧ (0 ≤ t → t ≤ 1099511627776 → clampZ t = t) ∧ (1099511627776 < t → clampZ t = 1099511627776) := by
  unfold clampZ
  refine ⟨fun h => ?_, fun h h' => ?_, fun h => ?_⟩ <;> (repeat' split) <;> omega

theorem alloc_cell {w : World} {a : Addr} {v : Value} (ha : a.block < w.heap.size) (h : w.cell? a = some v) : ∀ o : Obj, (w.alloc o).cell? a = some v := fun o => (World.cell?_alloc_lt w o a ha).trans h

set_option maxRecDepth 100000 in
set_option maxHeartbeats 4000000 in
theorem walkRenews (A : Option Addr) (n c : Nat) (last g tok now long : Int) (ls : List Lse) (w : World) (hr : Reads w w.heap.size 3 A n (flat ls)) (hm : n ≤ 9223372036854775807) (hc : n ≤ c) :
    Calls Try.prog 5 #[.agg #[.slice A n c, .int .i64 last], .int .i64 g, .int .i64 tok, .int .i64 now, .int .i64 long] w fun e w' => e = .returned (.bool true) ∧ Below w.heap.size w w' := by
  cases hs : decide ((n : Int) ≤ 100)
  · go_enter Try.func5, Try.ntmps5
    go_wp2_with (go_at_call 9; refine (small_any _ _ _ _ _).mono ?_; rw [hs]; rintro e w1 ⟨rfl, hb1⟩)
    go_ret
    exact ⟨rfl, next_below (by go_grown) hb1⟩
  have HS := Lib.hid hs
  clear hs
  obtain ⟨⟨⟨rl, rlast⟩, rerr⟩, hZ⟩ : ∃ Z, renewZ ls last g tok now long = Z := ⟨_, rfl⟩
  have HZ := Lib.hid hZ
  by_cases h0 : rerr = 0
  rotate_left
  · obtain rfl := renewZ_bad hZ h0
    have h1 : (rerr != 0) = true := by simpa using h0
    clear hZ h0
    go_enter Try.func5, Try.ntmps5
    go_wp2_with fail
    refine (small_any _ _ _ _ _).mono ?_
    rw [HS.out]
    rintro e w1 ⟨rfl, hb1⟩
    obtain ⟨c1, f1⟩ := bcell hb1
    have y1 := hb1.size
    try simp at y1
    have z0_0_1 : w.heap.size < w1.heap.size := by omega
    have k1 : Below w.heap.size w w1 := next_below (by go_grown) hb1
    go_wp2_with fail
    refine (renew_any A n c last g tok now long ls _ ((hr.below k1).more k1.size) hm hc).mono ?_
    rw [HZ.out]
    rintro e w2 ⟨A2, c2', rfl, hr2, hc2, hf2, hb2⟩
    obtain ⟨c2, f2⟩ := bcell hb2
    have y2 := hb2.size
    try simp at y2
    have z0_0_2 : w.heap.size < w2.heap.size := by omega
    have k2 : Below w.heap.size w w2 := next_below (by go_grown) hb2
    try simp only [List.length_nil] at hr2 hc2 ⊢
    go_wp2_with fail
    refine (alive_any _).mono ?_
    rintro e w3 ⟨rfl, hb3⟩
    obtain ⟨c3, f3⟩ := bcell hb3
    have y3 := hb3.size
    try simp at y3
    have z0_0_3 : w.heap.size < w3.heap.size := by omega
    have zz0_0_3 : w.heap.size < w2.heap.size + 1 := by omega
    have z2_0_3 : w2.heap.size < w3.heap.size := by omega
    have k3 : Below w.heap.size w w3 := next_below (by go_grown) hb3
    go_wp2
    go_ret
    exact ⟨by simp, by go_grown⟩
  subst h0
  obtain ⟨G, hG, ow, tk, ti, rfl, hx, hrl, rfl, hright, ho, rfl, hti, hti', h32⟩ := renewZ_ok hZ
  clear hZ
  obtain ⟨U, hU⟩ : ∃ U, max ti (addZ now long) = U := ⟨_, rfl⟩
  rw [hU] at hrl
  have hbd := clampZ_bd (clampZ now + clampZ long)
  have hUU : addZ now long ≤ U ∧ ti ≤ U ∧ 0 ≤ U ∧ U ≤ 1099511627776 := by unfold addZ at hU ⊢; omega
  obtain ⟨hRM, hFM⟩ := renew_right hright hx (by omega) ⟨hUU.2.2.1, hUU.2.2.2⟩
  rw [← hrl] at hRM hFM
  have hln := lse_len hr
  have hrn : rl.length = n := by rw [hrl, List.length_set, hln]
  have HFM := Lib.hid hFM
  have HRL := Lib.hid hrl
  have HRN := Lib.hid hrn
  have HX := Lib.hid hx
  have hGn : G < n := by omega
  clear hRM hFM hrl hU hright
  go_enter Try.func5, Try.ntmps5
  go_wp2_with fail
  refine (small_any _ _ _ _ _).mono ?_
  rw [HS.out]
  rintro e w1 ⟨rfl, hb1⟩
  obtain ⟨c1, f1⟩ := bcell hb1
  have y1 := hb1.size
  try simp at y1
  have z0_0_1 : w.heap.size < w1.heap.size := by omega
  have k1 : Below w.heap.size w w1 := next_below (by go_grown) hb1
  go_wp2_with fail
  refine (renew_any A n c rlast G tk now long ls _ ((hr.below k1).more k1.size) hm hc).mono ?_
  rw [HZ.out]
  rintro e w2 ⟨A2, c2', rfl, hr2, hc2, hf2, hb2⟩
  obtain ⟨c2, f2⟩ := bcell hb2
  have y2 := hb2.size
  try simp at y2
  have z0_0_2 : w.heap.size < w2.heap.size := by omega
  have k2 : Below w.heap.size w w2 := next_below (by go_grown) hb2
  try simp only at hr2 hc2
  rw [HRN.out] at hr2 hc2 ⊢
  go_wp2_with fail
  have oT : Blk (w2.alloc (.cells #[.slice A2 n c2', .int .i64 rlast] 24)) w.heap.size 24 #[.slice A n c, .int .i64 rlast] := (((Blk.new w _ _).below hb1 (by simp)).below hb2 z0_0_1).alloc _
  have oX : Blk (w2.alloc (.cells #[.slice A2 n c2', .int .i64 rlast] 24)) w2.heap.size 24 #[.slice A2 n c2', .int .i64 rlast] := Blk.new _ _ _
  have kk2 : Below w2.heap.size w2 (w2.alloc (.cells #[.slice A2 n c2', .int .i64 rlast] 24)) := (Below.refl _ _).alloc (Nat.le_refl _) _
  have k2' := k2.alloc k2.size (.cells #[.slice A2 n c2', .int .i64 rlast] 24)
  clear c1 f1 c2 f2 hb1 hb2
  go_loopw [54] (fun i wr => ∃ k : Nat, k ≤ n ∧ i = .int .i64 k ∧ Below w.heap.size w wr ∧ Below w2.heap.size w2 wr ∧ Blk wr w.heap.size 24 #[.slice A n c, .int .i64 rlast] ∧ Blk wr w2.heap.size 24 #[.slice A2 n c2', .int .i64 rlast]) (fun i _ => n - (intOf i).toNat)
  case atStart => exact ⟨0, Nat.zero_le _, rfl, k2', kk2, oT, oX⟩
  case round =>
    clear oT oX kk2 k2'
    obtain ⟨k, hk, rfl, hB, hB2, bT, bX⟩ := hrel
    have t0 := bT.cell 0
    have t1 := bT.cell 1
    have x0 := bX.cell 0
    have x1 := bX.cell 1
    simp at t0 t1 x0 x1
    have lT := bT.lt
    have lX := bX.lt
    by_cases hlt : k < n
    · obtain ⟨ad, hl, rfl, hbk, d0, d1, d2⟩ := lse_at (hr.below hB) hlt
      obtain ⟨xd, hl', rfl, hbk', e0, e1, e2⟩ := lse_at (hr2.below hB2) hlt
      have hel : rl[k] = if k = G then ⟨ow, tk, U⟩ else ls[k] := by
        have := HRL.out
        subst this
        rw [List.getElem_set]
        by_cases e : k = G
        · subst e; simp
        · rw [if_neg (by omega), if_neg e]
      rw [hel] at e0 e1 e2
      clear hel
      have hlb : (ad.add (k * 3)).block < wr.heap.size := by rw [block_of_add]; have := hB.size; omega
      by_cases hkG : k = G
      · subst hkG
        rw [if_pos rfl] at e0 e1 e2
        rw [hx] at d0 d1 d2
        simp only at d0 d1 d2 e0 e1 e2
        have d0 := alloc_cell hlb d0
        have d1 := alloc_cell (a := ⟨(ad.add (k * 3)).block, (ad.add (k * 3)).off + 1, none⟩) hlb d1
        have d2 := alloc_cell (a := ⟨(ad.add (k * 3)).block, (ad.add (k * 3)).off + 2, none⟩) hlb d2
        have hUt := hUU.2.1
        clear hx
        go_wp2
        go_roundw
        case rel => exact ⟨k + 1, by omega, by go_num, (hB.alloc hB.size _).alloc (by simp; have := hB.size; omega) _, (hB2.alloc hB2.size _).alloc (by simp; have := hB2.size; omega) _, (bT.alloc _).alloc _, (bX.alloc _).alloc _⟩
        case measure => simp [intOf]; omega
      · rw [if_neg hkG] at e0 e1 e2
        generalize ls[k] = y at *
        obtain ⟨yo, yt, yi⟩ := y
        simp only at d0 d1 d2 e0 e1 e2
        have d0 := alloc_cell hlb d0
        have d1 := alloc_cell (a := ⟨(ad.add (k * 3)).block, (ad.add (k * 3)).off + 1, none⟩) hlb d1
        have d2 := alloc_cell (a := ⟨(ad.add (k * 3)).block, (ad.add (k * 3)).off + 2, none⟩) hlb d2
        have hkb : ((k : Int) != (G : Int)) = true := by simp; omega
        clear hx
        go_wp2
        go_roundw
        case rel => exact ⟨k + 1, by omega, by go_num, (hB.alloc hB.size _).alloc (by simp; have := hB.size; omega) _, (hB2.alloc hB2.size _).alloc (by simp; have := hB2.size; omega) _, (bT.alloc _).alloc _, (bX.alloc _).alloc _⟩
        case measure => simp [intOf]; omega
    · have hrM := (hr2.below hB2).more hB2.size
      obtain ⟨c1, c2, c3⟩ := clampZ_at (t := now)
      obtain ⟨d1, d2, d3⟩ := clampZ_at (t := long)

      have HU := Lib.hid hUU
      clear hUU
      rcases (show now < 0 ∨ (0 ≤ now ∧ now ≤ 1099511627776) ∨ 1099511627776 < now by omega) with hn | hn | hn
      · have hn' := hn
        have hn := c1 hn
        clear c1 c2 c3
        have HN := Lib.hid hn
        clear hn
        obtain ⟨hNa, hNb⟩ : True ∧ True := ⟨trivial, trivial⟩
        rcases (show long < 0 ∨ long = 0 ∨ (0 < long ∧ long ≤ 1099511627776) ∨ 1099511627776 < long by omega) with hl2 | hl2 | hl2 | hl2
        · have hl3 := hl2
          have hl2 := d1 hl2
          clear d1 d2 d3
          have hb2 := True.intro
          have hn := HN.out
          have hUU := HU.out
          go_wp2_with fail
          refine (alive_any _).mono ?_
          rintro e y0 ⟨rfl, hy0⟩
          have ky0 := hB.trans (hy0.mono hB.size)
          have rY0 := reads_below hrM hy0
          have bY := bX.below hy0 lX
          have x0 : y0.cell? ⟨w2.heap.size, 0, none⟩ = some (.slice A2 n c2') := bY.cell 0
          have x1 : y0.cell? ⟨w2.heap.size, 1, none⟩ = some (.int .i64 rlast) := bY.cell 1
          go_wp2_with fail
          refine (fenced_any A2 n c2' rlast G tk rl _ (rY0) hm hc2).mono ?_
          rw [HFM.out]
          rintro e y2 ⟨rfl, hy2⟩
          go_wp2
          go_ret
          exact ⟨by simp, ky0.trans (hy2.mono ky0.size)⟩

        · subst hl2
          clear d1 d2 d3
          go_wp2_with fail
          refine (alive_any _).mono ?_
          rintro e y0 ⟨rfl, hy0⟩
          have ky0 := hB.trans (hy0.mono hB.size)
          have rY0 := reads_below hrM hy0
          have bY := bX.below hy0 lX
          have x0 : y0.cell? ⟨w2.heap.size, 0, none⟩ = some (.slice A2 n c2') := bY.cell 0
          have x1 : y0.cell? ⟨w2.heap.size, 1, none⟩ = some (.int .i64 rlast) := bY.cell 1
          go_wp2_with fail
          refine (fenced_any A2 n c2' rlast G tk rl _ (rY0) hm hc2).mono ?_
          rw [HFM.out]
          rintro e y2 ⟨rfl, hy2⟩
          go_wp2
          go_ret
          exact ⟨by simp, ky0.trans (hy2.mono ky0.size)⟩

        · have hl3 := hl2
          have hl2 := d2 (by omega) hl2.2
          clear d1 d2 d3
          have hb2 := True.intro
          have hlb : (long == 0) = false := by simp; omega
          have hn := HN.out
          have hUU := HU.out
          rcases (show 1099511627776 < (0 : Int) + long ∨ (0 : Int) + long ≤ 1099511627776 by omega) with hs | hs
          · exfalso; omega
          · have _hq := True.intro
            have hcl : clampZ ((0 : Int) + long - 1) = 0 + long - 1 := (clampZ_at.2.1) (by omega) (by omega)
            have hadd : addZ now long = 0 + long := by unfold addZ; rw [hn, hl2]; exact (clampZ_at.2.1) (by omega) (by omega)
            have hcnt : ∀ X : Int, X = (0 : Int) + long - 1 → (decide (0 < ow) && decide (clampZ X < U)) = true := fun X hX => by rw [hX, hcl]; simp; omega
            have HCT := Lib.hid hcnt
            clear hcl hadd hcnt
            go_wp2_with fail
            refine (alive_any _).mono ?_
            rintro e y0 ⟨rfl, hy0⟩
            have ky0 := hB.trans (hy0.mono hB.size)
            have rY0 := reads_below hrM hy0
            have bY := bX.below hy0 lX
            have x0 : y0.cell? ⟨w2.heap.size, 0, none⟩ = some (.slice A2 n c2') := bY.cell 0
            have x1 : y0.cell? ⟨w2.heap.size, 1, none⟩ = some (.int .i64 rlast) := bY.cell 1
            obtain ⟨xd, hl', rfl, hbk', e0, e1, e2⟩ := lse_at rY0 hGn
            have hel : rl[G] = ⟨ow, tk, U⟩ := by
              have := HRL.out
              subst this
              simp
            rw [hel] at e0 e1 e2
            simp only at e0 e1 e2
            clear hel
            go_wp2_with fail
            refine (refCounts_any _ ow tk U _).mono ?_
            rw [HCT.out]
            rotate_left
            · omega
            rintro e y1 ⟨rfl, hy1⟩
            have ky1 := ky0.trans (hy1.mono ky0.size)
            have rY1 := reads_below rY0 hy1
            have bY1 := bY.below hy1 bY.lt
            have x0' : y1.cell? ⟨w2.heap.size, 0, none⟩ = some (.slice (some xd) n c2') := bY1.cell 0
            have x1' : y1.cell? ⟨w2.heap.size, 1, none⟩ = some (.int .i64 rlast) := bY1.cell 1
            go_wp2_with fail
            refine (fenced_any (some xd) n c2' rlast G tk rl _ (rY1) hm hc2).mono ?_
            rw [HFM.out]
            rintro e y2 ⟨rfl, hy2⟩
            go_wp2
            go_ret
            exact ⟨by simp, ky1.trans (hy2.mono ky1.size)⟩

        · have hl3 := hl2
          have hl2 := d3 hl2
          clear d1 d2 d3
          have hb2 := True.intro
          have hn := HN.out
          have hUU := HU.out
          rcases (show 1099511627776 < (0 : Int) + 1099511627776 ∨ (0 : Int) + 1099511627776 ≤ 1099511627776 by omega) with hs | hs
          · exfalso; omega
          · have _hq := True.intro
            have hcl : clampZ ((0 : Int) + 1099511627776 - 1) = 0 + 1099511627776 - 1 := (clampZ_at.2.1) (by omega) (by omega)
            have hadd : addZ now long = 0 + 1099511627776 := by unfold addZ; rw [hn, hl2]; exact (clampZ_at.2.1) (by omega) (by omega)
            have hcnt : ∀ X : Int, X = (0 : Int) + 1099511627776 - 1 → (decide (0 < ow) && decide (clampZ X < U)) = true := fun X hX => by rw [hX, hcl]; simp; omega
            have HCT := Lib.hid hcnt
            clear hcl hadd hcnt
            go_wp2_with fail
            refine (alive_any _).mono ?_
            rintro e y0 ⟨rfl, hy0⟩
            have ky0 := hB.trans (hy0.mono hB.size)
            have rY0 := reads_below hrM hy0
            have bY := bX.below hy0 lX
            have x0 : y0.cell? ⟨w2.heap.size, 0, none⟩ = some (.slice A2 n c2') := bY.cell 0
            have x1 : y0.cell? ⟨w2.heap.size, 1, none⟩ = some (.int .i64 rlast) := bY.cell 1
            obtain ⟨xd, hl', rfl, hbk', e0, e1, e2⟩ := lse_at rY0 hGn
            have hel : rl[G] = ⟨ow, tk, U⟩ := by
              have := HRL.out
              subst this
              simp
            rw [hel] at e0 e1 e2
            simp only at e0 e1 e2
            clear hel
            go_wp2_with fail
            refine (refCounts_any _ ow tk U _).mono ?_
            rw [HCT.out]
            rotate_left
            · omega
            rintro e y1 ⟨rfl, hy1⟩
            have ky1 := ky0.trans (hy1.mono ky0.size)
            have rY1 := reads_below rY0 hy1
            have bY1 := bY.below hy1 bY.lt
            have x0' : y1.cell? ⟨w2.heap.size, 0, none⟩ = some (.slice (some xd) n c2') := bY1.cell 0
            have x1' : y1.cell? ⟨w2.heap.size, 1, none⟩ = some (.int .i64 rlast) := bY1.cell 1
            go_wp2_with fail
            refine (fenced_any (some xd) n c2' rlast G tk rl _ (rY1) hm hc2).mono ?_
            rw [HFM.out]
            rintro e y2 ⟨rfl, hy2⟩
            go_wp2
            go_ret
            exact ⟨by simp, ky1.trans (hy2.mono ky1.size)⟩

      · have hn' := hn
        have hn := c2 hn.1 hn.2
        clear c1 c2 c3
        have HN := Lib.hid hn
        clear hn
        obtain ⟨hNa, hNb⟩ : True ∧ True := ⟨trivial, trivial⟩
        rcases (show long < 0 ∨ long = 0 ∨ (0 < long ∧ long ≤ 1099511627776) ∨ 1099511627776 < long by omega) with hl2 | hl2 | hl2 | hl2
        · have hl3 := hl2
          have hl2 := d1 hl2
          clear d1 d2 d3
          have hb2 := True.intro
          have hn := HN.out
          have hUU := HU.out
          go_wp2_with fail
          refine (alive_any _).mono ?_
          rintro e y0 ⟨rfl, hy0⟩
          have ky0 := hB.trans (hy0.mono hB.size)
          have rY0 := reads_below hrM hy0
          have bY := bX.below hy0 lX
          have x0 : y0.cell? ⟨w2.heap.size, 0, none⟩ = some (.slice A2 n c2') := bY.cell 0
          have x1 : y0.cell? ⟨w2.heap.size, 1, none⟩ = some (.int .i64 rlast) := bY.cell 1
          go_wp2_with fail
          refine (fenced_any A2 n c2' rlast G tk rl _ (rY0) hm hc2).mono ?_
          rw [HFM.out]
          rintro e y2 ⟨rfl, hy2⟩
          go_wp2
          go_ret
          exact ⟨by simp, ky0.trans (hy2.mono ky0.size)⟩

        · subst hl2
          clear d1 d2 d3
          go_wp2_with fail
          refine (alive_any _).mono ?_
          rintro e y0 ⟨rfl, hy0⟩
          have ky0 := hB.trans (hy0.mono hB.size)
          have rY0 := reads_below hrM hy0
          have bY := bX.below hy0 lX
          have x0 : y0.cell? ⟨w2.heap.size, 0, none⟩ = some (.slice A2 n c2') := bY.cell 0
          have x1 : y0.cell? ⟨w2.heap.size, 1, none⟩ = some (.int .i64 rlast) := bY.cell 1
          go_wp2_with fail
          refine (fenced_any A2 n c2' rlast G tk rl _ (rY0) hm hc2).mono ?_
          rw [HFM.out]
          rintro e y2 ⟨rfl, hy2⟩
          go_wp2
          go_ret
          exact ⟨by simp, ky0.trans (hy2.mono ky0.size)⟩

        · have hl3 := hl2
          have hl2 := d2 (by omega) hl2.2
          clear d1 d2 d3
          have hb2 := True.intro
          have hlb : (long == 0) = false := by simp; omega
          have hn := HN.out
          have hUU := HU.out
          rcases (show 1099511627776 < (now : Int) + long ∨ (now : Int) + long ≤ 1099511627776 by omega) with hs | hs
          · have _hq := True.intro
            go_wp2_with fail
            refine (alive_any _).mono ?_
            rintro e y0 ⟨rfl, hy0⟩
            have ky0 := hB.trans (hy0.mono hB.size)
            have rY0 := reads_below hrM hy0
            have bY := bX.below hy0 lX
            have x0 : y0.cell? ⟨w2.heap.size, 0, none⟩ = some (.slice A2 n c2') := bY.cell 0
            have x1 : y0.cell? ⟨w2.heap.size, 1, none⟩ = some (.int .i64 rlast) := bY.cell 1
            go_wp2_with fail
            refine (fenced_any A2 n c2' rlast G tk rl _ (rY0) hm hc2).mono ?_
            rw [HFM.out]
            rintro e y2 ⟨rfl, hy2⟩
            go_wp2
            go_ret
            exact ⟨by simp, ky0.trans (hy2.mono ky0.size)⟩
          · have _hq := True.intro
            have hcl : clampZ ((now : Int) + long - 1) = now + long - 1 := (clampZ_at.2.1) (by omega) (by omega)
            have hadd : addZ now long = now + long := by unfold addZ; rw [hn, hl2]; exact (clampZ_at.2.1) (by omega) (by omega)
            have hcnt : ∀ X : Int, X = (now : Int) + long - 1 → (decide (0 < ow) && decide (clampZ X < U)) = true := fun X hX => by rw [hX, hcl]; simp; omega
            have HCT := Lib.hid hcnt
            clear hcl hadd hcnt
            go_wp2_with fail
            refine (alive_any _).mono ?_
            rintro e y0 ⟨rfl, hy0⟩
            have ky0 := hB.trans (hy0.mono hB.size)
            have rY0 := reads_below hrM hy0
            have bY := bX.below hy0 lX
            have x0 : y0.cell? ⟨w2.heap.size, 0, none⟩ = some (.slice A2 n c2') := bY.cell 0
            have x1 : y0.cell? ⟨w2.heap.size, 1, none⟩ = some (.int .i64 rlast) := bY.cell 1
            obtain ⟨xd, hl', rfl, hbk', e0, e1, e2⟩ := lse_at rY0 hGn
            have hel : rl[G] = ⟨ow, tk, U⟩ := by
              have := HRL.out
              subst this
              simp
            rw [hel] at e0 e1 e2
            simp only at e0 e1 e2
            clear hel
            go_wp2_with fail
            refine (refCounts_any _ ow tk U _).mono ?_
            rw [HCT.out]
            rotate_left
            · omega
            rintro e y1 ⟨rfl, hy1⟩
            have ky1 := ky0.trans (hy1.mono ky0.size)
            have rY1 := reads_below rY0 hy1
            have bY1 := bY.below hy1 bY.lt
            have x0' : y1.cell? ⟨w2.heap.size, 0, none⟩ = some (.slice (some xd) n c2') := bY1.cell 0
            have x1' : y1.cell? ⟨w2.heap.size, 1, none⟩ = some (.int .i64 rlast) := bY1.cell 1
            go_wp2_with fail
            refine (fenced_any (some xd) n c2' rlast G tk rl _ (rY1) hm hc2).mono ?_
            rw [HFM.out]
            rintro e y2 ⟨rfl, hy2⟩
            go_wp2
            go_ret
            exact ⟨by simp, ky1.trans (hy2.mono ky1.size)⟩

        · have hl3 := hl2
          have hl2 := d3 hl2
          clear d1 d2 d3
          have hb2 := True.intro
          have hn := HN.out
          have hUU := HU.out
          rcases (show 1099511627776 < (now : Int) + 1099511627776 ∨ (now : Int) + 1099511627776 ≤ 1099511627776 by omega) with hs | hs
          · have _hq := True.intro
            go_wp2_with fail
            refine (alive_any _).mono ?_
            rintro e y0 ⟨rfl, hy0⟩
            have ky0 := hB.trans (hy0.mono hB.size)
            have rY0 := reads_below hrM hy0
            have bY := bX.below hy0 lX
            have x0 : y0.cell? ⟨w2.heap.size, 0, none⟩ = some (.slice A2 n c2') := bY.cell 0
            have x1 : y0.cell? ⟨w2.heap.size, 1, none⟩ = some (.int .i64 rlast) := bY.cell 1
            go_wp2_with fail
            refine (fenced_any A2 n c2' rlast G tk rl _ (rY0) hm hc2).mono ?_
            rw [HFM.out]
            rintro e y2 ⟨rfl, hy2⟩
            go_wp2
            go_ret
            exact ⟨by simp, ky0.trans (hy2.mono ky0.size)⟩
          · have _hq := True.intro
            have hcl : clampZ ((now : Int) + 1099511627776 - 1) = now + 1099511627776 - 1 := (clampZ_at.2.1) (by omega) (by omega)
            have hadd : addZ now long = now + 1099511627776 := by unfold addZ; rw [hn, hl2]; exact (clampZ_at.2.1) (by omega) (by omega)
            have hcnt : ∀ X : Int, X = (now : Int) + 1099511627776 - 1 → (decide (0 < ow) && decide (clampZ X < U)) = true := fun X hX => by rw [hX, hcl]; simp; omega
            have HCT := Lib.hid hcnt
            clear hcl hadd hcnt
            go_wp2_with fail
            refine (alive_any _).mono ?_
            rintro e y0 ⟨rfl, hy0⟩
            have ky0 := hB.trans (hy0.mono hB.size)
            have rY0 := reads_below hrM hy0
            have bY := bX.below hy0 lX
            have x0 : y0.cell? ⟨w2.heap.size, 0, none⟩ = some (.slice A2 n c2') := bY.cell 0
            have x1 : y0.cell? ⟨w2.heap.size, 1, none⟩ = some (.int .i64 rlast) := bY.cell 1
            obtain ⟨xd, hl', rfl, hbk', e0, e1, e2⟩ := lse_at rY0 hGn
            have hel : rl[G] = ⟨ow, tk, U⟩ := by
              have := HRL.out
              subst this
              simp
            rw [hel] at e0 e1 e2
            simp only at e0 e1 e2
            clear hel
            go_wp2_with fail
            refine (refCounts_any _ ow tk U _).mono ?_
            rw [HCT.out]
            rotate_left
            · omega
            rintro e y1 ⟨rfl, hy1⟩
            have ky1 := ky0.trans (hy1.mono ky0.size)
            have rY1 := reads_below rY0 hy1
            have bY1 := bY.below hy1 bY.lt
            have x0' : y1.cell? ⟨w2.heap.size, 0, none⟩ = some (.slice (some xd) n c2') := bY1.cell 0
            have x1' : y1.cell? ⟨w2.heap.size, 1, none⟩ = some (.int .i64 rlast) := bY1.cell 1
            go_wp2_with fail
            refine (fenced_any (some xd) n c2' rlast G tk rl _ (rY1) hm hc2).mono ?_
            rw [HFM.out]
            rintro e y2 ⟨rfl, hy2⟩
            go_wp2
            go_ret
            exact ⟨by simp, ky1.trans (hy2.mono ky1.size)⟩

      · have hn' := hn
        have hn := c3 hn
        clear c1 c2 c3
        have HN := Lib.hid hn
        clear hn
        obtain ⟨hNa, hNb⟩ : True ∧ True := ⟨trivial, trivial⟩
        rcases (show long < 0 ∨ long = 0 ∨ (0 < long ∧ long ≤ 1099511627776) ∨ 1099511627776 < long by omega) with hl2 | hl2 | hl2 | hl2
        · have hl3 := hl2
          have hl2 := d1 hl2
          clear d1 d2 d3
          have hb2 := True.intro
          have hn := HN.out
          have hUU := HU.out
          go_wp2_with fail
          refine (alive_any _).mono ?_
          rintro e y0 ⟨rfl, hy0⟩
          have ky0 := hB.trans (hy0.mono hB.size)
          have rY0 := reads_below hrM hy0
          have bY := bX.below hy0 lX
          have x0 : y0.cell? ⟨w2.heap.size, 0, none⟩ = some (.slice A2 n c2') := bY.cell 0
          have x1 : y0.cell? ⟨w2.heap.size, 1, none⟩ = some (.int .i64 rlast) := bY.cell 1
          go_wp2_with fail
          refine (fenced_any A2 n c2' rlast G tk rl _ (rY0) hm hc2).mono ?_
          rw [HFM.out]
          rintro e y2 ⟨rfl, hy2⟩
          go_wp2
          go_ret
          exact ⟨by simp, ky0.trans (hy2.mono ky0.size)⟩

        · subst hl2
          clear d1 d2 d3
          go_wp2_with fail
          refine (alive_any _).mono ?_
          rintro e y0 ⟨rfl, hy0⟩
          have ky0 := hB.trans (hy0.mono hB.size)
          have rY0 := reads_below hrM hy0
          have bY := bX.below hy0 lX
          have x0 : y0.cell? ⟨w2.heap.size, 0, none⟩ = some (.slice A2 n c2') := bY.cell 0
          have x1 : y0.cell? ⟨w2.heap.size, 1, none⟩ = some (.int .i64 rlast) := bY.cell 1
          go_wp2_with fail
          refine (fenced_any A2 n c2' rlast G tk rl _ (rY0) hm hc2).mono ?_
          rw [HFM.out]
          rintro e y2 ⟨rfl, hy2⟩
          go_wp2
          go_ret
          exact ⟨by simp, ky0.trans (hy2.mono ky0.size)⟩

        · have hl3 := hl2
          have hl2 := d2 (by omega) hl2.2
          clear d1 d2 d3
          have hb2 := True.intro
          have hlb : (long == 0) = false := by simp; omega
          have hn := HN.out
          have hUU := HU.out
          rcases (show 1099511627776 < (1099511627776 : Int) + long ∨ (1099511627776 : Int) + long ≤ 1099511627776 by omega) with hs | hs
          · have _hq := True.intro
            go_wp2_with fail
            refine (alive_any _).mono ?_
            rintro e y0 ⟨rfl, hy0⟩
            have ky0 := hB.trans (hy0.mono hB.size)
            have rY0 := reads_below hrM hy0
            have bY := bX.below hy0 lX
            have x0 : y0.cell? ⟨w2.heap.size, 0, none⟩ = some (.slice A2 n c2') := bY.cell 0
            have x1 : y0.cell? ⟨w2.heap.size, 1, none⟩ = some (.int .i64 rlast) := bY.cell 1
            go_wp2_with fail
            refine (fenced_any A2 n c2' rlast G tk rl _ (rY0) hm hc2).mono ?_
            rw [HFM.out]
            rintro e y2 ⟨rfl, hy2⟩
            go_wp2
            go_ret
            exact ⟨by simp, ky0.trans (hy2.mono ky0.size)⟩
          · exfalso; omega

        · have hl3 := hl2
          have hl2 := d3 hl2
          clear d1 d2 d3
          have hb2 := True.intro
          have hn := HN.out
          have hUU := HU.out
          rcases (show 1099511627776 < (1099511627776 : Int) + 1099511627776 ∨ (1099511627776 : Int) + 1099511627776 ≤ 1099511627776 by omega) with hs | hs
          · have _hq := True.intro
            go_wp2_with fail
            refine (alive_any _).mono ?_
            rintro e y0 ⟨rfl, hy0⟩
            have ky0 := hB.trans (hy0.mono hB.size)
            have rY0 := reads_below hrM hy0
            have bY := bX.below hy0 lX
            have x0 : y0.cell? ⟨w2.heap.size, 0, none⟩ = some (.slice A2 n c2') := bY.cell 0
            have x1 : y0.cell? ⟨w2.heap.size, 1, none⟩ = some (.int .i64 rlast) := bY.cell 1
            go_wp2_with fail
            refine (fenced_any A2 n c2' rlast G tk rl _ (rY0) hm hc2).mono ?_
            rw [HFM.out]
            rintro e y2 ⟨rfl, hy2⟩
            go_wp2
            go_ret
            exact ⟨by simp, ky0.trans (hy2.mono ky0.size)⟩
          · exfalso; omega

end Go.Proofs.Ytinccckpohaoiaa
