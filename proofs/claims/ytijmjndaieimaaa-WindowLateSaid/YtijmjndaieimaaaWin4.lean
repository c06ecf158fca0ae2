/- Walks of the window reference's Right, Of and Like, and of the law's alive. -/
import Derived.Test.YtijmjndaieimaaaWin3
namespace Go.Proofs.Ytijmjndaieimaaa
open Go.RowKit Go.Shelf
set_option linter.unusedVariables false
set_option linter.unusedSimpArgs false

set_option maxHeartbeats 400000 in
theorem refRight_any (size slide : Int) (w : World) (hs : -9223372036854775808 ≤ size ∧ size ≤ 9223372036854775807) (hl : -9223372036854775808 ≤ slide ∧ slide ≤ 9223372036854775807) :
    Calls Try.prog 11 #[.int .i64 size, .int .i64 slide] w fun e w' => e = .returned (.bool (rightW size slide)) ∧ w = w' := by
  by_cases h1 : 1 ≤ slide
  · by_cases h2 : slide ≤ size
    · by_cases h3 : size ≤ 1048576
      · go_enter Try.func11, Try.ntmps11
        go_wp2
        go_ret
        exact ⟨by simp [rightW, h1, h2, h3]; omega, rfl⟩
      · go_enter Try.func11, Try.ntmps11
        go_wp2
        go_ret
        exact ⟨by simp [rightW, h1, h2, h3]; omega, rfl⟩
    · go_enter Try.func11, Try.ntmps11
      go_wp2
      go_ret
      exact ⟨by simp [rightW]; omega, rfl⟩
  · go_enter Try.func11, Try.ntmps11
    go_wp2
    go_ret
    exact ⟨by simp [rightW]; omega, rfl⟩

theorem right11 : rightW 1 1 = true := by decide
theorem alive_any (w : World) : Calls Try.prog 9 #[] w fun e w' => e = .returned (.bool true) ∧ w = w' := by
  go_enter Try.func9, Try.ntmps9
  go_wp2_with (go_at_call 10; refine (rightW_any _ _ _ (by omega) (by omega)).mono ?_; rw [right11]; rintro e w' ⟨rfl, rfl⟩)
  go_ret
  exact ⟨rfl, rfl⟩

/-- The number of the first window that holds a time. -/
def winF (size slide t : Int) : Nat := (t / slide).toNat + 1 - winN size slide t
theorem win_facts {size slide t : Int} (h1 : 1 ≤ slide) (h2 : slide ≤ size) (h3 : size ≤ 1048576) (ht : 0 ≤ t) (ht' : t < 1099511627776) :
    winN size slide t ≤ (t / slide).toNat + 1 ∧ (∀ k : Nat, (k : Int) * slide ≤ t ↔ k ≤ (t / slide).toNat) ∧ (∀ k : Nat, k ≤ (t / slide).toNat → (t - size < (k : Int) * slide ↔ winF size slide t ≤ k)) ∧
    (∀ k : Nat, winF size slide t ≤ k → k ≤ (t / slide).toNat → (backL size slide t).reverse[k - winF size slide t]? = some ((k : Int) * slide, addZ ((k : Int) * slide) size)) ∧
    ((t - size).tdiv slide - 1 ≤ winF size slide t) ∧ (∀ k : Nat, 0 ≤ (k : Int) * slide) ∧ (∀ k : Nat, k ≤ (t / slide).toNat + 1 → (k : Int) * slide ≤ t + slide) ∧ -1099512676352 ≤ (t - size).tdiv slide ∧ (t - size).tdiv slide ≤ 1099511627776 := by
  have r0 := Int.emod_nonneg t (b := slide) (by omega)
  have r1 := Int.emod_lt_of_pos t (b := slide) (by omega)
  have q := Int.emod_add_mul_ediv t slide
  have q0 : 0 ≤ t / slide := Int.ediv_nonneg ht (by omega)
  have s0 : 0 ≤ (size - 1 - t % slide) / slide := Int.ediv_nonneg (by omega) (by omega)
  have eQ : ((t / slide).toNat : Int) = t / slide := Int.toNat_of_nonneg q0
  have hN : winN size slide t ≤ (t / slide).toNat + 1 := by unfold winN; omega
  have mulc : slide * (t / slide) = t / slide * slide := Int.mul_comm _ _
  have pos : ∀ k : Nat, 0 ≤ (k : Int) * slide := fun k => Int.mul_nonneg (by omega) (by omega)
  have A : ∀ k : Nat, (k : Int) * slide ≤ t ↔ k ≤ (t / slide).toNat := by
    intro k
    have : (k : Int) * slide ≤ t ↔ (k : Int) ≤ t / slide := (Int.le_ediv_iff_mul_le (by omega)).symm
    rw [this]; omega
  have lo : ∀ k : Nat, k ≤ (t / slide).toNat → t - t % slide - (((t / slide).toNat - k : Nat) : Int) * slide = (k : Int) * slide := by
    intro k hk
    have e : (((t / slide).toNat - k : Nat) : Int) = t / slide - k := by omega
    rw [e, Int.sub_mul]
    omega
  have B : ∀ k : Nat, k ≤ (t / slide).toNat → (t - size < (k : Int) * slide ↔ winF size slide t ≤ k) := by
    intro k hk
    have h := winN_iff h1 h2 ht ((t / slide).toNat - k)
    rw [lo k hk] at h
    have p := pos k
    unfold winF
    constructor
    · intro g
      have := h.2 ⟨p, g⟩
      omega
    · intro g
      exact (h.1 (by omega)).2
  refine ⟨hN, A, B, ?_, ?_, pos, ?_, ?_⟩
  · intro k hk hk'
    have hlen := backL_length size slide t
    have hw := hk
    unfold winF at hw
    have hi : k - winF size slide t < (backL size slide t).length := by rw [hlen]; unfold winF; omega
    rw [List.getElem?_reverse hi, hlen]
    have e : winN size slide t - 1 - (k - winF size slide t) = (t / slide).toNat - k := by unfold winF; omega
    rw [e]
    have hk2 : (t / slide).toNat - k < winN size slide t := by omega
    simp only [backL, List.getElem?_map, List.getElem?_range hk2, Option.map_some, winAt, lo k hk']
  · rcases Int.lt_or_le (t - size) 0 with g | g
    · have : (t - size).tdiv slide ≤ 0 := by
        have e : (t - size) = -(size - t) := by omega
        rw [e, Int.neg_tdiv]
        have := Int.tdiv_nonneg (a := size - t) (b := slide) (by omega) (by omega)
        omega
      omega
    · rw [Int.tdiv_eq_ediv_of_nonneg g]
      have hq : (t - size) / slide ≤ t / slide := Int.ediv_le_ediv (by omega) (by omega)
      have m0 : 0 ≤ (t - size) / slide := Int.ediv_nonneg g (by omega)
      rcases Nat.lt_or_ge (winF size slide t) ((t - size) / slide).toNat with c | c
      · have hb := (B (winF size slide t) (by omega)).2 (Nat.le_refl _)
        have e2 := Int.ediv_mul_le (t - size) (b := slide) (by omega)
        have : (winF size slide t : Int) * slide ≤ (t - size) / slide * slide := Int.mul_le_mul_of_nonneg_right (by omega) (by omega)
        omega
      · omega
  · intro k hk
    have h : (k : Int) * slide ≤ (t / slide + 1) * slide := Int.mul_le_mul_of_nonneg_right (by omega) (by omega)
    rw [Int.add_mul] at h
    omega
  · have := Int.natAbs_tdiv_le_natAbs (t - size) slide
    omega

theorem addZ_win {lo size t : Int} (h0 : 0 ≤ lo) (h1 : lo ≤ t) (h2 : 1 ≤ size) (h3 : size ≤ 1048576) (ht : t < 1099511627776) : t < addZ lo size ↔ t - size < lo := by
  have e1 : clampZ lo = lo := by unfold clampZ; rw [if_neg (by omega), if_neg (by omega)]
  have e2 : clampZ size = size := by unfold clampZ; rw [if_neg (by omega), if_neg (by omega)]
  unfold addZ
  rw [e1, e2]
  unfold clampZ
  (repeat' split) <;> omega

theorem empty_own (w : World) : (w.alloc (.cells #[] 29)).ownsRow w.heap.size 29 2 (.slice (some ⟨w.heap.size, 0, none⟩) 0 0) 0 (winCells []) :=
  World.ownsRow_made w #[] 0 (Nat.le_refl _) (by unfold maxLen; omega) rfl

set_option maxHeartbeats 2000000 in
theorem refOf_yes (size slide t : Int) (w : World) (hr : rightW size slide = true) (ht : 0 ≤ t) (ht' : t < 1099511627776) :
    Calls Try.prog 14 #[.int .i64 size, .int .i64 slide, .int .i64 t] w (OfPost size slide t w) := by
  obtain ⟨h1, h2, h3, h4⟩ := rightW_iff.1 hr
  have hN17 := winN_le (t := t) h1 h2 h4
  obtain ⟨i0, hi, hz0, hz1, hz2⟩ := info_parts infoWin
  have hofl : ofL size slide t = (backL size slide t).reverse := by unfold ofL; rw [if_pos ⟨hr, ht, ht'⟩]
  have hlen : (ofL size slide t).length = winN size slide t := by rw [hofl, List.length_reverse, backL_length]
  obtain ⟨hN, A, B, C, D, E, G, d1, d2⟩ := win_facts h1 h2 h3 ht ht'
  rw [← hofl] at C
  have hQb : (t / slide).toNat ≤ 1099511627776 := by have := Int.ediv_le_self slide ht; omega
  generalize hQ : (t / slide).toNat = Q at *
  generalize hF : winF size slide t = F at *
  have hFQ : F + winN size slide t = Q + 1 := by rw [← hF]; unfold winF; omega
  unfold OfPost
  generalize hL : ofL size slide t = L at *
  have HA := Lib.hid A
  have HB := Lib.hid B
  have HC := Lib.hid C
  have HE := Lib.hid E
  have HG := Lib.hid G
  have HLn := Lib.hid hlen
  have HFQ := Lib.hid hFQ
  clear A B C E G hlen hFQ hofl hL hF
  have HRt := Lib.hid hr
  clear hr
  have dt1 : decide (t < 0) = false := by simp; omega
  have dt2 : decide (1099511627776 ≤ t) = false := by simp; omega
  have hown0 := empty_own w
  have hk1 := Below.refl w.heap.size w
  have hst : ∃ k0 : Nat, k0 ≤ F ∧ ((t - size).tdiv slide - 1 < 0 → k0 = 0) ∧ (0 ≤ (t - size).tdiv slide - 1 → (t - size).tdiv slide - 1 = (k0 : Int)) := by
    rcases Int.lt_or_le ((t - size).tdiv slide - 1) 0 with g | g
    · exact ⟨0, Nat.zero_le _, fun _ => rfl, fun h => by omega⟩
    · exact ⟨((t - size).tdiv slide - 1).toNat, by omega, fun h => by omega, fun _ => by omega⟩
  obtain ⟨k0, hk0F, hs1, hs2⟩ := hst
  have HS1 := Lib.hid hs1
  have HS2 := Lib.hid hs2
  clear hs1 hs2 D
  by_cases hneg : (t - size).tdiv slide - 1 < 0
  all_goals
    go_enter Try.func14, Try.ntmps14
    go_wp2_with (go_at_call 11; refine (refRight_any _ _ _ (by omega) (by omega)).mono ?_; rw [HRt.out]; rintro e w' ⟨rfl, rfl⟩)
    go_loopw [7, 9] (fun v i wr => ∃ k : Nat, i = .int .i64 k ∧ k ≤ Q + 1 ∧ wr.ownsRow w.heap.size 29 2 v (k - F) (winCells (L.take (k - F))) ∧ Below w.heap.size w wr)
      (fun _ i _ => Q + 1 - (intOf i).toNat)
    case atStart =>
      refine ⟨k0, ?_, by have := HFQ.out; omega, by rw [show k0 - F = 0 from by omega]; exact hown0, by go_grown⟩
      first
        | (rw [HS1.out hneg]; rfl)
        | (rw [HS2.out (by omega)])
    case round =>
      obtain ⟨k, rfl, hkQ, hown, hB⟩ := hrel
      have e0 := HE.out k
      have e1 := HG.out k hkQ
      have e2 := HE.out (k + 1)
      by_cases hk : k ≤ Q
      · have a1 := (HA.out k).2 hk
        have hb := HB.out k hk
        have ha := addZ_win (size := size) e0 a1 (by omega) h3 ht'
        by_cases hF : F ≤ k
        · have b1 := hb.2 hF
          have b2 := ha.2 b1
          have c1 := HC.out k hF hk
          have C1 := Lib.hid c1
          have hkb : k - F + 1 ≤ 17 := by have := HFQ.out; omega
          clear hb ha c1
          go_wp2_with (first
            | (go_at_call 20; refine (refAdd_any _ _ _).mono ?_; rintro e w' ⟨rfl, rfl⟩)
            | (at_builtin; refine wpList_append_own _ rfl (.tmp 60) (.tmp 62) 25 rfl w.heap.size 29 i0 _ 2 16 Try.underlying25 hi hz0 hz1 hz2 rfl (by decide) _ _ _ rfl ((hown.alloc _).alloc _) ⟨wr.heap.size + 1, 0, none⟩ 1 1 [.int .i64 (k * slide), .int .i64 (addZ (k * slide) size)] rfl rfl (by simpa using cell_two_new (wr.alloc (.cells #[.int .i64 (k * slide), .int .i64 (addZ (k * slide) size)] 29)) (.int .i64 (k * slide)) (.int .i64 (addZ (k * slide) size)) 29) (by simp [Value.oneCell']) (by unfold maxLen; omega) (by omega) (by have := hB.size; simp; omega) ?_; intro v' w1 hown' hgrow _))
          have hB1 : Below w.heap.size w w1 := ((hB.alloc hB.size _).alloc (by have := hB.size; simp; omega) _).grown hgrow (by have := hB.size; simp; omega) (fun j hj => (hown.lt j hj).1)
          go_roundw
          case rel =>
            refine ⟨k + 1, by go_num, by omega, ?_, hB1⟩
            have e : k + 1 - F = k - F + 1 := by omega
            have et : L.take (k + 1 - F) = L.take (k - F) ++ [((k : Int) * slide, addZ ((k : Int) * slide) size)] := by
              obtain ⟨hl, hx⟩ := List.getElem?_eq_some_iff.1 C1.out
              rw [e, List.take_succ_eq_append_getElem hl, hx]
            rw [et, winCells_snoc, e]
            exact hown'
          case measure => simp [intOf]; omega
        · have b1 : (k : Int) * slide ≤ t - size := by
            rcases Int.lt_or_le (t - size) ((k : Int) * slide) with g | g
            · exact absurd (hb.1 g) hF
            · exact g
          have b2 : addZ ((k : Int) * slide) size ≤ t := by
            rcases Int.lt_or_le t (addZ ((k : Int) * slide) size) with g | g
            · have := ha.1 g; omega
            · exact g
          clear hb ha
          go_wp2_with (go_at_call 20; refine (refAdd_any _ _ _).mono ?_; rintro e w' ⟨rfl, rfl⟩)
          go_roundw
          case rel =>
            refine ⟨k + 1, by go_num, by omega, ?_, hB.alloc hB.size _⟩
            have e : k - F = 0 := by omega
            have e' : k + 1 - F = 0 := by omega
            rw [e] at hown
            rw [e']
            exact hown.alloc _
          case measure => simp [intOf]; omega
      · have a1 : t < (k : Int) * slide := by
          rcases Int.lt_or_le t ((k : Int) * slide) with g | g
          · exact g
          · exact absurd ((HA.out k).1 g) hk
        go_wp2
        go_ret
        have hl : L.length ≤ k - F := by have := HFQ.out; rw [HLn.out]; omega
        have hl2 : k - F = L.length := by have := HFQ.out; rw [HLn.out]; omega
        rw [List.take_of_length_le hl, hl2] at hown
        exact ⟨_, rfl, hown, hB⟩
end Go.Proofs.Ytijmjndaieimaaa
