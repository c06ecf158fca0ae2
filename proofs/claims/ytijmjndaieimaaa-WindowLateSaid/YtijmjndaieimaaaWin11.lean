/- The walk of WindowLate. -/
import Derived.Test.YtijmjndaieimaaaWin9
import Derived.Deep.RegionHeld3
namespace Go.Proofs.Ytijmjndaieimaaa
open Go.RowKit Go.Shelf
set_option linter.unusedVariables false
set_option linter.unusedSimpArgs false

theorem late_list (mark : Int) : ∀ (M : List (Int × Int)), M.Pairwise (fun x y => x.2 ≤ y.2) →
    M.filter (keep mark) = M.drop (M.length - (M.filter (keep mark)).length) ∧ ∀ i x, M[i]? = some x → (M.length - (M.filter (keep mark)).length ≤ i ↔ mark < x.2)
  | [], _ => by simp
  | y :: M, h => by
    obtain ⟨h1, h2⟩ := List.pairwise_cons.1 h
    obtain ⟨ih1, ih2⟩ := late_list mark M h2
    by_cases hy : mark < y.2
    · have hall : ∀ x ∈ y :: M, keep mark x = true := by
        intro x hx
        rcases List.mem_cons.1 hx with rfl | hx
        · simp [keep, hy]
        · have := h1 x hx
          simp [keep]; omega
      rw [List.filter_eq_self.2 hall]
      refine ⟨by simp, fun i x hx => ?_⟩
      have := hall x (List.mem_of_getElem? hx)
      simp [keep] at this
      simp [this]
    · have hf : (y :: M).filter (keep mark) = M.filter (keep mark) := by simp [keep, hy]
      have hle := List.length_filter_le (keep mark) M
      rw [hf]
      constructor
      · rw [List.length_cons, show M.length + 1 - (M.filter (keep mark)).length = (M.length - (M.filter (keep mark)).length) + 1 from by omega, List.drop_succ_cons]
        exact ih1
      · intro i x hx
        cases i with
        | zero =>
          simp at hx
          subst hx
          simp only [List.length_cons]
          constructor
          · intro; omega
          · intro; omega
        | succ i =>
          simp at hx
          have := ih2 i x hx
          simp only [List.length_cons]
          omega

theorem late_facts (size slide t : Int) : (∀ (i : Nat) (x : Int × Int), (ofL size slide t)[i]? = some x → t < x.2) ∧ (ofL size slide t).Pairwise (fun x y => x.2 ≤ y.2) := by
  by_cases h : rightW size slide = true ∧ 0 ≤ t ∧ t < 1099511627776
  · obtain ⟨hr, ht, ht'⟩ := h
    obtain ⟨h1, h2, h3, h4⟩ := rightW_iff.1 hr
    have key : ∀ (i : Nat) (x : Int × Int), (ofL size slide t)[i]? = some x → x.1 = ((winF size slide t + i : Nat) : Int) * slide ∧ 0 ≤ x.1 ∧ x.1 ≤ t ∧ t - size < x.1 ∧ x.2 = if x.1 + size ≤ 1099511627776 then x.1 + size else 1099511627776 := by
      intro i x hx
      obtain ⟨a1, a2, a3, a4⟩ := ofL_at hr ht ht' i (List.getElem?_eq_some_iff.1 hx).1
      rw [hx] at a1
      injection a1 with a1
      subst a1
      exact ⟨rfl, a2, a3, a4, addZ_val a2 (by omega) (by omega) (by omega)⟩
    refine ⟨fun i x hx => ?_, ?_⟩
    · obtain ⟨_, k1, k2, k3, k4⟩ := key i x hx
      rw [k4]
      split <;> omega
    · rw [List.pairwise_iff_getElem]
      intro i j hi hj hij
      obtain ⟨e1, k1, k2, k3, k4⟩ := key i _ (List.getElem?_eq_getElem hi)
      obtain ⟨e2, l1, l2, l3, l4⟩ := key j _ (List.getElem?_eq_getElem hj)
      have : ((winF size slide t + i : Nat) : Int) * slide ≤ ((winF size slide t + j : Nat) : Int) * slide := Int.mul_le_mul_of_nonneg_right (by omega) (by omega)
      rw [← e1, ← e2] at this
      rw [k4, l4]
      (repeat' split) <;> omega
  · rw [ofL_no h]
    simp

/-- Like of an owned row and of a row's later part. -/
theorem like_cut (b1 k off c' : Nat) (v1 : Value) (A' : Option Addr) (l : List (Int × Int)) (w : World) (h1 : w.ownsRow b1 29 2 v1 k (winCells l))
    (h2 : ∀ (j : Nat) x, j < k → l[j]? = some x → ∃ g, A' = some ⟨g, off * 2, none⟩ ∧ g < w.heap.size ∧ w.cell? ⟨g, off * 2 + j * 2, none⟩ = some (.int .i64 x.1) ∧ w.cell? ⟨g, off * 2 + j * 2 + 1, none⟩ = some (.int .i64 x.2)) (hlk : l.length = k) (hn : k ≤ 1000) (ho : off ≤ 1000) :
    Calls Try.prog 12 #[v1, .slice A' k c'] w fun e w' => e = .returned (.bool true) ∧ Below w.heap.size w w' := by
  obtain ⟨A, c, rfl⟩ := own_form h1
  go_enter Try.func12, Try.ntmps12
  go_wp2
  go_loopw [13] (fun i wr => ∃ j : Nat, j ≤ k ∧ i = .int .i64 j ∧ ∃ q, wr = w.drewN q) (fun i _ => k - (intOf i).toNat)
  case atStart => exact ⟨0, Nat.zero_le _, rfl, 0, rfl⟩
  case round =>
    obtain ⟨j, hj, rfl, q, rfl⟩ := hrel
    by_cases hlt : j < k
    · have hx := get_some l j (by omega)
      obtain ⟨⟨x1, x2⟩, hx'⟩ : ∃ x, l.getD j (0, 0) = x := ⟨_, rfl⟩
      rw [hx'] at hx
      obtain ⟨g, rfl, hg, c1, c2⟩ := own_at' h1 hlt hx
      obtain ⟨g', rfl, hg', d1, d2⟩ := h2 j _ hlt hx
      clear hx hx'
      go_wp2_with fail
      go_quiet (fail)
      go_wp2
      go_roundw
      case rel => exact ⟨j + 1, by omega, by go_num, _, rfl⟩
      case measure => simp [intOf]; omega
    · go_wp2
      go_ret
      exact ⟨rfl, below_drewN (Below.refl _ _) q⟩

theorem own_cap {w : World} {base : Nat} {e : TypeId} {size : Nat} {A : Option Addr} {n c : Nat} {xs : List Value} (h : w.ownsRow base e size (.slice A n c) n xs) : n ≤ c := by
  rcases h.2 with ⟨h1, h2⟩ | ⟨g, cap, cur, h1, _, _, h2, _⟩
  · injection h1 with _ e1 e2
    omega
  · injection h1 with _ e1 e2
    omega

set_option maxHeartbeats 4000000 in
theorem walkLate (size slide t mark : Int) (w : World) (hs : -9223372036854775808 ≤ size ∧ size ≤ 9223372036854775807) (hl : -9223372036854775808 ≤ slide ∧ slide ≤ 9223372036854775807) :
    Calls Try.prog 8 #[.int .i64 size, .int .i64 slide, .int .i64 t, .int .i64 mark] w fun e w' => e = .returned (.bool true) ∧ Below w.heap.size w w' := by
  obtain ⟨M, hM⟩ : ∃ M, ofL size slide t = M := ⟨_, rfl⟩
  obtain ⟨n, hn⟩ : ∃ n, M.length = n := ⟨_, rfl⟩
  obtain ⟨L, hL⟩ : ∃ L, openL size slide t mark = L := ⟨_, rfl⟩
  obtain ⟨k, hk⟩ : ∃ k, L.length = k := ⟨_, rfl⟩
  have hn17 : n ≤ 17 := by rw [← hn, ← hM]; exact ofL_len _ _ _
  have hkn : k ≤ n := by
    have h2 := List.length_filter_le (keep mark) (ofL size slide t)
    rw [← hk, ← hn, ← hL, ← hM]
    unfold openL
    omega
  obtain ⟨hP1, hP2⟩ := late_facts size slide t
  rw [hM] at hP1 hP2
  obtain ⟨hD, hI⟩ := late_list mark M hP2
  have hLM : M.filter (keep mark) = L := by rw [← hM]; exact hL
  rw [hLM, hn, hk] at hD hI
  have hLj : ∀ j, L[j]? = M[n - k + j]? := fun j => by rw [hD, List.getElem?_drop]
  have HD := Lib.hid hD
  have HM := Lib.hid hM
  have HJ := Lib.hid hLj
  have hmk : mark ≤ t → k = n := by
    intro h
    rcases Nat.eq_zero_or_pos n with h0 | h0
    · omega
    · obtain ⟨x, hx⟩ : ∃ x, M[0]? = some x := ⟨_, List.getElem?_eq_getElem (by omega)⟩
      have h1 := hP1 0 x hx
      have h2 := (hI 0 x hx).2 (by omega)
      omega
  have HP1 := Lib.hid hP1
  have HI := Lib.hid hI
  clear hP1 hP2 hD hI hLj
  have hcase : (((k : Int) != (n : Int)) = false ∧ decide (mark ≤ t) = true) ∨ decide (mark ≤ t) = false := by
    by_cases h : mark ≤ t
    · exact .inl ⟨by simp [hmk h], by simp [h]⟩
    · exact .inr (by simp; omega)
  clear hmk
  have hdk : decide (n < k) = false := by simp; omega
  rcases hcase with ⟨hbne, hmt⟩ | hmt
  all_goals
    go_enter Try.func8, Try.ntmps8
    go_wp2_with fail
    refine (of_own _ _ _ _ hs hl HM.out hn).mono ?_
    rintro e w1 ⟨A, c, rfl, ho, hb⟩
    go_wp2_with fail
    refine (open_any _ _ _ _ _ hs hl hL hk).mono ?_
    rintro e w2 ⟨B, d, rfl, ho2, hb2⟩
    have k2 := hb.trans (hb2.mono hb.size)
    have ho1 := own_below ho hb2
    go_wp2_with fail
    go_loopw [42] (fun i wr => ∃ j : Nat, j ≤ n ∧ i = .int .i64 j ∧ Below w2.heap.size w2 wr) (fun i _ => n - (intOf i).toNat)
    case atStart => exact ⟨0, Nat.zero_le _, rfl, Below.refl _ _⟩
    case round =>
      obtain ⟨j, hj, rfl, hbr⟩ := hrel
      by_cases hlt : j < n
      · have hx := get_some M j (by omega)
        obtain ⟨⟨x1, x2⟩, hx'⟩ : ∃ x, M.getD j (0, 0) = x := ⟨_, rfl⟩
        rw [hx'] at hx
        have hp1 : t < x2 := HP1.out j _ hx
        have hp2 := HI.out j _ hx
        simp only at hp2
        obtain ⟨g, rfl, hg, c1, c2⟩ := own_at' (own_below ho1 hbr) hlt hx
        clear hx hx'
        have d1 : decide (x2 ≤ t) = false := by simp; omega
        have HP := Lib.hid hp2
        clear hp2 hp1
        have hmmA : mark < x2 → (n : Int) - k ≤ j := fun h => by have := HP.out.2 h; omega
        have hmmB : ¬ mark < x2 → ¬ ((n : Int) - k ≤ j) := fun h h' => h (HP.out.1 (by omega))
        have HA := Lib.hid hmmA
        have HB := Lib.hid hmmB
        clear hmmA hmmB
        have hbz := hbr.size
        by_cases hmx : mark < x2
        · have d2 : decide (x2 ≤ mark) = false := by simp; omega
          have h5 := HA.out hmx
          have d3 : decide ((n : Int) - k ≤ j) = true := by simp; omega
          go_wp2_with fail
          refine (closed_any _ _ _ _).mono ?_
          rw [d2]
          rintro e w3 ⟨rfl, hb3⟩
          obtain ⟨q1, q2⟩ := bcell hb3
          have k3 : Below wr.heap.size wr w3 := next_below (by go_grown) hb3
          go_wp2_with fail
          refine (closed_any _ _ _ _).mono ?_
          rw [d1]
          rintro e w4 ⟨rfl, hb4⟩
          have k4 : Below wr.heap.size wr w4 := k3.trans (hb4.mono k3.size)
          go_wp2
          go_roundw
          case rel => exact ⟨j + 1, by omega, by go_num, hbr.trans (k4.mono hbz)⟩
          case measure => simp [intOf]; omega
        · have d2 : decide (x2 ≤ mark) = true := by simp; omega
          have h5 := HB.out hmx
          have d3 : decide ((n : Int) - k ≤ j) = false := by simp; omega
          go_wp2_with fail
          refine (closed_any _ _ _ _).mono ?_
          rw [d2]
          rintro e w3 ⟨rfl, hb3⟩
          obtain ⟨q1, q2⟩ := bcell hb3
          have k3 : Below wr.heap.size wr w3 := next_below (by go_grown) hb3
          go_wp2_with fail
          refine (closed_any _ _ _ _).mono ?_
          rw [d1]
          rintro e w4 ⟨rfl, hb4⟩
          have k4 : Below wr.heap.size wr w4 := k3.trans (hb4.mono k3.size)
          go_wp2
          go_roundw
          case rel => exact ⟨j + 1, by omega, by go_num, hbr.trans (k4.mono hbz)⟩
          case measure => simp [intOf]; omega
      · have hbz := hbr.size
        go_wp2_with fail
        refine (alive_any _).mono ?_
        rintro e w' ⟨rfl, rfl⟩
        go_wp2_with fail
        all_goals
          have hcap := own_cap ho
          have hoW := own_below ho1 hbr
          have ho2W := own_below ho2 hbr
          rw [show n - (n - k) = k from by omega]
          refine (like_cut w1.heap.size k (n - k) _ (.slice B k d) _ L wr ho2W ?_ hk (by omega) (by omega)).mono ?_
          · intro j' x hj' hx
            rw [HJ.out] at hx
            obtain ⟨g, rfl, hg, c1, c2⟩ := own_at' hoW (show n - k + j' < n by omega) hx
            refine ⟨g, ?_, hg, by rw [show (n - k) * 2 + j' * 2 = (n - k + j') * 2 from by omega]; exact c1, by rw [show (n - k) * 2 + j' * 2 = (n - k + j') * 2 from by omega]; exact c2⟩
            first
              | (exfalso; omega)
              | (simp [Addr.add]; intro e; exact e.symm)
          · rintro e w5 ⟨rfl, hb5⟩
            have k5 := hbr.trans (hb5.mono hbz)
            have k6 := k2.trans (k5.mono k2.size)
            go_wp2
            go_ret
            exact ⟨rfl, k6⟩
end Go.Proofs.Ytijmjndaieimaaa
