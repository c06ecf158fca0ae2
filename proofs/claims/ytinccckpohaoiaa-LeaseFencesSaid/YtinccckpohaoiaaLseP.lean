/- Plain law of leases: which tables may be behind a lease put in a place. -/
import Derived.Test.YtinccckpohaoiaaLse9
namespace Go.Proofs.Ytinccckpohaoiaa
open Go.RowKit
set_option linter.unusedVariables false
set_option linter.unusedSimpArgs false

theorem hasB_take_false {t : Int} {ls : List Lse} {k : Nat} : hasB t (ls.take k) = false ↔ ∀ i (hi : i < ls.length), i < k → ls[i].tok ≠ t := by
  unfold hasB
  rw [List.any_eq_false]
  constructor
  · intro h i hi hik e
    refine h ls[i] ?_ (by simpa using e)
    rw [List.mem_take_iff_getElem]
    exact ⟨i, by omega, rfl⟩
  · intro h x hx
    rw [List.mem_take_iff_getElem] at hx
    obtain ⟨i, hi, rfl⟩ := hx
    simpa using h i (by omega) (by omega)

theorem rightT_iff2 {ls : List Lse} {last : Int} : rightT ls last = true ↔ (1 ≤ ls.length ∧ ls.length ≤ 32) ∧ (0 ≤ last ∧ last ≤ 1073741824) ∧ (∀ i (h : i < ls.length), badB last ls[i] = false) ∧
    (∀ i j (hi : i < ls.length) (hj : j < ls.length), i < j → ls[j].tok ≠ 0 → ls[i].tok ≠ ls[j].tok) := by
  rw [rightT_iff]
  constructor
  · rintro ⟨a, b, c⟩
    refine ⟨a, b, fun i h => (c i h).1, fun i j hi hj hij h0 => ?_⟩
    exact hasB_take_false.1 ((c j hj).2 h0) i hi hij
  · rintro ⟨a, b, c, d⟩
    refine ⟨a, b, fun i h => ⟨c i h, fun h0 => hasB_take_false.2 fun j hj hji => d j i hj h hji h0⟩⟩

theorem badB_mono {last last' : Int} {l : Lse} (h : badB last l = false) (hl : last ≤ last') : badB last' l = false := by
  rw [badB_false] at h ⊢
  omega

/-- A lease put in a place of a table that may be. -/
theorem right_set {ls : List Lse} {last last' : Int} {G : Nat} {x : Lse} (h : rightT ls last = true) (hl : last ≤ last') (hl' : last' ≤ 1073741824) (hx : badB last' x = false)
    (hn : ∀ i (hi : i < ls.length), i ≠ G → x.tok ≠ 0 → ls[i].tok ≠ x.tok) : rightT (ls.set G x) last' = true := by
  obtain ⟨a, b, c, d⟩ := rightT_iff2.1 h
  refine rightT_iff2.2 ⟨by simpa using a, ⟨by omega, hl'⟩, fun i hi => ?_, fun i j hi hj hij h0 => ?_⟩
  · rw [List.getElem_set]
    split
    · exact hx
    · exact badB_mono (c i (by simpa using hi)) hl
  · simp only [List.getElem_set] at h0 ⊢
    simp only [List.length_set] at hi hj
    by_cases hGi : G = i
    · rw [if_pos hGi] at *
      rw [if_neg (by omega)] at *
      intro e
      exact hn j hj (by omega) (by rw [e]; exact h0) e.symm
    · rw [if_neg hGi]
      by_cases hGj : G = j
      · rw [if_pos hGj] at *
        exact hn i hi (by omega) h0
      · rw [if_neg hGj] at *
        exact d i j hi hj hij h0

theorem right_tok {ls : List Lse} {last : Int} (h : rightT ls last = true) {i j : Nat} (hi : i < ls.length) (hj : j < ls.length) (hij : i ≠ j) (h0 : ls[j].tok ≠ 0) : ls[i].tok ≠ ls[j].tok := by
  obtain ⟨_, _, _, d⟩ := rightT_iff2.1 h
  rcases Nat.lt_or_gt_of_ne hij with h1 | h1
  · exact d i j hi hj h1 h0
  · intro e
    exact d j i hj hi h1 (by rw [e]; exact h0) e.symm

theorem hasT_mk {ls : List Lse} {last : Int} {G : Nat} (h : rightT ls last = true) (hG : G < ls.length) : hasT ls last G = true := by
  unfold hasT
  simp [h]
  omega

/-- What is renewed may be, and its token is not fenced. -/
theorem renew_right {ls : List Lse} {last ow tk ti U : Int} {G : Nat} (h : rightT ls last = true) {hG : G < ls.length} (hx : ls[G] = ⟨ow, tk, ti⟩) (ho : ow ≠ 0) (hU : 0 ≤ U ∧ U ≤ 1099511627776) :
    rightT (ls.set G ⟨ow, tk, U⟩) last = true ∧ fencedB (ls.set G ⟨ow, tk, U⟩) last G tk = false := by
  have hb := (rightT_iff2.1 h).2.2.1 G hG
  rw [hx] at hb
  have hr : rightT (ls.set G ⟨ow, tk, U⟩) last = true := by
    refine right_set h (Int.le_refl _) (rightT_iff2.1 h).2.1.2 ?_ fun i hi hne h0 => ?_
    · rw [badB_false] at hb ⊢
      simp only at hb ⊢
      omega
    · have := right_tok h hi hG hne (by rw [hx]; exact h0)
      rw [hx] at this
      exact this
  refine ⟨hr, ?_⟩
  unfold fencedB
  rw [hasT_mk hr (by simpa using hG), lseAt_nat (by simpa using hG)]
  simp
  exact ho

/-- A renewing that is not refused. -/
theorem renewZ_ok {ls rl : List Lse} {last g tok now long rlast : Int} (h : renewZ ls last g tok now long = ((rl, rlast), 0)) :
    ∃ (G : Nat) (hG : G < ls.length) (ow tk ti : Int), g = G ∧ ls[G] = ⟨ow, tk, ti⟩ ∧ rl = ls.set G ⟨ow, tk, max ti (addZ now long)⟩ ∧ rlast = last ∧ rightT ls last = true ∧ 0 < ow ∧ tk = tok ∧ 0 ≤ ti ∧ ti ≤ 1099511627776 ∧ ls.length ≤ 32 := by
  unfold renewZ at h
  split at h
  · simp at h
  · rename_i h1
    have h1' : hasT ls last g = true := by simpa using h1
    split at h
    · simp at h
    · rename_i h2
      obtain ⟨G, rfl, hG, h32, hR⟩ := hasT_elim h1'
      rw [lseAt_nat hG, Int.toNat_natCast] at h
      have h3 : fencedB ls last G tok = false := by
        cases hf : fencedB ls last G tok
        · rfl
        · exact absurd (.inl hf) h2
      unfold fencedB at h3
      rw [h1', lseAt_nat hG] at h3
      have hb := (rightT_iff2.1 hR).2.2.1 G hG
      generalize hx : ls[G] = x at *
      obtain ⟨ow, tk, ti⟩ := x
      simp at h3
      rw [badB_false] at hb
      simp only [Prod.mk.injEq] at h hb
      refine ⟨G, hG, ow, tk, ti, rfl, hx, h.1.1.symm, h.1.2.symm, hR, by omega, h3.2, hb.2.2.2.2.1, hb.2.2.2.2.2.1, h32⟩
theorem renewZ_bad {ls rl : List Lse} {last g tok now long rlast rerr : Int} (h : renewZ ls last g tok now long = ((rl, rlast), rerr)) (h0 : rerr ≠ 0) : rl = [] := by
  unfold renewZ at h
  split at h
  · simp at h; exact h.1.1
  · split at h
    · simp at h; exact h.1.1
    · simp at h; omega
end Go.Proofs.Ytinccckpohaoiaa
