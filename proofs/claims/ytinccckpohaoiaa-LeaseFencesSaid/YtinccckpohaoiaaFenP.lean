/- Plain law of fences: what is fenced stays so, whatever is asked; who counts keeps his group. -/
import Derived.Test.YtinccckpohaoiaaLseP
namespace Go.Proofs.Ytinccckpohaoiaa
open Go.RowKit
set_option linter.unusedVariables false
set_option linter.unusedSimpArgs false

/-- As long as a lease counts, nobody else has its group. -/
def keepB (now : Int) (x l : Lse) : Bool := countsB now x && (!(l.own == 0) && (!(l.own == x.own) || !(l.tok == x.tok)))
/-- What asking has made of a table: it may be, is as long, nobody has lost his group, what was fenced is fenced. -/
structure Goes (now : Int) (ls : List Lse) (last : Int) (ls' : List Lse) (last' : Int) : Prop where
  rt : rightT ls' last' = true
  len : ls'.length = ls.length
  up : last ≤ last'
  keep : ∀ g (h : g < ls.length) (h' : g < ls'.length), keepB now ls[g] ls'[g] = false
  fen : ∀ g tok, tok ≤ last → fencedB ls last g tok = true → fencedB ls' last' g tok = true
theorem Goes.refl {now : Int} {ls : List Lse} {last : Int} (h : rightT ls last = true) : Goes now ls last ls last :=
  ⟨h, rfl, Int.le_refl _, fun g _ _ => by unfold keepB; simp, fun _ _ _ h => h⟩
theorem fenced_in {ls : List Lse} {last tok : Int} {g : Nat} (h : rightT ls last = true) (hg : g < ls.length) : fencedB ls last g tok = (ls[g].own == 0 || ls[g].tok != tok) := by
  unfold fencedB
  rw [hasT_mk h hg, lseAt_nat hg]
  simp
theorem fenced_out {ls : List Lse} {last tok g : Int} (h : ¬ (0 ≤ g ∧ g < ls.length)) : fencedB ls last g tok = true := by
  unfold fencedB hasT
  have : (decide (0 ≤ g) && decide (g < (ls.length : Int))) = false := by
    rw [Bool.and_eq_false_iff, decide_eq_false_iff_not, decide_eq_false_iff_not]; omega
  rw [this]
  simp
/-- A lease is put in a place. -/
theorem goes_set {now : Int} {ls : List Lse} {last last' : Int} {G : Nat} {x : Lse} (hr : rightT ls last = true) (hr' : rightT (ls.set G x) last' = true) (hG : G < ls.length) (hl : last ≤ last') (hk : keepB now ls[G] x = false)
    (hf : ∀ tok, tok ≤ last → (ls[G].own == 0 || ls[G].tok != tok) = true → (x.own == 0 || x.tok != tok) = true) : Goes now ls last (ls.set G x) last' := by
  refine ⟨hr', by simp, hl, fun g h h' => ?_, fun g tok ht hfe => ?_⟩
  · rw [List.getElem_set]
    split
    · rename_i e
      subst e
      exact hk
    · unfold keepB; simp
  · by_cases hg : 0 ≤ g ∧ g < ls.length
    · obtain ⟨k, rfl⟩ : ∃ k : Nat, g = k := ⟨g.toNat, by omega⟩
      have hk : k < ls.length := by omega
      rw [fenced_in hr hk] at hfe
      rw [fenced_in hr' (by simpa using hk), List.getElem_set]
      split
      · rename_i e
        subst e
        exact hf tok ht hfe
      · exact hfe
    · exact fenced_out (by simpa using hg)
theorem grant_goes {ls rl : List Lse} {last g wk now long rlast tok : Int} (hl1 : 0 ≤ addZ now long ∧ addZ now long ≤ 1099511627776) (h : grantZ ls last g wk now long = ((rl, rlast), tok, 0)) :
    Goes now ls last rl rlast ∧ tok = last + 1 ∧ rlast = last + 1 ∧ countsB now (lseAt ls g) = false := by
  unfold grantZ at h
  split at h
  · simp at h
  · rename_i h1
    split at h
    · simp at h
    · rename_i h2
      split at h
      · simp at h
      · rename_i h3
        have h1' : hasT ls last g = true := by
          cases hf : hasT ls last g
          · exact absurd (.inl hf) h1
          · rfl
        obtain ⟨G, rfl, hG, h32, hR⟩ := hasT_elim h1'
        rw [lseAt_nat hG] at h2
        have h2' : countsB now ls[G] = false := by simpa using h2
        simp only [Prod.mk.injEq, Int.toNat_natCast] at h
        obtain ⟨⟨rfl, rfl⟩, rfl, _⟩ := h
        have hb := (rightT_iff2.1 hR).2
        refine ⟨goes_set hR (right_set hR (by omega) (by omega) (badB_false.2 (by simp only; omega)) fun i hi hne h0 => ?_) hG (by omega) ?_ fun t ht _ => ?_, rfl, rfl, by rw [lseAt_nat hG]; exact h2'⟩
        · have := hb.2.1 i hi
          rw [badB_false] at this
          simp only
          omega
        · unfold keepB
          rw [h2']
          rfl
        · simp
          omega
theorem renew_goes {ls rl : List Lse} {last g tok now long rlast : Int} (hl1 : 0 ≤ addZ now long ∧ addZ now long ≤ 1099511627776) (h : renewZ ls last g tok now long = ((rl, rlast), 0)) : Goes now ls last rl rlast ∧ rlast = last := by
  obtain ⟨G, hG, ow, tk, ti, rfl, hx, rfl, rfl, hR, ho, rfl, ht0, ht1, h32⟩ := renewZ_ok h
  refine ⟨goes_set hR (renew_right hR hx (by omega) (by omega)).1 hG (Int.le_refl _) ?_ fun t ht hf => ?_, rfl⟩
  · unfold keepB
    rw [hx]
    simp
  · rw [hx] at hf
    exact hf
theorem give_goes {ls rl : List Lse} {now last g tok rlast : Int} (h : giveZ ls last g tok = ((rl, rlast), 0)) : Goes now ls last rl rlast ∧ rlast = last := by
  unfold giveZ at h
  split at h
  · simp at h
  · rename_i h1
    have h1' : hasT ls last g = true := by simpa using h1
    split at h
    · simp at h
    · rename_i h2
      obtain ⟨G, rfl, hG, h32, hR⟩ := hasT_elim h1'
      have h3 : fencedB ls last G tok = false := by simpa using h2
      rw [fenced_in hR hG] at h3
      simp only [Prod.mk.injEq, Int.toNat_natCast] at h
      obtain ⟨⟨rfl, rfl⟩, _⟩ := h
      have hb := (rightT_iff2.1 hR).2
      have hbG := hb.2.1 G hG
      rw [badB_false] at hbG
      simp at h3
      refine ⟨goes_set hR (right_set hR (Int.le_refl _) hb.1.2 (badB_false.2 ⟨by simp, by simp, by simp only; omega, by simp only; omega, by simp, by simp, by simp, by simp⟩) fun i hi hne h0 => ?_) hG (Int.le_refl _) ?_ fun t ht _ => ?_, rfl⟩
      · have := right_tok hR hi hG hne (by rw [h3.2]; exact h0)
        rw [h3.2] at this
        exact this
      · unfold keepB
        simp
      · simp
/-- A table of no owners may be. -/
theorem free_right {p : Nat} (hp : 1 ≤ p ∧ p ≤ 32) : rightT (freeL p) 0 = true := by
  refine rightT_iff2.2 ⟨by rw [freeL_length]; exact hp, by omega, fun i h => ?_, fun i j hi hj _ h0 => ?_⟩
  · unfold freeL at *
    rw [List.getElem_replicate]
    exact badB_false.2 (by simp)
  · exfalso
    unfold freeL at *
    rw [List.getElem_replicate] at h0
    exact h0 rfl
/-- What is known of an entry of the map of tokens: which it is, and that it is fenced if it is said so. -/
def FenQ (ls : List Lse) (last : Int) (key val : Value) : Prop :=
  ∃ (x : Int × Int) (b : Bool), key = .agg #[.int .i64 x.1, .int .i64 x.2] ∧ val = .bool b ∧ (Lit.int .i64 x.1).wf = true ∧ (Lit.int .i64 x.2).wf = true ∧ x.2 ≤ last ∧ (b = true → fencedB ls last x.1 x.2 = true)
theorem FenQ.goes {now : Int} {ls ls' : List Lse} {last last' : Int} (h : Goes now ls last ls' last') {key val : Value} (hq : FenQ ls last key val) : FenQ ls' last' key val := by
  obtain ⟨x, b, h1, h2, h3, h4, h5, h6⟩ := hq
  have := h.up
  exact ⟨x, b, h1, h2, h3, h4, by omega, fun hb => h.fen _ _ h5 (h6 hb)⟩
end Go.Proofs.Ytinccckpohaoiaa
