/- Plain law of the law's run with ticks in between: ticks change nothing but for how many of them nothing came. -/
import Derived.Test.YtgaknbgmodmniaaTellP
namespace Go.Proofs.Ytgaknbgmodmniaa
open Go.RowKit
set_option linter.unusedVariables false
set_option linter.unusedSimpArgs false

theorem src_atQ {j : Jb} {L : List Ev} {k : Nat} {z : Int} (hI : inB L = true) (hk : k ≤ L.length) (hz : 0 ≤ z ∧ z ≤ 1000) : srcB ⟨L, k, markL j (L.take k), z, false⟩ = true :=
  srcB_iff.2 ⟨hI, ⟨by simp, by simp; omega⟩, markL_bd j _, ⟨by simp; omega, by simp; omega⟩, by simp⟩
theorem next_atQ {j : Jb} {L : List Ev} {i : Nat} {z : Int} (hJ : jobB j = true) (hI : inB L = true) (hi : i < L.length) (hz : 0 ≤ z ∧ z ≤ 1000) :
    nextR j ⟨L, i, markL j (L.take i), z, false⟩ = (⟨L, (i : Int) + 1, markL j (L.take (i + 1)), 0, false⟩, stepI j L i, 0) := by
  rw [stepI_at hJ hI hi, markL_take hi]
  unfold nextR
  rw [if_neg (by rw [hJ]; simp), if_neg (by rw [src_atQ hI (by omega) hz]; simp), if_neg (by simp)]
  unfold nextZ
  rw [if_neg (by simp)]
  simp only [Int.toNat_natCast]
  rw [List.getElem?_eq_getElem hi]
theorem next_endQ {j : Jb} {L : List Ev} {z : Int} (hJ : jobB j = true) (hI : inB L = true) (hz : 0 ≤ z ∧ z ≤ 1000) :
    nextR j ⟨L, (L.length : Nat), markL j (L.take L.length), z, false⟩ = (⟨L, (L.length : Nat), markL j (L.take L.length), z, true⟩, stepI j L L.length, 0) := by
  rw [stepI_end hJ hI]
  unfold nextR
  rw [if_neg (by rw [hJ]; simp), if_neg (by rw [src_atQ hI (Nat.le_refl _) hz]; simp), if_neg (by simp)]
  unfold nextZ
  rw [if_neg (by simp)]
  simp only [Int.toNat_natCast]
  rw [List.getElem?_eq_none (Nat.le_refl _)]
theorem next_doneQ {j : Jb} {L : List Ev} {z : Int} (hJ : jobB j = true) (hI : inB L = true) (hz : 0 ≤ z ∧ z ≤ 1000) :
    nextR j ⟨L, (L.length : Nat), markL j (L.take L.length), z, true⟩ = (zeroS, [], 210) := by
  unfold nextR
  rw [if_neg (by rw [hJ]; simp), if_neg ?_, if_pos rfl]
  have : srcB ⟨L, (L.length : Nat), markL j (L.take L.length), z, true⟩ = true := srcB_iff.2 ⟨hI, ⟨by simp, by simp⟩, markL_bd j _, ⟨by simp; omega, by simp; omega⟩, by simp⟩
  rw [this]
  simp
/-- For how many ticks nothing came, behind so many. -/
def idleQ (j : Jb) (t : Nat) : Int := if j.idle = 0 then 0 else t
theorem idleQ_bd (j : Jb) (t : Nat) (h : t ≤ 3) : 0 ≤ idleQ j t ∧ idleQ j t ≤ 3 := by unfold idleQ; split <;> omega
theorem tick_atQ {j : Jb} {L : List Ev} {i t : Nat} (hJ : jobB j = true) (hI : inB L = true) (hi : i ≤ L.length) (ht : t ≤ 3) :
    ∃ l, tickR j ⟨L, i, markL j (L.take i), idleQ j t, false⟩ = (⟨L, i, markL j (L.take i), idleQ j (t + 1), false⟩, l, 0) := by
  have hb := idleQ_bd j t ht
  refine ⟨(waitZ j ⟨L, i, markL j (L.take i), idleQ j t, false⟩).2, ?_⟩
  unfold tickR
  rw [if_neg (by rw [hJ]; simp), if_neg (by rw [src_atQ hI hi ⟨hb.1, by omega⟩]; simp)]
  unfold waitZ
  by_cases h : j.idle = 0
  · rw [if_pos (.inl h)]
    simp [idleQ, h]
  · rw [if_neg (by
      rintro (hc | hc | hc)
      · exact h hc
      · cases hc
      · simp only at hc
        omega)]
    simp [idleQ, h]
end Go.Proofs.Ytgaknbgmodmniaa
