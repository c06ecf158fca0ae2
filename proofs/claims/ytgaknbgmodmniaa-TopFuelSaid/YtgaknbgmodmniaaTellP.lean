/- Plain law of SourceTells: what a source tells, and what the law looks for in it. -/
import Derived.Test.YtgaknbgmodmniaaRun0
namespace Go.Proofs.Ytgaknbgmodmniaa
open Go.RowKit
set_option linter.unusedVariables false
set_option linter.unusedSimpArgs false

/-- The events that are kept, from a mark on; what is told. -/
def keptF (j : Jb) : Int → List Ev → List Ev
  | _, [] => []
  | m, e :: l => (if m ≤ e.at_ then [runE j e] else []) ++ keptF j (markZ j m e) l
def tellF (j : Jb) : Int → List Ev → List It
  | _, [] => [markIt 1099511627776]
  | m, e :: l => toldE j m e ++ toldM j m e ++ tellF j (markZ j m e) l
/-- What the law asks of each item, from a mark on. -/
def okT : Int → List It → Prop
  | _, [] => True
  | m, x :: l => (x.kind = 1 ∧ m ≤ x.ev.at_ ∧ okT m l) ∨ (x.kind = 2 ∧ m < x.mark ∧ (x.mark = 1099511627776 ↔ l = []) ∧ okT x.mark l)
def evsOf : List It → List Ev
  | [] => []
  | x :: l => if x.kind = 1 then x.ev :: evsOf l else evsOf l
def mkOf : Int → List It → Int
  | m, [] => m
  | m, x :: l => mkOf (if x.kind = 1 then m else x.mark) l

theorem tellF_ne (j : Jb) : ∀ (l : List Ev) (m : Int), tellF j m l ≠ []
  | [], _ => by simp [tellF]
  | e :: l, m => by
    have := tellF_ne j l (markZ j m e)
    simp [tellF, this]
theorem subZ_lt {a b : Int} (h : a < 1099511627776) : subZ a b < 1099511627776 := by
  unfold subZ
  have h1 : clampZ a < 1099511627776 := by unfold clampZ; (repeat' split) <;> omega
  have h2 := clampZ_bd b
  generalize clampZ a = x at *
  generalize clampZ b = y at *
  unfold clampZ
  (repeat' split) <;> omega
theorem tellF_ok (j : Jb) : ∀ (l : List Ev) (m : Int), m < 1099511627776 → (∀ e ∈ l, e.at_ < 1099511627776) → okT m (tellF j m l) ∧ evsOf (tellF j m l) = keptF j m l ∧ mkOf m (tellF j m l) = 1099511627776
  | [], m, hm, _ => by
    refine ⟨.inr ⟨rfl, hm, by simp [markIt], trivial⟩, ?_, ?_⟩
    · simp [tellF, evsOf, markIt, keptF]
    · simp [tellF, mkOf, markIt]
  | e :: l, m, hm, he => by
    have h0 := he e (by simp)
    have hs : subZ e.at_ j.delay < 1099511627776 := subZ_lt h0
    have hl := fun m' (h : m' < 1099511627776) => tellF_ok j l m' h (fun x hx => he x (by simp [hx]))
    have hne := fun m' => tellF_ne j l m'
    unfold tellF keptF
    by_cases h3 : m ≤ e.at_
    · rw [show toldE j m e = [evIt (runE j e)] from if_pos h3, if_pos h3]
      by_cases h5 : m < subZ e.at_ j.delay
      · rw [show toldM j m e = [markIt (subZ e.at_ j.delay)] from if_pos h5, show markZ j m e = subZ e.at_ j.delay from if_pos h5]
        obtain ⟨a, b, c⟩ := hl _ hs
        refine ⟨.inl ⟨rfl, h3, .inr ⟨rfl, h5, ⟨fun q => ?_, fun q => absurd q (hne _)⟩, a⟩⟩, ?_, ?_⟩
        · have : subZ e.at_ j.delay = 1099511627776 := q
          omega
        · simp [evsOf, evIt, markIt, b]
        · simpa [mkOf, evIt, markIt] using c
      · rw [show toldM j m e = [] from if_neg h5, show markZ j m e = m from if_neg h5]
        obtain ⟨a, b, c⟩ := hl _ hm
        refine ⟨.inl ⟨rfl, h3, a⟩, ?_, ?_⟩
        · simp [evsOf, evIt, b]
        · simpa [mkOf, evIt] using c
    · rw [show toldE j m e = [] from if_neg h3, if_neg h3]
      by_cases h5 : m < subZ e.at_ j.delay
      · rw [show toldM j m e = [markIt (subZ e.at_ j.delay)] from if_pos h5, show markZ j m e = subZ e.at_ j.delay from if_pos h5]
        obtain ⟨a, b, c⟩ := hl _ hs
        refine ⟨.inr ⟨rfl, h5, ⟨fun q => ?_, fun q => absurd q (hne _)⟩, a⟩, ?_, ?_⟩
        · have : subZ e.at_ j.delay = 1099511627776 := q
          omega
        · simp [evsOf, markIt, b]
        · simpa [mkOf, markIt] using c
      · rw [show toldM j m e = [] from if_neg h5, show markZ j m e = m from if_neg h5]
        obtain ⟨a, b, c⟩ := hl _ hm
        exact ⟨a, by simpa using b, by simpa using c⟩

theorem accI_front (j : Jb) (L : List Ev) (k q : Nat) : accI j L k (q + 1) = stepI j L k ++ accI j L (k + 1) q := by
  unfold accI
  rw [List.range_succ_eq_map, List.flatMap_cons, List.flatMap_map]
  have e : (fun i => stepI j L (k + Nat.succ i)) = fun i => stepI j L (k + 1 + i) := by
    funext i
    rw [show k + Nat.succ i = k + 1 + i from by omega]
  first | rw [e] | (simp only [Nat.succ_eq_add_one] at e; rw [e])
  rfl
theorem stepI_at {j : Jb} {L : List Ev} {i : Nat} (hJ : jobB j = true) (hI : inB L = true) (hi : i < L.length) : stepI j L i = toldE j (markL j (L.take i)) L[i] ++ toldM j (markL j (L.take i)) L[i] := by
  unfold stepI nextR
  rw [if_neg (by rw [hJ]; simp), if_neg (by rw [src_at hI (by omega)]; simp), if_neg (by simp)]
  unfold nextZ
  rw [if_neg (by simp)]
  simp only [Int.toNat_natCast]
  rw [List.getElem?_eq_getElem hi]
theorem stepI_end {j : Jb} {L : List Ev} (hJ : jobB j = true) (hI : inB L = true) : stepI j L L.length = [markIt 1099511627776] := by
  unfold stepI nextR
  rw [if_neg (by rw [hJ]; simp), if_neg (by rw [src_at hI (Nat.le_refl _)]; simp), if_neg (by simp)]
  unfold nextZ
  rw [if_neg (by simp)]
  simp only [Int.toNat_natCast]
  rw [List.getElem?_eq_none (Nat.le_refl _)]
theorem accI_tell {j : Jb} {L : List Ev} (hJ : jobB j = true) (hI : inB L = true) : ∀ (d k : Nat), k + d = L.length → accI j L k (d + 1) = tellF j (markL j (L.take k)) (L.drop k)
  | 0, k, h => by
    obtain rfl : k = L.length := by omega
    rw [List.drop_length, accI_front, stepI_end hJ hI]
    simp [accI, tellF]
  | d + 1, k, h => by
    have hk : k < L.length := by omega
    rw [accI_front, accI_tell hJ hI d (k + 1) (by omega), stepI_at hJ hI hk, markL_take hk, List.drop_eq_getElem_cons hk]
    rfl
/-- What a whole run tells. -/
theorem accI_whole {j : Jb} {L : List Ev} (hJ : jobB j = true) (hI : inB L = true) : accI j L 0 (L.length + 1) = tellF j 0 L := by
  have h := accI_tell hJ hI L.length 0 (by omega)
  rw [List.take_zero, List.drop_zero] at h
  exact h
end Go.Proofs.Ytgaknbgmodmniaa
