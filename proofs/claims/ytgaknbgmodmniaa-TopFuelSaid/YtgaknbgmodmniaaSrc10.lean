/- Walks of model.Mark and source.New. -/
import Derived.Test.YtgaknbgmodmniaaSrc9
namespace Go.Proofs.Ytgaknbgmodmniaa
open Go.RowKit
set_option linter.unusedVariables false
set_option linter.unusedSimpArgs false

theorem checkZ_zero {j : Jb} {l : List Ev} (h : checkZ j l = 0) : jobB j = true ∧ inB l = true := by
  unfold checkZ at h
  by_cases hJ : jobB j = false
  · rw [if_pos hJ] at h; simp at h
  · rw [if_neg hJ] at h
    by_cases hB : inB l = false
    · rw [if_pos hB] at h; simp at h
    · exact ⟨by simpa using hJ, by simpa using hB⟩
theorem checkZ_ne {j : Jb} {l : List Ev} (h : checkZ j l ≠ 0) : ¬ (jobB j = true ∧ inB l = true) := by
  rintro ⟨h1, h2⟩
  apply h
  unfold checkZ
  rw [h1, h2]
  rfl
theorem markZ_bd (j : Jb) (m : Int) (x : Ev) (h : 0 ≤ m ∧ m ≤ 1099511627776) : 0 ≤ markZ j m x ∧ markZ j m x ≤ 1099511627776 := by
  unfold markZ subZ
  have := clampZ_bd (clampZ x.at_ - clampZ j.delay)
  split <;> omega
theorem markF_bd (j : Jb) : ∀ (l : List Ev) (m : Int), 0 ≤ m ∧ m ≤ 1099511627776 → 0 ≤ l.foldl (markZ j) m ∧ l.foldl (markZ j) m ≤ 1099511627776
  | [], _, h => h
  | x :: l, m, h => markF_bd j l _ (markZ_bd j m x h)
theorem markL_bd (j : Jb) (l : List Ev) : 0 ≤ markL j l ∧ markL j l ≤ 1099511627776 := markF_bd j l 0 (by omega)
theorem markL_take {j : Jb} {ls : List Ev} {k : Nat} (h : k < ls.length) : markL j (ls.take (k + 1)) = markZ j (markL j (ls.take k)) ls[k] := by
  rw [List.take_succ_eq_append_getElem h, markL_snoc]

/-- What a source is that is begun behind so many events, or the error's number. -/
def newZ (j : Jb) (ls : List Ev) (done : Int) : Sr × Int :=
  if jobB j = false then (zeroS, 130) else if inB ls = false ∨ done < 0 ∨ (ls.length : Int) < done then (zeroS, 1) else (⟨ls, done, markL j (ls.take done.toNat), 0, false⟩, 0)
def NewPost (A : Option Addr) (n c : Nat) (r : Sr × Int) (w : World) (e : Ending) (w' : World) : Prop :=
  Below w.heap.size w w' ∧ ((r.2 = 0 ∧ e = .returned (.tuple #[.agg #[.slice A n c, .int .i64 r.1.done, .int .i64 r.1.mark, .int .i64 r.1.quiet, .bool r.1.ended], .int .i64 0])) ∨
    (r.2 ≠ 0 ∧ e = .returned (.tuple #[.agg #[.slice none 0 0, .int .i64 0, .int .i64 0, .int .i64 0, .bool false], .int .i64 r.2])))
theorem inB_take {l : List Ev} (k : Nat) (h : inB l = true) : inB (l.take k) = true := by
  obtain ⟨h1, h2⟩ := inB_iff.1 h
  exact inB_iff.2 ⟨by rw [List.length_take]; omega, fun e he => h2 e (List.mem_of_mem_take he)⟩
theorem evs_take (ls : List Ev) (k : Nat) : evs (ls.take k) = (evs ls).take (k * 3) := by
  induction ls generalizing k with
  | nil => simp [evs]
  | cons a ls ih =>
    cases k with
    | zero => simp [evs]
    | succ k => rw [List.take_succ_cons, evs_cons, evs_cons, ih, show (k + 1) * 3 = k * 3 + 1 + 1 + 1 from by omega]; rfl
theorem reads_take3 {w : World} {B n k : Nat} {A : Option Addr} {ls : List Ev} (h : Reads w B 3 A n (evs ls)) (hk : k ≤ n) : Reads w B 3 A k (evs (ls.take k)) := by
  have hl := evs_len h
  refine ⟨by rw [evs_length, List.length_take]; omega, fun h0 => ?_⟩
  obtain ⟨ad, e, hb, hc⟩ := h.2 (by omega)
  refine ⟨ad, e, hb, fun j u hu => hc j u ?_⟩
  rw [← hu, evs_take]
  have hj := (List.getElem?_eq_some_iff.1 hu).1
  rw [evs_length, List.length_take] at hj
  rw [List.getElem?_take_of_lt (by omega)]

end Go.Proofs.Ytgaknbgmodmniaa
