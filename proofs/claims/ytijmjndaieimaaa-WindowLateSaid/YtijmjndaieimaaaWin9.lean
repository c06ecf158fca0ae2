/- window.Open and the reference's Open. -/
import Derived.Test.YtijmjndaieimaaaWin8
namespace Go.Proofs.Ytijmjndaieimaaa
open Go.RowKit Go.Shelf
set_option linter.unusedVariables false
set_option linter.unusedSimpArgs false

/-- The windows that hold a time and are not closed. -/
def openL (size slide t mark : Int) : List (Int × Int) := (ofL size slide t).filter (keep mark)

set_option maxHeartbeats 1000000 in
theorem open_any (size slide t mark : Int) (w : World) (hs : -9223372036854775808 ≤ size ∧ size ≤ 9223372036854775807) (hl : -9223372036854775808 ≤ slide ∧ slide ≤ 9223372036854775807) {L : List (Int × Int)} {n : Nat} (hL : openL size slide t mark = L) (hn : L.length = n) :
    Calls Try.prog 16 #[.int .i64 size, .int .i64 slide, .int .i64 t, .int .i64 mark] w (OwnPost L n w) := by
  obtain ⟨M, hM⟩ : ∃ M, ofL size slide t = M := ⟨_, rfl⟩
  obtain ⟨k, hk⟩ : ∃ k, M.length = k := ⟨_, rfl⟩
  have hk17 : k ≤ 17 := by rw [← hk, ← hM]; exact ofL_len _ _ _
  have hLM : M.filter (keep mark) = L := by rw [← hM]; exact hL
  go_enter Try.func16, Try.ntmps16
  go_wp2_with fail
  refine (of_own _ _ _ _ hs hl hM hk).mono ?_
  rintro e w1 ⟨A, c, rfl, ho, hb⟩
  have hm : w1.cell? ⟨w.heap.size, 0, none⟩ = some (.int .i64 mark) := by
    rw [hb.cell (p := ⟨w.heap.size, 0, none⟩) (by simp)]
    simp [(Blk.new w 2 #[.int .i64 mark]).cell 0]
  have ho2 : w1.ownsRow (w.heap.size + 1) 29 2 (.slice A k c) k (winCells M) := by simpa using ho
  have hb0 : Below w.heap.size w w1 := next_below (by go_grown) hb
  go_wp2_with fail
  refine (deleteFunc_any (w.heap.size + 1) k w.heap.size A c M mark w1 ho2 hk (by omega) hm (by omega)).mono ?_
  rintro e w2 ⟨A2, c2, rfl, ho3, hb2⟩
  rw [hLM, hn] at ho3 ⊢
  go_wp2
  go_ret
  exact ⟨_, _, rfl, own_mono ho3 (by omega), hb0.trans (hb2.mono (by omega))⟩

set_option maxHeartbeats 1000000 in
theorem refOpen_any (size slide t mark : Int) (w : World) (hs : -9223372036854775808 ≤ size ∧ size ≤ 9223372036854775807) (hl : -9223372036854775808 ≤ slide ∧ slide ≤ 9223372036854775807) {L : List (Int × Int)} {n : Nat} (hL : openL size slide t mark = L) (hn : L.length = n) :
    Calls Try.prog 17 #[.int .i64 size, .int .i64 slide, .int .i64 t, .int .i64 mark] w (OwnPost L n w) := by
  have hk17 := ofL_len size slide t
  obtain ⟨M, hM⟩ : ∃ M, ofL size slide t = M := ⟨_, rfl⟩
  obtain ⟨k, hk⟩ : ∃ k, M.length = k := ⟨_, rfl⟩
  rw [hM, hk] at hk17
  have hLM : M.filter (keep mark) = L := by rw [← hM]; exact hL
  obtain ⟨i0, hi, hz0, hz1, hz2⟩ := info_parts infoWin
  have HM := Lib.hid hM
  go_enter Try.func17, Try.ntmps17
  go_wp2_with fail
  refine (refOf_any _ _ _ _ hs hl).mono ?_
  rintro e w1 ⟨v, rfl, ho, hb⟩
  rw [HM.out, hk] at ho
  obtain ⟨A, c, rfl⟩ := own_form ho
  have hsz1 := hb.size
  simp only [World.size_alloc] at hsz1 ho
  have hsrc : ∀ g, (Value.slice A k c).ownBlock = some g → w.heap.size + 1 ≤ g ∧ g < w1.heap.size := ho.lt
  have hb0 : Below w.heap.size w w1 := next_below (by go_grown) hb
  have hown0 := own_below (empty_own w) hb
  go_wp2
  go_loopw [9, 18] (fun o i wr => ∃ j : Nat, i = .int .i64 j ∧ j ≤ k ∧ wr.ownsRow w.heap.size 29 2 o ((M.take j).filter (keep mark)).length (winCells ((M.take j).filter (keep mark))) ∧ (∀ g, o.ownBlock = some g → g = w.heap.size ∨ w1.heap.size ≤ g) ∧
    wr.ownsRow (w.heap.size + 1) 29 2 (.slice A k c) k (winCells M) ∧ Below w.heap.size w wr ∧ w1.heap.size ≤ wr.heap.size) (fun _ i _ => k - (intOf i).toNat)
  case atStart => exact ⟨0, rfl, Nat.zero_le _, hown0, fun g hg => .inl (by simpa [Value.ownBlock] using hg.symm), ho, hb0, Nat.le_refl _⟩
  case round =>
    obtain ⟨j, rfl, hjk, hown, hog, hS, hB, hsz⟩ := hrel
    by_cases hlt : j < k
    · have hxx := get_some M j (by omega)
      have hst := filter_step (mark := mark) (show j < M.length by omega)
      obtain ⟨⟨x1, x2⟩, hx⟩ : ∃ x, M.getD j (0, 0) = x := ⟨_, rfl⟩
      rw [hx] at hxx hst
      obtain ⟨g, rfl, hg, c1, c2⟩ := own_at' hS hlt hxx
      have HS := Lib.hid hst
      clear hst hxx hx
      by_cases hc : mark < x2
      · have hlen : ((M.take j).filter (keep mark)).length ≤ 17 := by have := mix_le (L := M) (mark := mark) (b := j); omega
        have hf : (M.take (j + 1)).filter (keep mark) = (M.take j).filter (keep mark) ++ [(x1, x2)] := by rw [HS.out, if_pos hc]
        have HF := Lib.hid hf
        clear hf
        go_wp2_with (at_builtin; refine wpList_append_any _ rfl (.tmp 26) (.tmp 28) 25 rfl w.heap.size 29 i0 _ 2 16 Try.underlying25 hi hz0 hz1 hz2 rfl (by decide) _ _ _ rfl ((hown.alloc _).alloc _) (wr.heap.size + 2) (some ⟨wr.heap.size + 1, 0, none⟩) 1 1 [.int .i64 x1, .int .i64 x2] rfl ⟨rfl, fun _ => ⟨_, rfl, by simp, by simpa using cell_two_new (wr.alloc (.cells #[.int .i64 x1, .int .i64 x2] 29)) (.int .i64 x1) (.int .i64 x2) 29⟩⟩ (by simp [Value.oneCell']) (by unfold maxLen; omega) (by omega) (by have := hB.size; simp; omega) ?_; intro v' w2 hown' hgrow hnew)
        have hgs := hgrow.size
        simp at hgs
        go_roundw
        case rel =>
          refine ⟨j + 1, by go_num, by omega, ?_, ?_, ?_, ?_, by omega⟩
          · rw [HF.out, winCells_snoc, List.length_append]
            exact hown'
          · intro g' hg'
            rcases hnew with e | e
            · exact hog g' (e ▸ hg')
            · rw [e] at hg'
              injection hg' with hg'
              simp at hg'
              omega
          · refine ((hS.alloc _).alloc _).kept hgrow (.inr fun e => ?_)
            obtain ⟨a1, a2⟩ := hsrc g rfl
            rcases hog g e.symm with h | h <;> omega
          · exact ((hB.alloc hB.size _).alloc (by have := hB.size; simp; omega) _).grown hgrow (by have := hB.size; simp; omega) (fun q hq => (hown.lt q hq).1)
        case measure => simp [intOf]; omega
      · have hf : (M.take (j + 1)).filter (keep mark) = (M.take j).filter (keep mark) := by rw [HS.out, if_neg hc, List.append_nil]
        have HF := Lib.hid hf
        clear hf
        go_wp2
        go_roundw
        case rel =>
          refine ⟨j + 1, by go_num, by omega, by rw [HF.out]; exact hown.alloc _, hog, hS.alloc _, hB.alloc hB.size _, by simp; omega⟩
        case measure => simp [intOf]; omega
    · obtain rfl : j = k := by omega
      go_wp2
      go_ret
      rw [← hk, List.take_length, hLM, hn] at hown
      obtain ⟨A2, c2, rfl⟩ := own_form hown
      exact ⟨_, _, rfl, hown, hB⟩
end Go.Proofs.Ytijmjndaieimaaa
