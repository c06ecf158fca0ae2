/- Walks of package link's Take and Open, of the references Take and Like, and of the law's alive. -/
import Derived.Test.YtplodggiifachaaLink1
namespace Go.Proofs.Ytplodggiifachaa
open Go.RowKit
set_option linter.unusedVariables false
set_option linter.unusedSimpArgs false

/-- What a receiver makes of a packet: the receiver (epoch, number), whether the body is taken, the error's number. -/
def takeZ (re rw pe pn : Int) (body : ByteArray) : Int × Int × Bool × Int :=
  if (withinB re 0 1073741824 && withinB rw 0 1073741824 && withinB pn 0 1073741824 && !decide (4096 < body.size)) = false then (0, 0, false, 1)
  else if pe ≠ re then (0, 0, false, 150)
  else if pn ≠ rw ∨ 1073741824 ≤ rw then (re, rw, false, 0)
  else (re, rw + 1, true, 0)
def TakePost (r : Int × Int × Bool × Int) (w : World) (e : Ending) (w' : World) : Prop :=
  e = .returned (.tuple #[.agg #[.int .i64 r.1, .int .i64 r.2.1], .bool r.2.2.1, .int .i64 r.2.2.2]) ∧ Below w.heap.size w w'

set_option maxHeartbeats 1000000 in
theorem take_any (re rw pe pn : Int) (body : ByteArray) (w : World) (hs : body.size ≤ maxLen) :
    Calls Try.prog 9 #[.agg #[.int .i64 re, .int .i64 rw], .agg #[.int .i64 pe, .int .i64 pn, .string body]] w (TakePost (takeZ re rw pe pn body) w) := by
  unfold maxLen at hs
  cases h0 : withinB re 0 1073741824
  · rw [show takeZ re rw pe pn body = (0, 0, false, 1) from by unfold takeZ; simp [h0]]
    go_enter Try.func9, Try.ntmps9
    go_wp2_with (go_at_call 24; refine (within_any _ _ _ _).mono ?_; rintro e w' ⟨rfl, rfl⟩)
    exact bodyPost_ret (v := .tuple #[.agg #[.int .i64 0, .int .i64 0], .bool false, .int .i64 1]) (by simp [results, Try.results9, go_sem]) rfl ⟨rfl, by go_grown⟩
  cases h1 : withinB rw 0 1073741824
  · rw [show takeZ re rw pe pn body = (0, 0, false, 1) from by unfold takeZ; simp [h0, h1]]
    go_enter Try.func9, Try.ntmps9
    go_wp2_with (go_at_call 24; refine (within_any _ _ _ _).mono ?_; rintro e w' ⟨rfl, rfl⟩)
    exact bodyPost_ret (v := .tuple #[.agg #[.int .i64 0, .int .i64 0], .bool false, .int .i64 1]) (by simp [results, Try.results9, go_sem]) rfl ⟨rfl, by go_grown⟩
  cases h2 : withinB pn 0 1073741824
  · rw [show takeZ re rw pe pn body = (0, 0, false, 1) from by unfold takeZ; simp [h0, h1, h2]]
    go_enter Try.func9, Try.ntmps9
    go_wp2_with (go_at_call 24; refine (within_any _ _ _ _).mono ?_; rintro e w' ⟨rfl, rfl⟩)
    exact bodyPost_ret (v := .tuple #[.agg #[.int .i64 0, .int .i64 0], .bool false, .int .i64 1]) (by simp [results, Try.results9, go_sem]) rfl ⟨rfl, by go_grown⟩
  by_cases h4 : 4096 < body.size
  · rw [show takeZ re rw pe pn body = (0, 0, false, 1) from by unfold takeZ; simp [h0, h1, h2, h4]]
    go_enter Try.func9, Try.ntmps9
    go_wp2_with (go_at_call 24; refine (within_any _ _ _ _).mono ?_; rintro e w' ⟨rfl, rfl⟩)
    exact bodyPost_ret (v := .tuple #[.agg #[.int .i64 0, .int .i64 0], .bool false, .int .i64 1]) (by simp [results, Try.results9, go_sem]) rfl ⟨rfl, by go_grown⟩
  have h4' : decide (4096 < body.size) = false := by simp; omega
  have h4'' : ¬ ((withinB re 0 1073741824 && withinB rw 0 1073741824 && withinB pn 0 1073741824 && !decide (4096 < body.size)) = false) := by simp [h0, h1, h2]; omega
  have b1 := withinB_true.1 h1
  cases h5 : (pe != re)
  rotate_left
  · rw [show takeZ re rw pe pn body = (0, 0, false, 150) from by unfold takeZ; rw [if_neg h4'', if_pos (by simpa using h5)]]
    go_enter Try.func9, Try.ntmps9
    go_wp2_with (go_at_call 24; refine (within_any _ _ _ _).mono ?_; rintro e w' ⟨rfl, rfl⟩)
    exact bodyPost_ret (v := .tuple #[.agg #[.int .i64 0, .int .i64 0], .bool false, .int .i64 150]) (by simp [results, Try.results9, go_sem]) rfl ⟨rfl, by go_grown⟩
  cases h6 : (pn != rw)
  rotate_left
  · rw [show takeZ re rw pe pn body = (re, rw, false, 0) from by unfold takeZ; rw [if_neg h4'', if_neg (by simpa using h5), if_pos (.inl (by simpa using h6))]]
    go_enter Try.func9, Try.ntmps9
    go_wp2_with (go_at_call 24; refine (within_any _ _ _ _).mono ?_; rintro e w' ⟨rfl, rfl⟩)
    exact bodyPost_ret (v := .tuple #[.agg #[.int .i64 re, .int .i64 rw], .bool false, .int .i64 0]) (by simp [results, Try.results9, go_sem]) rfl ⟨rfl, by go_grown⟩
  by_cases h7 : 1073741824 ≤ rw
  · rw [show takeZ re rw pe pn body = (re, rw, false, 0) from by unfold takeZ; rw [if_neg h4'', if_neg (by simpa using h5), if_pos (.inr h7)]]
    go_enter Try.func9, Try.ntmps9
    go_wp2_with (go_at_call 24; refine (within_any _ _ _ _).mono ?_; rintro e w' ⟨rfl, rfl⟩)
    exact bodyPost_ret (v := .tuple #[.agg #[.int .i64 re, .int .i64 rw], .bool false, .int .i64 0]) (by simp [results, Try.results9, go_sem]) rfl ⟨rfl, by go_grown⟩
  · rw [show takeZ re rw pe pn body = (re, (rw + 1), true, 0) from by unfold takeZ; simp at h6; rw [if_neg h4'', if_neg (by simpa using h5), if_neg (by omega)]]
    go_enter Try.func9, Try.ntmps9
    go_wp2_with (go_at_call 24; refine (within_any _ _ _ _).mono ?_; rintro e w' ⟨rfl, rfl⟩)
    exact bodyPost_ret (v := .tuple #[.agg #[.int .i64 re, .int .i64 (rw + 1)], .bool true, .int .i64 0]) (by simp [results, Try.results9, go_sem]) rfl ⟨rfl, by go_grown⟩

set_option maxHeartbeats 1000000 in
theorem refTake_any (re rw pe pn : Int) (body : ByteArray) (w : World) (hs : body.size ≤ maxLen) :
    Calls Try.prog 10 #[.agg #[.int .i64 re, .int .i64 rw], .agg #[.int .i64 pe, .int .i64 pn, .string body]] w (TakePost (takeZ re rw pe pn body) w) := by
  unfold maxLen at hs
  cases h0 : withinB re 0 1073741824
  · rw [show takeZ re rw pe pn body = (0, 0, false, 1) from by unfold takeZ; simp [h0]]
    go_enter Try.func10, Try.ntmps10
    go_wp2_with (go_at_call 25; refine (in_any _ _ _ _).mono ?_; rintro e w' ⟨rfl, rfl⟩)
    exact bodyPost_ret (v := .tuple #[.agg #[.int .i64 0, .int .i64 0], .bool false, .int .i64 1]) (by simp [results, Try.results10, go_sem]) rfl ⟨rfl, by go_grown⟩
  cases h1 : withinB rw 0 1073741824
  · rw [show takeZ re rw pe pn body = (0, 0, false, 1) from by unfold takeZ; simp [h0, h1]]
    go_enter Try.func10, Try.ntmps10
    go_wp2_with (go_at_call 25; refine (in_any _ _ _ _).mono ?_; rintro e w' ⟨rfl, rfl⟩)
    exact bodyPost_ret (v := .tuple #[.agg #[.int .i64 0, .int .i64 0], .bool false, .int .i64 1]) (by simp [results, Try.results10, go_sem]) rfl ⟨rfl, by go_grown⟩
  cases h2 : withinB pn 0 1073741824
  · rw [show takeZ re rw pe pn body = (0, 0, false, 1) from by unfold takeZ; simp [h0, h1, h2]]
    go_enter Try.func10, Try.ntmps10
    go_wp2_with (go_at_call 25; refine (in_any _ _ _ _).mono ?_; rintro e w' ⟨rfl, rfl⟩)
    exact bodyPost_ret (v := .tuple #[.agg #[.int .i64 0, .int .i64 0], .bool false, .int .i64 1]) (by simp [results, Try.results10, go_sem]) rfl ⟨rfl, by go_grown⟩
  by_cases h4 : 4096 < body.size
  · rw [show takeZ re rw pe pn body = (0, 0, false, 1) from by unfold takeZ; simp [h0, h1, h2, h4]]
    go_enter Try.func10, Try.ntmps10
    go_wp2_with (go_at_call 25; refine (in_any _ _ _ _).mono ?_; rintro e w' ⟨rfl, rfl⟩)
    exact bodyPost_ret (v := .tuple #[.agg #[.int .i64 0, .int .i64 0], .bool false, .int .i64 1]) (by simp [results, Try.results10, go_sem]) rfl ⟨rfl, by go_grown⟩
  have h4' : decide (4096 < body.size) = false := by simp; omega
  have h4'' : ¬ ((withinB re 0 1073741824 && withinB rw 0 1073741824 && withinB pn 0 1073741824 && !decide (4096 < body.size)) = false) := by simp [h0, h1, h2]; omega
  have b1 := withinB_true.1 h1
  cases h5 : (pe != re)
  rotate_left
  · rw [show takeZ re rw pe pn body = (0, 0, false, 150) from by unfold takeZ; rw [if_neg h4'', if_pos (by simpa using h5)]]
    go_enter Try.func10, Try.ntmps10
    go_wp2_with (go_at_call 25; refine (in_any _ _ _ _).mono ?_; rintro e w' ⟨rfl, rfl⟩)
    exact bodyPost_ret (v := .tuple #[.agg #[.int .i64 0, .int .i64 0], .bool false, .int .i64 150]) (by simp [results, Try.results10, go_sem]) rfl ⟨rfl, by go_grown⟩
  cases h6 : (pn == rw)
  · rw [show takeZ re rw pe pn body = (re, rw, false, 0) from by unfold takeZ; rw [if_neg h4'', if_neg (by simpa using h5), if_pos (.inl (by simpa using h6))]]
    go_enter Try.func10, Try.ntmps10
    go_wp2_with (go_at_call 25; refine (in_any _ _ _ _).mono ?_; rintro e w' ⟨rfl, rfl⟩)
    exact bodyPost_ret (v := .tuple #[.agg #[.int .i64 re, .int .i64 rw], .bool false, .int .i64 0]) (by simp [results, Try.results10, go_sem]) rfl ⟨rfl, by go_grown⟩
  by_cases h7 : 1073741824 ≤ rw
  · rw [show takeZ re rw pe pn body = (re, rw, false, 0) from by unfold takeZ; rw [if_neg h4'', if_neg (by simpa using h5), if_pos (.inr h7)]]
    go_enter Try.func10, Try.ntmps10
    go_wp2_with (go_at_call 25; refine (in_any _ _ _ _).mono ?_; rintro e w' ⟨rfl, rfl⟩)
    exact bodyPost_ret (v := .tuple #[.agg #[.int .i64 re, .int .i64 rw], .bool false, .int .i64 0]) (by simp [results, Try.results10, go_sem]) rfl ⟨rfl, by go_grown⟩
  · rw [show takeZ re rw pe pn body = (re, (rw + 1), true, 0) from by unfold takeZ; simp at h6; rw [if_neg h4'', if_neg (by simpa using h5), if_neg (by omega)]]
    go_enter Try.func10, Try.ntmps10
    go_wp2_with (go_at_call 25; refine (in_any _ _ _ _).mono ?_; rintro e w' ⟨rfl, rfl⟩)
    exact bodyPost_ret (v := .tuple #[.agg #[.int .i64 re, .int .i64 (rw + 1)], .bool true, .int .i64 0]) (by simp [results, Try.results10, go_sem]) rfl ⟨rfl, by go_grown⟩


/-- Both ends of an epoch. -/
def OpenPost (ep : Int) (w : World) (e : Ending) (w' : World) : Prop :=
  e = .returned (.tuple #[.agg #[.int .i64 (if withinB ep 0 1073741824 then ep else 0), .int .i64 0, .slice none 0 0, .int .i64 0], .agg #[.int .i64 (if withinB ep 0 1073741824 then ep else 0), .int .i64 0], .int .i64 (if withinB ep 0 1073741824 then 0 else 1)]) ∧ Below w.heap.size w w'
set_option maxHeartbeats 1000000 in
theorem open_any (ep : Int) (w : World) : Calls Try.prog 11 #[.int .i64 ep] w (OpenPost ep w) := by
  unfold OpenPost
  cases h : withinB ep 0 1073741824
  · go_enter Try.func11, Try.ntmps11
    go_wp2_with (go_at_call 24; refine (within_any _ _ _ _).mono ?_; rintro e w' ⟨rfl, rfl⟩)
    refine bodyPost_ret (v := .tuple #[.agg #[.int .i64 0, .int .i64 0, .slice none 0 0, .int .i64 0], .agg #[.int .i64 0, .int .i64 0], .int .i64 1]) (by simp [results, Try.results11, go_sem]) rfl ⟨?_, by go_grown⟩
    simp
  · go_enter Try.func11, Try.ntmps11
    go_wp2_with (go_at_call 24; refine (within_any _ _ _ _).mono ?_; rintro e w' ⟨rfl, rfl⟩)
    refine bodyPost_ret (v := .tuple #[.agg #[.int .i64 ep, .int .i64 0, .slice none 0 0, .int .i64 0], .agg #[.int .i64 ep, .int .i64 0], .int .i64 0]) (by simp [results, Try.results11, go_sem]) rfl ⟨?_, by go_grown⟩
    simp

theorem right_empty : rightB ⟨0, 0, [], 0⟩ = true := by decide
set_option maxHeartbeats 1000000 in
theorem alive_any (w : World) : Calls Try.prog 12 #[] w fun e w' => e = .returned (.bool true) ∧ Below w.heap.size w w' := by
  go_enter Try.func12, Try.ntmps12
  go_wp2_with (go_at_call 14; refine (right_any 0 0 0 [] none 0 0 _ Reads.none_ (by omega) (by simp)).mono ?_; rw [right_empty]; rintro e w' ⟨rfl, hb⟩)
  go_ret
  exact ⟨rfl, hb⟩

set_option maxHeartbeats 1000000 in
/-- Two senders that read as the same one are alike. -/
theorem like_same (ep base timer : Int) (zs : List ByteArray) (A B : Option Addr) (n c d : Nat) (w : World) (ha : Reads w w.heap.size 1 A n (zs.map Value.string)) (hb : Reads w w.heap.size 1 B n (zs.map Value.string)) (hm : n ≤ 9223372036854775807) :
    Calls Try.prog 13 #[.agg #[.int .i64 ep, .int .i64 base, .slice A n c, .int .i64 timer], .agg #[.int .i64 ep, .int .i64 base, .slice B n d, .int .i64 timer]] w fun e w' => e = .returned (.bool true) ∧ Below w.heap.size w w' := by
  go_enter Try.func13, Try.ntmps13
  go_wp2
  go_loopw [37] (fun i wr => ∃ k : Nat, k ≤ n ∧ i = .int .i64 k ∧ Below w.heap.size w wr ∧ Blk wr w.heap.size 31 #[.int .i64 ep, .int .i64 base, .slice A n c, .int .i64 timer] ∧ Blk wr (w.heap.size + 1) 31 #[.int .i64 ep, .int .i64 base, .slice B n d, .int .i64 timer])
    (fun i _ => n - (intOf i).toNat)
  case atStart => exact ⟨0, Nat.zero_le _, rfl, by go_grown, (Blk.new _ _ _).alloc _, by simpa using Blk.new (w.alloc (.cells #[.int .i64 ep, .int .i64 base, .slice A n c, .int .i64 timer] 31)) 31 #[.int .i64 ep, .int .i64 base, .slice B n d, .int .i64 timer]⟩
  case round =>
    obtain ⟨k, hk, rfl, hB, kA, kB⟩ := hrel
    have a2 := kA.cell 2
    have b2 := kB.cell 2
    simp at a2 b2
    by_cases hlt : k < n
    · obtain ⟨ad, hl, rfl, hc⟩ := strs_at (ha.below hB) hlt
      obtain ⟨bd, hl', rfl, hd⟩ := strs_at (hb.below hB) hlt
      go_wp2_with fail
      go_quiet (fail)
      go_wp2
      go_roundw
      case rel => exact ⟨k + 1, by omega, by go_num, below_drewN hB nq, kA.drewN nq, kB.drewN nq⟩
      case measure => simp [intOf]; omega
    · go_wp2
      go_ret
      exact ⟨rfl, hB⟩
end Go.Proofs.Ytplodggiifachaa
