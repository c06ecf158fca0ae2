/- Walks of source.Next and source.Tick, and of the law's alive. -/
import Derived.Test.YtmlejdcanlgpdaaSrc7
namespace Go.Proofs.Ytmlejdcanlgpdaa
open Go.RowKit
set_option linter.unusedVariables false
set_option linter.unusedSimpArgs false

set_option maxHeartbeats 2000000 in
theorem nextP_any (j : Jb) (s : Sr) (A : Option Addr) (n c : Nat) (w : World) (hj : j.Wf) (hs : s.Wf) (hr : Reads w w.heap.size 3 A n (evs s.evs)) (hm : n ≤ 9223372036854775807) :
    Calls Try.prog 9 #[.agg #[.int .i64 j.groups, .int .i64 j.size, .int .i64 j.slide, .int .i64 j.fold, .int .i64 j.fuel, .int .i64 j.limit, .int .i64 j.delay, .int .i64 j.idle], .agg #[.slice A n c, .int .i64 s.done, .int .i64 s.mark, .int .i64 s.quiet, .bool s.ended]] w (StepPost A n c (nextR j s) w) := by
  obtain ⟨r, hr'⟩ : ∃ r, nextR j s = r := ⟨_, rfl⟩
  rw [hr']
  go_enter Try.func9, Try.ntmps9
  go_wp2_with fail
  refine (stepN_any j s A n c _ hj hs (reads_alloc (reads_alloc (reads_alloc hr))) hm).mono ?_
  rw [hr']
  clear hr'
  rintro e w1 ⟨hb1, (⟨hz, v1, rfl, hO⟩ | ⟨hz, rfl⟩)⟩
  all_goals
    have bR1 : Blk w1 (w.heap.size + 1 + 1) 26 #[.slice none 0 0, .int .i64 0, .int .i64 0, .int .i64 0, .bool false] := ((by simpa using Blk.new ((w.alloc (.cells #[.int .i64 j.groups, .int .i64 j.size, .int .i64 j.slide, .int .i64 j.fold, .int .i64 j.fuel, .int .i64 j.limit, .int .i64 j.delay, .int .i64 j.idle] 23)).alloc (.cells #[.slice A n c, .int .i64 s.done, .int .i64 s.mark, .int .i64 s.quiet, .bool s.ended] 26)) 26 #[.slice none 0 0, .int .i64 0, .int .i64 0, .int .i64 0, .bool false] : Blk _ (w.heap.size + 1 + 1) _ _)).below hb1 (by simp)
    have rr0 : w1.cell? ⟨w.heap.size + 1 + 1, 0, none⟩ = some (.slice none 0 0) := bR1.cell 0
    have rr1 : w1.cell? ⟨w.heap.size + 1 + 1, 1, none⟩ = some (.int .i64 0) := bR1.cell 1
    have rr2 : w1.cell? ⟨w.heap.size + 1 + 1, 2, none⟩ = some (.int .i64 0) := bR1.cell 2
    have rr3 : w1.cell? ⟨w.heap.size + 1 + 1, 3, none⟩ = some (.int .i64 0) := bR1.cell 3
    have rr4 : w1.cell? ⟨w.heap.size + 1 + 1, 4, none⟩ = some (.bool false) := bR1.cell 4
    have fR := bR1.frozen
    have y1 := hb1.size
    simp at y1
    have k1 : Below w.heap.size w w1 := next_below (by go_grown) hb1
    have HZ := Lib.hid hz
    clear hz
    go_wp2
  · simp at hO
    have zR : w.heap.size + 1 + 1 < w.heap.size + 1 + 1 + 1 := by omega
    have bZ := ((((bR1.set_ 0 (.slice A n c)).set_ 1 (.int .i64 r.1.done)).set_ 2 (.int .i64 r.1.mark)).set_ 3 (.int .i64 r.1.quiet)).set_ 4 (.bool r.1.ended)
    have e0 : World.cell? _ ⟨w.heap.size + 1 + 1, 0, none⟩ = some (.slice A n c) := bZ.cell 0
    have e1 : World.cell? _ ⟨w.heap.size + 1 + 1, 1, none⟩ = some (.int .i64 r.1.done) := bZ.cell 1
    have e2 : World.cell? _ ⟨w.heap.size + 1 + 1, 2, none⟩ = some (.int .i64 r.1.mark) := bZ.cell 2
    have e3 : World.cell? _ ⟨w.heap.size + 1 + 1, 3, none⟩ = some (.int .i64 r.1.quiet) := bZ.cell 3
    have e4 : World.cell? _ ⟨w.heap.size + 1 + 1, 4, none⟩ = some (.bool r.1.ended) := bZ.cell 4
    refine bodyPost_ret (v := .tuple #[.agg #[(.slice A n c), (.int .i64 r.1.done), (.int .i64 r.1.mark), (.int .i64 r.1.quiet), (.bool r.1.ended)], v1, .int .i64 0]) (by simp [results, Try.results9, go_sem, e0, e1, e2, e3, e4]) rfl ?_
    refine ⟨by go_grown, .inl ⟨HZ.out, v1, rfl, ?_⟩⟩
    exact own_mono (own_set (own_set (own_set (own_set (own_set hO (p := ⟨w.heap.size + 1 + 1, 0, none⟩) _ zR) (p := ⟨w.heap.size + 1 + 1, 1, none⟩) _ zR) (p := ⟨w.heap.size + 1 + 1, 2, none⟩) _ zR) (p := ⟨w.heap.size + 1 + 1, 3, none⟩) _ zR) (p := ⟨w.heap.size + 1 + 1, 4, none⟩) _ zR) (by omega)
  · have bZ := ((((bR1.set_ 0 (.slice none 0 0)).set_ 1 (.int .i64 0)).set_ 2 (.int .i64 0)).set_ 3 (.int .i64 0)).set_ 4 (.bool false)
    have e0 : World.cell? _ ⟨w.heap.size + 1 + 1, 0, none⟩ = some (.slice none 0 0) := bZ.cell 0
    have e1 : World.cell? _ ⟨w.heap.size + 1 + 1, 1, none⟩ = some (.int .i64 0) := bZ.cell 1
    have e2 : World.cell? _ ⟨w.heap.size + 1 + 1, 2, none⟩ = some (.int .i64 0) := bZ.cell 2
    have e3 : World.cell? _ ⟨w.heap.size + 1 + 1, 3, none⟩ = some (.int .i64 0) := bZ.cell 3
    have e4 : World.cell? _ ⟨w.heap.size + 1 + 1, 4, none⟩ = some (.bool false) := bZ.cell 4
    refine bodyPost_ret (v := .tuple #[.agg #[(.slice none 0 0), (.int .i64 0), (.int .i64 0), (.int .i64 0), (.bool false)], .slice none 0 0, .int .i64 r.2.2]) (by simp [results, Try.results9, go_sem, e0, e1, e2, e3, e4]) rfl ?_
    exact ⟨by go_grown, .inr ⟨HZ.out, rfl⟩⟩

set_option maxHeartbeats 2000000 in
theorem tickP_any (j : Jb) (s : Sr) (A : Option Addr) (n c : Nat) (w : World) (hj : j.Wf) (hs : s.Wf) (hr : Reads w w.heap.size 3 A n (evs s.evs)) (hm : n ≤ 9223372036854775807) :
    Calls Try.prog 11 #[.agg #[.int .i64 j.groups, .int .i64 j.size, .int .i64 j.slide, .int .i64 j.fold, .int .i64 j.fuel, .int .i64 j.limit, .int .i64 j.delay, .int .i64 j.idle], .agg #[.slice A n c, .int .i64 s.done, .int .i64 s.mark, .int .i64 s.quiet, .bool s.ended]] w (StepPost A n c (tickR j s) w) := by
  obtain ⟨r, hr'⟩ : ∃ r, tickR j s = r := ⟨_, rfl⟩
  rw [hr']
  go_enter Try.func11, Try.ntmps11
  go_wp2_with fail
  refine (stepT_any j s A n c _ hj hs (reads_alloc (reads_alloc (reads_alloc hr))) hm).mono ?_
  rw [hr']
  clear hr'
  rintro e w1 ⟨hb1, (⟨hz, v1, rfl, hO⟩ | ⟨hz, rfl⟩)⟩
  all_goals
    have bR1 : Blk w1 (w.heap.size + 1 + 1) 26 #[.slice none 0 0, .int .i64 0, .int .i64 0, .int .i64 0, .bool false] := ((by simpa using Blk.new ((w.alloc (.cells #[.int .i64 j.groups, .int .i64 j.size, .int .i64 j.slide, .int .i64 j.fold, .int .i64 j.fuel, .int .i64 j.limit, .int .i64 j.delay, .int .i64 j.idle] 23)).alloc (.cells #[.slice A n c, .int .i64 s.done, .int .i64 s.mark, .int .i64 s.quiet, .bool s.ended] 26)) 26 #[.slice none 0 0, .int .i64 0, .int .i64 0, .int .i64 0, .bool false] : Blk _ (w.heap.size + 1 + 1) _ _)).below hb1 (by simp)
    have rr0 : w1.cell? ⟨w.heap.size + 1 + 1, 0, none⟩ = some (.slice none 0 0) := bR1.cell 0
    have rr1 : w1.cell? ⟨w.heap.size + 1 + 1, 1, none⟩ = some (.int .i64 0) := bR1.cell 1
    have rr2 : w1.cell? ⟨w.heap.size + 1 + 1, 2, none⟩ = some (.int .i64 0) := bR1.cell 2
    have rr3 : w1.cell? ⟨w.heap.size + 1 + 1, 3, none⟩ = some (.int .i64 0) := bR1.cell 3
    have rr4 : w1.cell? ⟨w.heap.size + 1 + 1, 4, none⟩ = some (.bool false) := bR1.cell 4
    have fR := bR1.frozen
    have y1 := hb1.size
    simp at y1
    have k1 : Below w.heap.size w w1 := next_below (by go_grown) hb1
    have HZ := Lib.hid hz
    clear hz
    go_wp2
  · simp at hO
    have zR : w.heap.size + 1 + 1 < w.heap.size + 1 + 1 + 1 := by omega
    have bZ := ((((bR1.set_ 0 (.slice A n c)).set_ 1 (.int .i64 r.1.done)).set_ 2 (.int .i64 r.1.mark)).set_ 3 (.int .i64 r.1.quiet)).set_ 4 (.bool r.1.ended)
    have e0 : World.cell? _ ⟨w.heap.size + 1 + 1, 0, none⟩ = some (.slice A n c) := bZ.cell 0
    have e1 : World.cell? _ ⟨w.heap.size + 1 + 1, 1, none⟩ = some (.int .i64 r.1.done) := bZ.cell 1
    have e2 : World.cell? _ ⟨w.heap.size + 1 + 1, 2, none⟩ = some (.int .i64 r.1.mark) := bZ.cell 2
    have e3 : World.cell? _ ⟨w.heap.size + 1 + 1, 3, none⟩ = some (.int .i64 r.1.quiet) := bZ.cell 3
    have e4 : World.cell? _ ⟨w.heap.size + 1 + 1, 4, none⟩ = some (.bool r.1.ended) := bZ.cell 4
    refine bodyPost_ret (v := .tuple #[.agg #[(.slice A n c), (.int .i64 r.1.done), (.int .i64 r.1.mark), (.int .i64 r.1.quiet), (.bool r.1.ended)], v1, .int .i64 0]) (by simp [results, Try.results11, go_sem, e0, e1, e2, e3, e4]) rfl ?_
    refine ⟨by go_grown, .inl ⟨HZ.out, v1, rfl, ?_⟩⟩
    exact own_mono (own_set (own_set (own_set (own_set (own_set hO (p := ⟨w.heap.size + 1 + 1, 0, none⟩) _ zR) (p := ⟨w.heap.size + 1 + 1, 1, none⟩) _ zR) (p := ⟨w.heap.size + 1 + 1, 2, none⟩) _ zR) (p := ⟨w.heap.size + 1 + 1, 3, none⟩) _ zR) (p := ⟨w.heap.size + 1 + 1, 4, none⟩) _ zR) (by omega)
  · have bZ := ((((bR1.set_ 0 (.slice none 0 0)).set_ 1 (.int .i64 0)).set_ 2 (.int .i64 0)).set_ 3 (.int .i64 0)).set_ 4 (.bool false)
    have e0 : World.cell? _ ⟨w.heap.size + 1 + 1, 0, none⟩ = some (.slice none 0 0) := bZ.cell 0
    have e1 : World.cell? _ ⟨w.heap.size + 1 + 1, 1, none⟩ = some (.int .i64 0) := bZ.cell 1
    have e2 : World.cell? _ ⟨w.heap.size + 1 + 1, 2, none⟩ = some (.int .i64 0) := bZ.cell 2
    have e3 : World.cell? _ ⟨w.heap.size + 1 + 1, 3, none⟩ = some (.int .i64 0) := bZ.cell 3
    have e4 : World.cell? _ ⟨w.heap.size + 1 + 1, 4, none⟩ = some (.bool false) := bZ.cell 4
    refine bodyPost_ret (v := .tuple #[.agg #[(.slice none 0 0), (.int .i64 0), (.int .i64 0), (.int .i64 0), (.bool false)], .slice none 0 0, .int .i64 r.2.2]) (by simp [results, Try.results11, go_sem, e0, e1, e2, e3, e4]) rfl ?_
    exact ⟨by go_grown, .inr ⟨HZ.out, rfl⟩⟩


def job0 : Jb := ⟨1, 1, 1, 2, 0, 0, 0, 0⟩
theorem next0 : nextR job0 zeroS = (⟨[], 0, 0, 0, true⟩, [markIt 1099511627776], 0) := rfl
set_option maxHeartbeats 1000000 in
theorem alive_any (w : World) : Calls Try.prog 13 #[] w fun e w' => e = .returned (.bool true) ∧ Below w.heap.size w w' := by
  go_enter Try.func13, Try.ntmps13
  go_wp2_with fail
  refine (nextP_any job0 zeroS none 0 0 _ ⟨by decide, by decide, by decide⟩ ⟨(fun z h => nomatch h), (fun z h => nomatch h)⟩ Reads.none_ (by omega)).mono ?_
  rw [next0]
  rintro e w1 ⟨hb1, (⟨_, v1, rfl, hO⟩ | ⟨hz, _⟩)⟩
  rotate_left
  · exact absurd rfl hz
  obtain ⟨A1, c1, rfl⟩ := own_form hO
  have k1 : Below w.heap.size w w1 := next_below (by go_grown) hb1
  have y1 := k1.size
  go_wp2
  go_ret
  exact ⟨by simp, by go_grown⟩
end Go.Proofs.Ytmlejdcanlgpdaa
