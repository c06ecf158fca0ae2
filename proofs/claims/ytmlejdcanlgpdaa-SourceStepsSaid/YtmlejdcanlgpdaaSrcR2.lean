/- Walk of the source reference's Tick, the leaves with a store. -/
import Derived.Test.YtmlejdcanlgpdaaSrcR
import Derived.Deep.CutRange
namespace Go.Proofs.Ytmlejdcanlgpdaa
open Go.RowKit
set_option linter.unusedVariables false
set_option linter.unusedSimpArgs false

/-- The reference's Next and Tick in their midst: the job, the source, the result's place, the row that is told. -/
structure RefSt (j : Jb) (E : Value) (done mark quiet : Int) (ended : Bool) (v : Value) (xs : List It) (base : Nat) (w W : World) : Prop where
  bj : Blk W w.heap.size 23 #[.int .i64 j.groups, .int .i64 j.size, .int .i64 j.slide, .int .i64 j.fold, .int .i64 j.fuel, .int .i64 j.limit, .int .i64 j.delay, .int .i64 j.idle]
  bs : Blk W (w.heap.size + 1) 26 #[E, .int .i64 done, .int .i64 mark, .int .i64 quiet, .bool ended]
  br : Blk W (w.heap.size + 1 + 1) 26 #[.slice none 0 0, .int .i64 0, .int .i64 0, .int .i64 0, .bool false]
  own : W.ownsRow base 43 11 v xs.length (itms xs)
  lo : w.heap.size + 1 + 1 < base
  hi : base ≤ W.heap.size
  below : Below w.heap.size w W
section
variable {j : Jb} {E : Value} {done mark quiet : Int} {ended : Bool} {v v' : Value} {xs : List It} {base : Nat} {w W w3 : World}
theorem RefSt.app (h : RefSt j E done mark quiet ended v xs base w W) {x : It} (ho : w3.ownsRow base 43 11 v' (xs.length + 1) (itms xs ++ x.vals)) (hg : (W.alloc (.cells #[.int .i64 x.kind, .string x.ev.key, .int .i64 x.ev.at_, .int .i64 x.ev.v, .int .i64 x.mark, .int .i64 0, .int .i64 0, .int .i64 0, .string ⟨#[]⟩, .int .i64 0, .int .i64 0] 43)).grownBy w3 v.ownBlock) : RefSt j E done mark quiet ended v' (xs ++ [x]) base w w3 := by
  have lo := h.lo
  have hi := h.hi
  have o := h.own.alloc (.cells #[.int .i64 x.kind, .string x.ev.key, .int .i64 x.ev.at_, .int .i64 x.ev.v, .int .i64 x.mark, .int .i64 0, .int .i64 0, .int .i64 0, .string ⟨#[]⟩, .int .i64 0, .int .i64 0] 43)
  refine ⟨blk_far (h.bj.alloc _) o (by omega) hg, blk_far (h.bs.alloc _) o (by omega) hg, blk_far (h.br.alloc _) o (by omega) hg, ?_, lo, ?_, ?_⟩
  · rw [itms_append, List.length_append]
    exact ho
  · have := hg.size
    simp at this
    omega
  · exact (h.below.alloc h.below.size _).grown hg (by simp; omega) (fun g e => by have := (h.own.lt g e).1; omega)
theorem RefSt.to (h : RefSt j E done mark quiet ended v xs base w W) (hb : Below W.heap.size W w3) : RefSt j E done mark quiet ended v xs base w w3 :=
  ⟨h.bj.below hb h.bj.lt, h.bs.below hb h.bs.lt, h.br.below hb h.br.lt, own_below h.own hb, h.lo, Nat.le_trans h.hi hb.size, h.below.trans (hb.mono h.below.size)⟩
theorem RefSt.drewN (h : RefSt j E done mark quiet ended v xs base w W) (k : Nat) : RefSt j E done mark quiet ended v xs base w (W.drewN k) := ⟨h.bj, h.bs, h.br, h.own, h.lo, h.hi, below_drewN h.below k⟩
/-- A store into the source's block. -/
theorem RefSt.set (h : RefSt j E done mark quiet ended v xs base w W) (o : Nat) (u : Value) {done' mark' quiet' : Int} {ended' : Bool} (hs : #[E, .int .i64 done, .int .i64 mark, .int .i64 quiet, .bool ended].setIfInBounds o u = #[E, .int .i64 done', .int .i64 mark', .int .i64 quiet', .bool ended']) :
    RefSt j E done' mark' quiet' ended' v xs base w (W.setCell ⟨w.heap.size + 1, o, none⟩ u) :=
  ⟨h.bj.far (p := ⟨w.heap.size + 1, o, none⟩) (by simp) u, hs ▸ h.bs.set_ o u, h.br.far (p := ⟨w.heap.size + 1, o, none⟩) (by simp) u, own_set h.own u (by have := h.lo; show w.heap.size + 1 < base; omega), h.lo, by simpa using h.hi, h.below.setCell (p := ⟨w.heap.size + 1, o, none⟩) (by simp) u⟩
end

set_option maxHeartbeats 1000000 in
theorem refTick_d (j : Jb) (s : Sr) (A : Option Addr) (n c : Nat) (w : World) (hj : j.Wf) (hs : s.Wf) (hr : Reads w w.heap.size 3 A n (evs s.evs)) (hm : n ≤ 9223372036854775807) (hC0 : checkS j s = 0) (h1 : (j.idle == 0) = false) (h2 : s.ended = false) (h3 : 0 ≤ s.quiet ∧ s.quiet < 1048576) (h4 : (s.quiet + 1 == j.idle) = false) :
    Calls Try.prog 12 #[.agg #[.int .i64 j.groups, .int .i64 j.size, .int .i64 j.slide, .int .i64 j.fold, .int .i64 j.fuel, .int .i64 j.limit, .int .i64 j.delay, .int .i64 j.idle], .agg #[.slice A n c, .int .i64 s.done, .int .i64 s.mark, .int .i64 s.quiet, .bool s.ended]] w (StepPost A n c ((⟨s.evs, s.done, s.mark, s.quiet + 1, s.ended⟩ : Sr), [], 0) w) := by
    have hw : IntKind.i64.wrap (s.quiet + 1) = s.quiet + 1 := IntWalk.i64_in _ (by omega)
    have hlq := h3.2
    have H2 := Lib.hid h2
    clear h2
    go_enter Try.func12, Try.ntmps12
    go_wp2_with fail
    refine (checkS_any j s A n c _ hj hs (reads_alloc (reads_alloc (reads_alloc hr))) hm).mono ?_
    rw [hC0]
    rintro e w1 ⟨rfl, hb1⟩
    obtain ⟨c1, f1⟩ := bcell hb1
    have y1 := hb1.size
    try simp at y1
    have z0_0_1 : w.heap.size < w1.heap.size := by omega
    have z0_1_1 : w.heap.size + 1 < w1.heap.size := by omega
    have z0_2_1 : w.heap.size + 1 + 1 < w1.heap.size := by omega
    have k1 : Below w.heap.size w w1 := next_below (by go_grown) hb1
    have bJ1 : Blk w1 w.heap.size 23 _ := (((Blk.new w 23 #[.int .i64 j.groups, .int .i64 j.size, .int .i64 j.slide, .int .i64 j.fold, .int .i64 j.fuel, .int .i64 j.limit, .int .i64 j.delay, .int .i64 j.idle]).alloc (.cells #[.slice A n c, .int .i64 s.done, .int .i64 s.mark, .int .i64 s.quiet, .bool s.ended] 26)).alloc (.cells #[.slice none 0 0, .int .i64 0, .int .i64 0, .int .i64 0, .bool false] 26)).below hb1 (by simp; omega)
    have bS1 : Blk w1 (w.heap.size + 1) 26 #[.slice A n c, .int .i64 s.done, .int .i64 s.mark, .int .i64 s.quiet, .bool s.ended] := ((by simpa using (Blk.new (w.alloc (.cells #[.int .i64 j.groups, .int .i64 j.size, .int .i64 j.slide, .int .i64 j.fold, .int .i64 j.fuel, .int .i64 j.limit, .int .i64 j.delay, .int .i64 j.idle] 23)) 26 #[.slice A n c, .int .i64 s.done, .int .i64 s.mark, .int .i64 s.quiet, .bool s.ended]).alloc (.cells #[.slice none 0 0, .int .i64 0, .int .i64 0, .int .i64 0, .bool false] 26) : Blk _ (w.heap.size + 1) _ _)).below hb1 (by simp)
    have bR1 : Blk w1 (w.heap.size + 1 + 1) 26 #[.slice none 0 0, .int .i64 0, .int .i64 0, .int .i64 0, .bool false] := ((by simpa using Blk.new ((w.alloc (.cells #[.int .i64 j.groups, .int .i64 j.size, .int .i64 j.slide, .int .i64 j.fold, .int .i64 j.fuel, .int .i64 j.limit, .int .i64 j.delay, .int .i64 j.idle] 23)).alloc (.cells #[.slice A n c, .int .i64 s.done, .int .i64 s.mark, .int .i64 s.quiet, .bool s.ended] 26)) 26 #[.slice none 0 0, .int .i64 0, .int .i64 0, .int .i64 0, .bool false] : Blk _ (w.heap.size + 1 + 1) _ _)).below hb1 (by simp)
    have rr0 : w1.cell? ⟨w.heap.size + 1 + 1, 0, none⟩ = some (.slice none 0 0) := bR1.cell 0
    have rr1 : w1.cell? ⟨w.heap.size + 1 + 1, 1, none⟩ = some (.int .i64 0) := bR1.cell 1
    have rr2 : w1.cell? ⟨w.heap.size + 1 + 1, 2, none⟩ = some (.int .i64 0) := bR1.cell 2
    have rr3 : w1.cell? ⟨w.heap.size + 1 + 1, 3, none⟩ = some (.int .i64 0) := bR1.cell 3
    have rr4 : w1.cell? ⟨w.heap.size + 1 + 1, 4, none⟩ = some (.bool false) := bR1.cell 4
    have fR := bR1.frozen
    have s0 : w1.cell? ⟨w.heap.size + 1, 0, none⟩ = some (.slice A n c) := bS1.cell 0
    have s1 : w1.cell? ⟨w.heap.size + 1, 1, none⟩ = some (.int .i64 s.done) := bS1.cell 1
    have s2 : w1.cell? ⟨w.heap.size + 1, 2, none⟩ = some (.int .i64 s.mark) := bS1.cell 2
    have s3 : w1.cell? ⟨w.heap.size + 1, 3, none⟩ = some (.int .i64 s.quiet) := bS1.cell 3
    have s4 : w1.cell? ⟨w.heap.size + 1, 4, none⟩ = some (.bool s.ended) := bS1.cell 4
    have fS := bS1.frozen
    clear c1 f1
    clear hC0
    rw [H2.out] at s4
    have j7 : w1.cell? ⟨w.heap.size, 7, none⟩ = some (.int .i64 j.idle) := bJ1.cell 7
    go_upto_region 10 with fail
    have st0 : RefSt j (.slice A n c) s.done s.mark s.quiet s.ended (.slice (some ⟨w1.heap.size, 0, none⟩) 0 0) [] w1.heap.size w (w1.alloc (.cells #[] 43)) := ⟨bJ1.alloc _, bS1.alloc _, bR1.alloc _, World.ownsRow_made w1 #[] 0 (Nat.le_refl _) (by unfold maxLen; omega) rfl, by omega, by simp, k1.alloc k1.size _⟩
    have st := st0.set 3 (.int .i64 (s.quiet + 1)) (quiet' := s.quiet + 1) rfl
    rw [World.setCell_alloc_past _ _ _ _ z0_1_1] at st
    have j7' := st.bj.cell 7
    simp at j7'
    clear st0 bJ1 bS1 bR1 hb1 k1 j7
    clear s0 s1 s2 s3 s4 rr0 rr1 rr2 rr3 rr4 fR fS
    generalize (w1.setCell ⟨w.heap.size + 1, 3, none⟩ (.int .i64 (s.quiet + 1))).alloc (.cells #[] 43) = V at *
    generalize w1.heap.size = bo at *
    have s0 : V.cell? ⟨w.heap.size + 1, 0, none⟩ = some (.slice A n c) := st.bs.cell 0
    have s1 : V.cell? ⟨w.heap.size + 1, 1, none⟩ = some (.int .i64 s.done) := st.bs.cell 1
    have s2 : V.cell? ⟨w.heap.size + 1, 2, none⟩ = some (.int .i64 s.mark) := st.bs.cell 2
    have s3 : V.cell? ⟨w.heap.size + 1, 3, none⟩ = some (.int .i64 (s.quiet + 1)) := st.bs.cell 3
    have s4 : V.cell? ⟨w.heap.size + 1, 4, none⟩ = some (.bool s.ended) := st.bs.cell 4
    have rr0 : V.cell? ⟨w.heap.size + 1 + 1, 0, none⟩ = some (.slice none 0 0) := st.br.cell 0
    have rr1 : V.cell? ⟨w.heap.size + 1 + 1, 1, none⟩ = some (.int .i64 0) := st.br.cell 1
    have rr2 : V.cell? ⟨w.heap.size + 1 + 1, 2, none⟩ = some (.int .i64 0) := st.br.cell 2
    have rr3 : V.cell? ⟨w.heap.size + 1 + 1, 3, none⟩ = some (.int .i64 0) := st.br.cell 3
    have rr4 : V.cell? ⟨w.heap.size + 1 + 1, 4, none⟩ = some (.bool false) := st.br.cell 4
    have fR := st.br.frozen
    have fS := st.bs.frozen
    go_wp2
    have bZ := ((((st.br.set_ 0 (.slice A n c)).set_ 1 (.int .i64 s.done)).set_ 2 (.int .i64 s.mark)).set_ 3 (.int .i64 (s.quiet + 1))).set_ 4 (.bool s.ended)
    have e0 : World.cell? _ ⟨w.heap.size + 1 + 1, 0, none⟩ = some (.slice A n c) := bZ.cell 0
    have e1 : World.cell? _ ⟨w.heap.size + 1 + 1, 1, none⟩ = some (.int .i64 s.done) := bZ.cell 1
    have e2 : World.cell? _ ⟨w.heap.size + 1 + 1, 2, none⟩ = some (.int .i64 s.mark) := bZ.cell 2
    have e3 : World.cell? _ ⟨w.heap.size + 1 + 1, 3, none⟩ = some (.int .i64 (s.quiet + 1)) := bZ.cell 3
    have e4 : World.cell? _ ⟨w.heap.size + 1 + 1, 4, none⟩ = some (.bool s.ended) := bZ.cell 4
    have kB := st.below
    have kO := st.own
    have zR := st.lo
    refine bodyPost_ret (v := .tuple #[.agg #[(.slice A n c), (.int .i64 s.done), (.int .i64 s.mark), (.int .i64 (s.quiet + 1)), (.bool s.ended)], .slice (some ⟨bo, 0, none⟩) 0 0, .int .i64 0]) (by simp [results, Try.results12, go_sem, e0, e1, e2, e3, e4]) rfl ?_
    refine ⟨by go_grown, .inl ⟨rfl, .slice (some ⟨bo, 0, none⟩) 0 0, rfl, ?_⟩⟩
    exact own_mono (own_set (own_set (own_set (own_set (own_set kO (p := ⟨w.heap.size + 1 + 1, 0, none⟩) _ zR) (p := ⟨w.heap.size + 1 + 1, 1, none⟩) _ zR) (p := ⟨w.heap.size + 1 + 1, 2, none⟩) _ zR) (p := ⟨w.heap.size + 1 + 1, 3, none⟩) _ zR) (p := ⟨w.heap.size + 1 + 1, 4, none⟩) _ zR) (by omega)

set_option maxHeartbeats 1000000 in
theorem refTick_e (j : Jb) (s : Sr) (A : Option Addr) (n c : Nat) (w : World) (hj : j.Wf) (hs : s.Wf) (hr : Reads w w.heap.size 3 A n (evs s.evs)) (hm : n ≤ 9223372036854775807) (hC0 : checkS j s = 0) (h1 : (j.idle == 0) = false) (h2 : s.ended = false) (h3 : 0 ≤ s.quiet ∧ s.quiet < 1048576) (h4 : (s.quiet + 1 == j.idle) = true) :
    Calls Try.prog 12 #[.agg #[.int .i64 j.groups, .int .i64 j.size, .int .i64 j.slide, .int .i64 j.fold, .int .i64 j.fuel, .int .i64 j.limit, .int .i64 j.delay, .int .i64 j.idle], .agg #[.slice A n c, .int .i64 s.done, .int .i64 s.mark, .int .i64 s.quiet, .bool s.ended]] w (StepPost A n c ((⟨s.evs, s.done, s.mark, s.quiet + 1, s.ended⟩ : Sr), [noIt 3], 0) w) := by
    have hne : (s.quiet != j.idle) = true := by simp at h4; simp; omega
    obtain ⟨i0, hi0, hz0, hz1, hz2⟩ := info_parts infoItm
    have hw : IntKind.i64.wrap (s.quiet + 1) = s.quiet + 1 := IntWalk.i64_in _ (by omega)
    have hlq := h3.2
    have H2 := Lib.hid h2
    clear h2
    go_enter Try.func12, Try.ntmps12
    go_wp2_with fail
    refine (checkS_any j s A n c _ hj hs (reads_alloc (reads_alloc (reads_alloc hr))) hm).mono ?_
    rw [hC0]
    rintro e w1 ⟨rfl, hb1⟩
    obtain ⟨c1, f1⟩ := bcell hb1
    have y1 := hb1.size
    try simp at y1
    have z0_0_1 : w.heap.size < w1.heap.size := by omega
    have z0_1_1 : w.heap.size + 1 < w1.heap.size := by omega
    have z0_2_1 : w.heap.size + 1 + 1 < w1.heap.size := by omega
    have k1 : Below w.heap.size w w1 := next_below (by go_grown) hb1
    have bJ1 : Blk w1 w.heap.size 23 _ := (((Blk.new w 23 #[.int .i64 j.groups, .int .i64 j.size, .int .i64 j.slide, .int .i64 j.fold, .int .i64 j.fuel, .int .i64 j.limit, .int .i64 j.delay, .int .i64 j.idle]).alloc (.cells #[.slice A n c, .int .i64 s.done, .int .i64 s.mark, .int .i64 s.quiet, .bool s.ended] 26)).alloc (.cells #[.slice none 0 0, .int .i64 0, .int .i64 0, .int .i64 0, .bool false] 26)).below hb1 (by simp; omega)
    have bS1 : Blk w1 (w.heap.size + 1) 26 #[.slice A n c, .int .i64 s.done, .int .i64 s.mark, .int .i64 s.quiet, .bool s.ended] := ((by simpa using (Blk.new (w.alloc (.cells #[.int .i64 j.groups, .int .i64 j.size, .int .i64 j.slide, .int .i64 j.fold, .int .i64 j.fuel, .int .i64 j.limit, .int .i64 j.delay, .int .i64 j.idle] 23)) 26 #[.slice A n c, .int .i64 s.done, .int .i64 s.mark, .int .i64 s.quiet, .bool s.ended]).alloc (.cells #[.slice none 0 0, .int .i64 0, .int .i64 0, .int .i64 0, .bool false] 26) : Blk _ (w.heap.size + 1) _ _)).below hb1 (by simp)
    have bR1 : Blk w1 (w.heap.size + 1 + 1) 26 #[.slice none 0 0, .int .i64 0, .int .i64 0, .int .i64 0, .bool false] := ((by simpa using Blk.new ((w.alloc (.cells #[.int .i64 j.groups, .int .i64 j.size, .int .i64 j.slide, .int .i64 j.fold, .int .i64 j.fuel, .int .i64 j.limit, .int .i64 j.delay, .int .i64 j.idle] 23)).alloc (.cells #[.slice A n c, .int .i64 s.done, .int .i64 s.mark, .int .i64 s.quiet, .bool s.ended] 26)) 26 #[.slice none 0 0, .int .i64 0, .int .i64 0, .int .i64 0, .bool false] : Blk _ (w.heap.size + 1 + 1) _ _)).below hb1 (by simp)
    have rr0 : w1.cell? ⟨w.heap.size + 1 + 1, 0, none⟩ = some (.slice none 0 0) := bR1.cell 0
    have rr1 : w1.cell? ⟨w.heap.size + 1 + 1, 1, none⟩ = some (.int .i64 0) := bR1.cell 1
    have rr2 : w1.cell? ⟨w.heap.size + 1 + 1, 2, none⟩ = some (.int .i64 0) := bR1.cell 2
    have rr3 : w1.cell? ⟨w.heap.size + 1 + 1, 3, none⟩ = some (.int .i64 0) := bR1.cell 3
    have rr4 : w1.cell? ⟨w.heap.size + 1 + 1, 4, none⟩ = some (.bool false) := bR1.cell 4
    have fR := bR1.frozen
    have s0 : w1.cell? ⟨w.heap.size + 1, 0, none⟩ = some (.slice A n c) := bS1.cell 0
    have s1 : w1.cell? ⟨w.heap.size + 1, 1, none⟩ = some (.int .i64 s.done) := bS1.cell 1
    have s2 : w1.cell? ⟨w.heap.size + 1, 2, none⟩ = some (.int .i64 s.mark) := bS1.cell 2
    have s3 : w1.cell? ⟨w.heap.size + 1, 3, none⟩ = some (.int .i64 s.quiet) := bS1.cell 3
    have s4 : w1.cell? ⟨w.heap.size + 1, 4, none⟩ = some (.bool s.ended) := bS1.cell 4
    have fS := bS1.frozen
    clear c1 f1
    clear hC0
    rw [H2.out] at s4
    have j7 : w1.cell? ⟨w.heap.size, 7, none⟩ = some (.int .i64 j.idle) := bJ1.cell 7
    go_upto_region 10 with fail
    have st0 : RefSt j (.slice A n c) s.done s.mark s.quiet s.ended (.slice (some ⟨w1.heap.size, 0, none⟩) 0 0) [] w1.heap.size w (w1.alloc (.cells #[] 43)) := ⟨bJ1.alloc _, bS1.alloc _, bR1.alloc _, World.ownsRow_made w1 #[] 0 (Nat.le_refl _) (by unfold maxLen; omega) rfl, by omega, by simp, k1.alloc k1.size _⟩
    have st := st0.set 3 (.int .i64 (s.quiet + 1)) (quiet' := s.quiet + 1) rfl
    rw [World.setCell_alloc_past _ _ _ _ z0_1_1] at st
    have j7' := st.bj.cell 7
    simp at j7'
    clear st0 bJ1 bS1 bR1 hb1 k1 j7
    clear s0 s1 s2 s3 s4 rr0 rr1 rr2 rr3 rr4 fR fS
    generalize (w1.setCell ⟨w.heap.size + 1, 3, none⟩ (.int .i64 (s.quiet + 1))).alloc (.cells #[] 43) = V at *
    generalize w1.heap.size = bo at *
    have s0 : V.cell? ⟨w.heap.size + 1, 0, none⟩ = some (.slice A n c) := st.bs.cell 0
    have s1 : V.cell? ⟨w.heap.size + 1, 1, none⟩ = some (.int .i64 s.done) := st.bs.cell 1
    have s2 : V.cell? ⟨w.heap.size + 1, 2, none⟩ = some (.int .i64 s.mark) := st.bs.cell 2
    have s3 : V.cell? ⟨w.heap.size + 1, 3, none⟩ = some (.int .i64 (s.quiet + 1)) := st.bs.cell 3
    have s4 : V.cell? ⟨w.heap.size + 1, 4, none⟩ = some (.bool s.ended) := st.bs.cell 4
    have rr0 : V.cell? ⟨w.heap.size + 1 + 1, 0, none⟩ = some (.slice none 0 0) := st.br.cell 0
    have rr1 : V.cell? ⟨w.heap.size + 1 + 1, 1, none⟩ = some (.int .i64 0) := st.br.cell 1
    have rr2 : V.cell? ⟨w.heap.size + 1 + 1, 2, none⟩ = some (.int .i64 0) := st.br.cell 2
    have rr3 : V.cell? ⟨w.heap.size + 1 + 1, 3, none⟩ = some (.int .i64 0) := st.br.cell 3
    have rr4 : V.cell? ⟨w.heap.size + 1 + 1, 4, none⟩ = some (.bool false) := st.br.cell 4
    have fR := st.br.frozen
    have fS := st.bs.frozen
    go_upto_region 12 with (at_builtin; refine wpList_append_any _ rfl (.tmp 47) (.tmp 49) 27 rfl _ 43 i0 _ 11 104 Try.underlying27 hi0 hz0 hz1 hz2 rfl (by decide) _ _ _ rfl (st.own.alloc _) (V.heap.size + 1) (some ⟨V.heap.size, 0, none⟩) 1 1 #[.int .i64 3, .string ⟨#[]⟩, .int .i64 0, .int .i64 0, .int .i64 0, .int .i64 0, .int .i64 0, .int .i64 0, .string ⟨#[]⟩, .int .i64 0, .int .i64 0].toList rfl ⟨rfl, fun _ => ⟨_, rfl, by simp, cell_new _ _ _⟩⟩ (by simp [Value.oneCell']) (by simp; unfold maxLen; omega) (by simp) (by have := st.hi; simp; omega) ?_; intro v3 w3 hown hgrow hnb; have st3 := RefSt.app (x := ⟨3, ⟨⟨#[]⟩, 0, 0⟩, 0⟩) st hown hgrow)
    obtain ⟨A3, c3, rfl⟩ := own_form st3.own
    clear s0 s1 s2 s3 s4 rr0 rr1 rr2 rr3 rr4 fR fS
    have s0 : w3.cell? ⟨w.heap.size + 1, 0, none⟩ = some (.slice A n c) := st3.bs.cell 0
    have s1 : w3.cell? ⟨w.heap.size + 1, 1, none⟩ = some (.int .i64 s.done) := st3.bs.cell 1
    have s2 : w3.cell? ⟨w.heap.size + 1, 2, none⟩ = some (.int .i64 s.mark) := st3.bs.cell 2
    have s3 : w3.cell? ⟨w.heap.size + 1, 3, none⟩ = some (.int .i64 (s.quiet + 1)) := st3.bs.cell 3
    have s4 : w3.cell? ⟨w.heap.size + 1, 4, none⟩ = some (.bool s.ended) := st3.bs.cell 4
    have rr0 : w3.cell? ⟨w.heap.size + 1 + 1, 0, none⟩ = some (.slice none 0 0) := st3.br.cell 0
    have rr1 : w3.cell? ⟨w.heap.size + 1 + 1, 1, none⟩ = some (.int .i64 0) := st3.br.cell 1
    have rr2 : w3.cell? ⟨w.heap.size + 1 + 1, 2, none⟩ = some (.int .i64 0) := st3.br.cell 2
    have rr3 : w3.cell? ⟨w.heap.size + 1 + 1, 3, none⟩ = some (.int .i64 0) := st3.br.cell 3
    have rr4 : w3.cell? ⟨w.heap.size + 1 + 1, 4, none⟩ = some (.bool false) := st3.br.cell 4
    have fR := st3.br.frozen
    have fS := st3.bs.frozen
    go_wp2
    have bZ := ((((st3.br.set_ 0 (.slice A n c)).set_ 1 (.int .i64 s.done)).set_ 2 (.int .i64 s.mark)).set_ 3 (.int .i64 (s.quiet + 1))).set_ 4 (.bool s.ended)
    have e0 : World.cell? _ ⟨w.heap.size + 1 + 1, 0, none⟩ = some (.slice A n c) := bZ.cell 0
    have e1 : World.cell? _ ⟨w.heap.size + 1 + 1, 1, none⟩ = some (.int .i64 s.done) := bZ.cell 1
    have e2 : World.cell? _ ⟨w.heap.size + 1 + 1, 2, none⟩ = some (.int .i64 s.mark) := bZ.cell 2
    have e3 : World.cell? _ ⟨w.heap.size + 1 + 1, 3, none⟩ = some (.int .i64 (s.quiet + 1)) := bZ.cell 3
    have e4 : World.cell? _ ⟨w.heap.size + 1 + 1, 4, none⟩ = some (.bool s.ended) := bZ.cell 4
    have kB := st3.below
    have kO := st3.own
    have zR := st3.lo
    refine bodyPost_ret (v := .tuple #[.agg #[(.slice A n c), (.int .i64 s.done), (.int .i64 s.mark), (.int .i64 (s.quiet + 1)), (.bool s.ended)], .slice A3 1 c3, .int .i64 0]) (by simp [results, Try.results12, go_sem, e0, e1, e2, e3, e4]) rfl ?_
    refine ⟨by go_grown, .inl ⟨rfl, .slice A3 1 c3, rfl, ?_⟩⟩
    exact own_mono (own_set (own_set (own_set (own_set (own_set kO (p := ⟨w.heap.size + 1 + 1, 0, none⟩) _ zR) (p := ⟨w.heap.size + 1 + 1, 1, none⟩) _ zR) (p := ⟨w.heap.size + 1 + 1, 2, none⟩) _ zR) (p := ⟨w.heap.size + 1 + 1, 3, none⟩) _ zR) (p := ⟨w.heap.size + 1 + 1, 4, none⟩) _ zR) (by omega)

end Go.Proofs.Ytmlejdcanlgpdaa
