/- Walk of the source reference's Next, the steps by an event. -/
import Derived.Test.YtmlejdcanlgpdaaSrcR3
namespace Go.Proofs.Ytmlejdcanlgpdaa
open Go.RowKit
set_option linter.unusedVariables false
set_option linter.unusedSimpArgs false

set_option maxRecDepth 100000 in
set_option maxHeartbeats 2000000 in
theorem refNext_km (j : Jb) (s : Sr) (A : Option Addr) (n c : Nat) (w : World) (hj : j.Wf) (hs : s.Wf) (hr : Reads w w.heap.size 3 A n (evs s.evs)) (hm : n ≤ 9223372036854775807) (hC0 : checkS j s = 0) (h2 : s.ended = false) (k : Nat) (hk : s.done = k) (hlt : k < n) (hn : n ≤ 1000) (x : Ev) (hxe : ∀ h : k < s.evs.length, s.evs[k] = x) (rv : Int × Nat) (HR : Hid (runZ (maxZ j.limit) (fuelZ j.fuel).toNat x.v = rv)) (tz : Int) (HT : Hid (subZ x.at_ j.delay = tz)) (h3 : s.mark ≤ x.at_) (h5 : s.mark < tz) :
    Calls Try.prog 10 #[.agg #[.int .i64 j.groups, .int .i64 j.size, .int .i64 j.slide, .int .i64 j.fold, .int .i64 j.fuel, .int .i64 j.limit, .int .i64 j.delay, .int .i64 j.idle], .agg #[.slice A n c, .int .i64 s.done, .int .i64 s.mark, .int .i64 s.quiet, .bool s.ended]] w (StepPost A n c ((⟨s.evs, (k : Int) + 1, tz, 0, s.ended⟩ : Sr), [⟨1, ⟨x.key, x.at_, rv.1⟩, 0⟩, markIt tz], 0) w) := by
    have hk2 : ((k : Int) == (n : Int)) = false := by simp; omega
    have hw1 : IntKind.i64.wrap ((k : Int) + 1) = (k : Int) + 1 := IntWalk.i64_in _ (by omega)
    have HK := Lib.hid hk
    clear hk
    obtain ⟨i0, hi0, hz0, hz1, hz2⟩ := info_parts infoItm
    have H2 := Lib.hid h2
    clear h2
    go_enter Try.func10, Try.ntmps10
    go_wp2_with fail
    refine (checkS_any j s A n c _ hj hs (reads_alloc (reads_alloc (reads_alloc hr))) hm).mono ?_
    rw [hC0]
    rintro e w1 ⟨rfl, hb1⟩
    obtain ⟨c1, f1⟩ := bcell hb1
    have y1 := hb1.size
    try simp at y1
    have z0_0_1 : w.heap.size < w1.heap.size := by omega
    have z0_1_1 : w.heap.size + 1 < w1.heap.size := by omega
    have z0_2_1 : w.heap.size + 1 + 1 < w1.heap.size := by omega
    have k1 : Below w.heap.size w w1 := next_below (by go_grown) hb1
    have bJ1 : Blk w1 w.heap.size 23 _ := (((Blk.new w 23 #[.int .i64 j.groups, .int .i64 j.size, .int .i64 j.slide, .int .i64 j.fold, .int .i64 j.fuel, .int .i64 j.limit, .int .i64 j.delay, .int .i64 j.idle]).alloc (.cells #[.slice A n c, .int .i64 s.done, .int .i64 s.mark, .int .i64 s.quiet, .bool s.ended] 26)).alloc (.cells #[.slice none 0 0, .int .i64 0, .int .i64 0, .int .i64 0, .bool false] 26)).below hb1 (by simp; omega)
    have bS1 : Blk w1 (w.heap.size + 1) 26 #[.slice A n c, .int .i64 s.done, .int .i64 s.mark, .int .i64 s.quiet, .bool s.ended] := ((by simpa using (Blk.new (w.alloc (.cells #[.int .i64 j.groups, .int .i64 j.size, .int .i64 j.slide, .int .i64 j.fold, .int .i64 j.fuel, .int .i64 j.limit, .int .i64 j.delay, .int .i64 j.idle] 23)) 26 #[.slice A n c, .int .i64 s.done, .int .i64 s.mark, .int .i64 s.quiet, .bool s.ended]).alloc (.cells #[.slice none 0 0, .int .i64 0, .int .i64 0, .int .i64 0, .bool false] 26) : Blk _ (w.heap.size + 1) _ _)).below hb1 (by simp)
    have bR1 : Blk w1 (w.heap.size + 1 + 1) 26 #[.slice none 0 0, .int .i64 0, .int .i64 0, .int .i64 0, .bool false] := ((by simpa using Blk.new ((w.alloc (.cells #[.int .i64 j.groups, .int .i64 j.size, .int .i64 j.slide, .int .i64 j.fold, .int .i64 j.fuel, .int .i64 j.limit, .int .i64 j.delay, .int .i64 j.idle] 23)).alloc (.cells #[.slice A n c, .int .i64 s.done, .int .i64 s.mark, .int .i64 s.quiet, .bool s.ended] 26)) 26 #[.slice none 0 0, .int .i64 0, .int .i64 0, .int .i64 0, .bool false] : Blk _ (w.heap.size + 1 + 1) _ _)).below hb1 (by simp)
    have rr0 : w1.cell? ⟨w.heap.size + 1 + 1, 0, none⟩ = some (.slice none 0 0) := bR1.cell 0
    have rr1 : w1.cell? ⟨w.heap.size + 1 + 1, 1, none⟩ = some (.int .i64 0) := bR1.cell 1
    have rr2 : w1.cell? ⟨w.heap.size + 1 + 1, 2, none⟩ = some (.int .i64 0) := bR1.cell 2
    have rr3 : w1.cell? ⟨w.heap.size + 1 + 1, 3, none⟩ = some (.int .i64 0) := bR1.cell 3
    have rr4 : w1.cell? ⟨w.heap.size + 1 + 1, 4, none⟩ = some (.bool false) := bR1.cell 4
    have fR := bR1.frozen
    have s0 : w1.cell? ⟨w.heap.size + 1, 0, none⟩ = some (.slice A n c) := bS1.cell 0
    have s1 : w1.cell? ⟨w.heap.size + 1, 1, none⟩ = some (.int .i64 s.done) := bS1.cell 1
    have s2 : w1.cell? ⟨w.heap.size + 1, 2, none⟩ = some (.int .i64 s.mark) := bS1.cell 2
    have s3 : w1.cell? ⟨w.heap.size + 1, 3, none⟩ = some (.int .i64 s.quiet) := bS1.cell 3
    have s4 : w1.cell? ⟨w.heap.size + 1, 4, none⟩ = some (.bool s.ended) := bS1.cell 4
    have fS := bS1.frozen
    clear c1 f1
    clear hC0
    rw [H2.out] at s4
    go_upto_region 7 with fail
    have st0 : RefSt j (.slice A n c) s.done s.mark s.quiet s.ended (.slice (some ⟨w1.heap.size, 0, none⟩) 0 0) [] w1.heap.size w (w1.alloc (.cells #[] 43)) := ⟨bJ1.alloc _, bS1.alloc _, bR1.alloc _, World.ownsRow_made w1 #[] 0 (Nat.le_refl _) (by unfold maxLen; omega) rfl, by omega, by simp, k1.alloc k1.size _⟩
    clear bJ1 bS1 bR1
    have kV : Below w.heap.size w (w1.alloc (.cells #[] 43)) := st0.below
    clear hb1 k1
    clear s0 s1 s2 s3 s4 rr0 rr1 rr2 rr3 rr4 fR fS
    generalize w1.alloc (.cells #[] 43) = V at *
    generalize w1.heap.size = bo at *
    have lV := st0.bs.lt
    have s0 : V.cell? ⟨w.heap.size + 1, 0, none⟩ = some (.slice A n c) := st0.bs.cell 0
    have s1 : V.cell? ⟨w.heap.size + 1, 1, none⟩ = some (.int .i64 s.done) := st0.bs.cell 1
    have s2 : V.cell? ⟨w.heap.size + 1, 2, none⟩ = some (.int .i64 s.mark) := st0.bs.cell 2
    have s3 : V.cell? ⟨w.heap.size + 1, 3, none⟩ = some (.int .i64 s.quiet) := st0.bs.cell 3
    have s4 : V.cell? ⟨w.heap.size + 1, 4, none⟩ = some (.bool s.ended) := st0.bs.cell 4
    have rr0 : V.cell? ⟨w.heap.size + 1 + 1, 0, none⟩ = some (.slice none 0 0) := st0.br.cell 0
    have rr1 : V.cell? ⟨w.heap.size + 1 + 1, 1, none⟩ = some (.int .i64 0) := st0.br.cell 1
    have rr2 : V.cell? ⟨w.heap.size + 1 + 1, 2, none⟩ = some (.int .i64 0) := st0.br.cell 2
    have rr3 : V.cell? ⟨w.heap.size + 1 + 1, 3, none⟩ = some (.int .i64 0) := st0.br.cell 3
    have rr4 : V.cell? ⟨w.heap.size + 1 + 1, 4, none⟩ = some (.bool false) := st0.br.cell 4
    have fR := st0.br.frozen
    have fS := st0.bs.frozen
    rw [HK.out] at s1
    have j4 : V.cell? ⟨w.heap.size, 4, none⟩ = some (.int .i64 j.fuel) := st0.bj.cell 4
    obtain ⟨ad, hl', eA, had, x0, x1, x2⟩ := evs_get ((hr.below kV).more kV.size) hlt
    have hx := hs.v _ (List.getElem_mem hl')
    rw [hxe] at x0 x1 x2 hx
    subst eA
    have had' : (ad.add (k * 3)).block < V.heap.size := by rw [block_of_add]; exact had
    clear had hl' hxe
    go_upto_region 14 with fail
    have st1 := ((st0.set 1 (.int .i64 ((k : Int) + 1)) (done' := (k : Int) + 1) rfl).set 3 (.int .i64 0) (quiet' := 0) rfl)
    have zB : bo < V.heap.size := (st0.own.lt bo rfl).2
    have hSz : ((V.setCell ⟨w.heap.size + 1, 1, none⟩ (.int .i64 ((k : Int) + 1))).setCell ⟨w.heap.size + 1, 3, none⟩ (.int .i64 0)).heap.size = V.heap.size := by simp
    have st := st1.to (w3 := ((V.setCell ⟨w.heap.size + 1, 1, none⟩ (.int .i64 ((k : Int) + 1))).setCell ⟨w.heap.size + 1, 3, none⟩ (.int .i64 0)).alloc (.cells #[.string x.key, .int .i64 x.at_, .int .i64 x.v] 37)) (by go_grown)
    have bE : Blk (((V.setCell ⟨w.heap.size + 1, 1, none⟩ (.int .i64 ((k : Int) + 1))).setCell ⟨w.heap.size + 1, 3, none⟩ (.int .i64 0)).alloc (.cells #[.string x.key, .int .i64 x.at_, .int .i64 x.v] 37)) V.heap.size 37 #[.string x.key, .int .i64 x.at_, .int .i64 x.v] := by
      have h := Blk.new ((V.setCell ⟨w.heap.size + 1, 1, none⟩ (.int .i64 ((k : Int) + 1))).setCell ⟨w.heap.size + 1, 3, none⟩ (.int .i64 0)) 37 #[.string x.key, .int .i64 x.at_, .int .i64 x.v]
      rw [hSz] at h
      exact h
    clear st0 st1 kV j4 x0 x1 x2 had' hSz
    clear s0 s1 s2 s3 s4 rr0 rr1 rr2 rr3 rr4 fR fS
    generalize ((V.setCell ⟨w.heap.size + 1, 1, none⟩ (.int .i64 ((k : Int) + 1))).setCell ⟨w.heap.size + 1, 3, none⟩ (.int .i64 0)).alloc (.cells #[.string x.key, .int .i64 x.at_, .int .i64 x.v] 37) = U at *
    generalize V.heap.size = eb at *
    have s0 : U.cell? ⟨w.heap.size + 1, 0, none⟩ = some (.slice (some ad) n c) := st.bs.cell 0
    have s1 : U.cell? ⟨w.heap.size + 1, 1, none⟩ = some (.int .i64 ((k : Int) + 1)) := st.bs.cell 1
    have s2 : U.cell? ⟨w.heap.size + 1, 2, none⟩ = some (.int .i64 s.mark) := st.bs.cell 2
    have s3 : U.cell? ⟨w.heap.size + 1, 3, none⟩ = some (.int .i64 0) := st.bs.cell 3
    have s4 : U.cell? ⟨w.heap.size + 1, 4, none⟩ = some (.bool s.ended) := st.bs.cell 4
    have rr0 : U.cell? ⟨w.heap.size + 1 + 1, 0, none⟩ = some (.slice none 0 0) := st.br.cell 0
    have rr1 : U.cell? ⟨w.heap.size + 1 + 1, 1, none⟩ = some (.int .i64 0) := st.br.cell 1
    have rr2 : U.cell? ⟨w.heap.size + 1 + 1, 2, none⟩ = some (.int .i64 0) := st.br.cell 2
    have rr3 : U.cell? ⟨w.heap.size + 1 + 1, 3, none⟩ = some (.int .i64 0) := st.br.cell 3
    have rr4 : U.cell? ⟨w.heap.size + 1 + 1, 4, none⟩ = some (.bool false) := st.br.cell 4
    have fR := st.br.frozen
    have fS := st.bs.frozen
    have q0 : U.cell? ⟨eb, 0, none⟩ = some (.string x.key) := bE.cell 0
    have q1 : U.cell? ⟨eb, 1, none⟩ = some (.int .i64 x.at_) := bE.cell 1
    have q2 : U.cell? ⟨eb, 2, none⟩ = some (.int .i64 x.v) := bE.cell 2
    have j4 : U.cell? ⟨w.heap.size, 4, none⟩ = some (.int .i64 j.fuel) := st.bj.cell 4
    have j5 : U.cell? ⟨w.heap.size, 5, none⟩ = some (.int .i64 j.limit) := st.bj.cell 5
    have j6 : U.cell? ⟨w.heap.size, 6, none⟩ = some (.int .i64 j.delay) := st.bj.cell 6
    go_wp2_with fail
    refine (refRun_any x.key x.at_ x.v j.limit j.fuel _ hx hj.limit).mono ?_
    rw [HR.out]
    rintro e w2 ⟨rfl, hb2⟩
    have st2 := st.to hb2
    have bE2 := bE.below hb2 bE.lt
    clear st bE hb2 j4 j5 j6 q0 q1 q2
    clear s0 s1 s2 s3 s4 rr0 rr1 rr2 rr3 rr4 fR fS
    go_upto_region 16 with fail
    have st3 := st2.to (w3 := w2.alloc (.cells #[.string x.key, .int .i64 x.at_, .int .i64 rv.1] 37)) (by go_grown)
    have bE3 := bE2.alloc (.cells #[.string x.key, .int .i64 x.at_, .int .i64 rv.1] 37)
    have bN3 := Blk.new w2 37 #[.string x.key, .int .i64 x.at_, .int .i64 rv.1]
    have zE : some eb ≠ (Value.slice (some ⟨bo, 0, none⟩) 0 0).ownBlock := by
      intro e
      have e' : eb = bo := by simpa [Value.ownBlock] using e
      omega
    clear st2 bE2
    generalize w2.alloc (.cells #[.string x.key, .int .i64 x.at_, .int .i64 rv.1] 37) = U2 at *
    generalize w2.heap.size = nb at *
    have n0 : U2.cell? ⟨nb, 0, none⟩ = some (.string x.key) := bN3.cell 0
    have n1 : U2.cell? ⟨nb, 1, none⟩ = some (.int .i64 x.at_) := bN3.cell 1
    have n2 : U2.cell? ⟨nb, 2, none⟩ = some (.int .i64 rv.1) := bN3.cell 2
    go_upto_region 17 with (at_builtin; refine wpList_append_any _ rfl (.tmp 64) (.tmp 67) 27 rfl _ 43 i0 _ 11 104 Try.underlying27 hi0 hz0 hz1 hz2 rfl (by decide) _ _ _ rfl (st3.own.alloc _) (U2.heap.size + 1) (some ⟨U2.heap.size, 0, none⟩) 1 1 #[.int .i64 1, .string x.key, .int .i64 x.at_, .int .i64 rv.1, .int .i64 0, .int .i64 0, .int .i64 0, .int .i64 0, .string ⟨#[]⟩, .int .i64 0, .int .i64 0].toList rfl ⟨rfl, fun _ => ⟨_, rfl, by simp, cell_new _ _ _⟩⟩ (by simp [Value.oneCell']) (by simp; unfold maxLen; omega) (by simp) (by have := st3.hi; simp; omega) ?_; intro v3 w3 hown hgrow hnb; have bE4 := (bE3.alloc _).grown hgrow zE; have st4 := RefSt.app (x := ⟨1, ⟨x.key, x.at_, rv.1⟩, 0⟩) st3 hown hgrow)
    clear bN3 n0 n1 n2 st3 bE3
    obtain ⟨A3, c3, rfl⟩ := own_form st4.own
    have hXs : ([] : List It) ++ [⟨1, ⟨x.key, x.at_, rv.1⟩, 0⟩] = [⟨1, ⟨x.key, x.at_, rv.1⟩, 0⟩] := rfl
    rw [hXs] at st4
    have s0 : w3.cell? ⟨w.heap.size + 1, 0, none⟩ = some (.slice (some ad) n c) := st4.bs.cell 0
    have s1 : w3.cell? ⟨w.heap.size + 1, 1, none⟩ = some (.int .i64 ((k : Int) + 1)) := st4.bs.cell 1
    have s2 : w3.cell? ⟨w.heap.size + 1, 2, none⟩ = some (.int .i64 s.mark) := st4.bs.cell 2
    have s3 : w3.cell? ⟨w.heap.size + 1, 3, none⟩ = some (.int .i64 0) := st4.bs.cell 3
    have s4 : w3.cell? ⟨w.heap.size + 1, 4, none⟩ = some (.bool s.ended) := st4.bs.cell 4
    have rr0 : w3.cell? ⟨w.heap.size + 1 + 1, 0, none⟩ = some (.slice none 0 0) := st4.br.cell 0
    have rr1 : w3.cell? ⟨w.heap.size + 1 + 1, 1, none⟩ = some (.int .i64 0) := st4.br.cell 1
    have rr2 : w3.cell? ⟨w.heap.size + 1 + 1, 2, none⟩ = some (.int .i64 0) := st4.br.cell 2
    have rr3 : w3.cell? ⟨w.heap.size + 1 + 1, 3, none⟩ = some (.int .i64 0) := st4.br.cell 3
    have rr4 : w3.cell? ⟨w.heap.size + 1 + 1, 4, none⟩ = some (.bool false) := st4.br.cell 4
    have fR := st4.br.frozen
    have fS := st4.bs.frozen
    have q1 : w3.cell? ⟨eb, 1, none⟩ = some (.int .i64 x.at_) := bE4.cell 1
    have j6 : w3.cell? ⟨w.heap.size, 6, none⟩ = some (.int .i64 j.delay) := st4.bj.cell 6
    go_wp2_with fail
    go_quiet ((first | (go_at_call 29; refine (quiet_left (refSub_any _ _ _)).mono ?_; rw [HT.out]; exact fun _ _ h => h)))
    go_upto_region 19 with (first | (go_at_call 29; refine (refSub_any _ _ _).mono ?_; rw [HT.out]; rintro e w' ⟨rfl, rfl⟩))
    have st5 := (st4.drewN nq).set 2 (.int .i64 tz) (mark' := tz) rfl
    clear st4 bE4 q1 j6
    clear s0 s1 s2 s3 s4 rr0 rr1 rr2 rr3 rr4 fR fS
    generalize (w3.drewN nq).setCell ⟨w.heap.size + 1, 2, none⟩ (.int .i64 tz) = U5 at *
    have s0 : U5.cell? ⟨w.heap.size + 1, 0, none⟩ = some (.slice (some ad) n c) := st5.bs.cell 0
    have s1 : U5.cell? ⟨w.heap.size + 1, 1, none⟩ = some (.int .i64 ((k : Int) + 1)) := st5.bs.cell 1
    have s2 : U5.cell? ⟨w.heap.size + 1, 2, none⟩ = some (.int .i64 tz) := st5.bs.cell 2
    have s3 : U5.cell? ⟨w.heap.size + 1, 3, none⟩ = some (.int .i64 0) := st5.bs.cell 3
    have s4 : U5.cell? ⟨w.heap.size + 1, 4, none⟩ = some (.bool s.ended) := st5.bs.cell 4
    have rr0 : U5.cell? ⟨w.heap.size + 1 + 1, 0, none⟩ = some (.slice none 0 0) := st5.br.cell 0
    have rr1 : U5.cell? ⟨w.heap.size + 1 + 1, 1, none⟩ = some (.int .i64 0) := st5.br.cell 1
    have rr2 : U5.cell? ⟨w.heap.size + 1 + 1, 2, none⟩ = some (.int .i64 0) := st5.br.cell 2
    have rr3 : U5.cell? ⟨w.heap.size + 1 + 1, 3, none⟩ = some (.int .i64 0) := st5.br.cell 3
    have rr4 : U5.cell? ⟨w.heap.size + 1 + 1, 4, none⟩ = some (.bool false) := st5.br.cell 4
    have fR := st5.br.frozen
    have fS := st5.bs.frozen
    go_upto_region 20 with (at_builtin; refine wpList_append_any _ rfl (.tmp 83) (.tmp 87) 27 rfl _ 43 i0 _ 11 104 Try.underlying27 hi0 hz0 hz1 hz2 rfl (by decide) _ _ _ rfl (st5.own.alloc _) (U5.heap.size + 1) (some ⟨U5.heap.size, 0, none⟩) 1 1 #[.int .i64 2, .string ⟨#[]⟩, .int .i64 0, .int .i64 0, .int .i64 tz, .int .i64 0, .int .i64 0, .int .i64 0, .string ⟨#[]⟩, .int .i64 0, .int .i64 0].toList rfl ⟨rfl, fun _ => ⟨_, rfl, by simp, cell_new _ _ _⟩⟩ (by simp [Value.oneCell']) (by simp; unfold maxLen; omega) (by simp) (by have := st5.hi; simp; omega) ?_; intro v6 w6 hown hgrow hnb; have st6 := RefSt.app (x := ⟨2, ⟨⟨#[]⟩, 0, 0⟩, tz⟩) st5 hown hgrow)
    obtain ⟨A6, c6, rfl⟩ := own_form st6.own
    clear s0 s1 s2 s3 s4 rr0 rr1 rr2 rr3 rr4 fR fS
    have s0 : w6.cell? ⟨w.heap.size + 1, 0, none⟩ = some (.slice (some ad) n c) := st6.bs.cell 0
    have s1 : w6.cell? ⟨w.heap.size + 1, 1, none⟩ = some (.int .i64 ((k : Int) + 1)) := st6.bs.cell 1
    have s2 : w6.cell? ⟨w.heap.size + 1, 2, none⟩ = some (.int .i64 tz) := st6.bs.cell 2
    have s3 : w6.cell? ⟨w.heap.size + 1, 3, none⟩ = some (.int .i64 0) := st6.bs.cell 3
    have s4 : w6.cell? ⟨w.heap.size + 1, 4, none⟩ = some (.bool s.ended) := st6.bs.cell 4
    have rr0 : w6.cell? ⟨w.heap.size + 1 + 1, 0, none⟩ = some (.slice none 0 0) := st6.br.cell 0
    have rr1 : w6.cell? ⟨w.heap.size + 1 + 1, 1, none⟩ = some (.int .i64 0) := st6.br.cell 1
    have rr2 : w6.cell? ⟨w.heap.size + 1 + 1, 2, none⟩ = some (.int .i64 0) := st6.br.cell 2
    have rr3 : w6.cell? ⟨w.heap.size + 1 + 1, 3, none⟩ = some (.int .i64 0) := st6.br.cell 3
    have rr4 : w6.cell? ⟨w.heap.size + 1 + 1, 4, none⟩ = some (.bool false) := st6.br.cell 4
    have fR := st6.br.frozen
    have fS := st6.bs.frozen
    go_wp2
    have bZ := ((((st6.br.set_ 0 (.slice (some ad) n c)).set_ 1 (.int .i64 ((k : Int) + 1))).set_ 2 (.int .i64 tz)).set_ 3 (.int .i64 0)).set_ 4 (.bool s.ended)
    have e0 : World.cell? _ ⟨w.heap.size + 1 + 1, 0, none⟩ = some (.slice (some ad) n c) := bZ.cell 0
    have e1 : World.cell? _ ⟨w.heap.size + 1 + 1, 1, none⟩ = some (.int .i64 ((k : Int) + 1)) := bZ.cell 1
    have e2 : World.cell? _ ⟨w.heap.size + 1 + 1, 2, none⟩ = some (.int .i64 tz) := bZ.cell 2
    have e3 : World.cell? _ ⟨w.heap.size + 1 + 1, 3, none⟩ = some (.int .i64 0) := bZ.cell 3
    have e4 : World.cell? _ ⟨w.heap.size + 1 + 1, 4, none⟩ = some (.bool s.ended) := bZ.cell 4
    have kB := st6.below
    have kO := st6.own
    have zR := st6.lo
    refine bodyPost_ret (v := .tuple #[.agg #[(.slice (some ad) n c), (.int .i64 ((k : Int) + 1)), (.int .i64 tz), (.int .i64 0), (.bool s.ended)], .slice A6 2 c6, .int .i64 0]) (by simp [results, Try.results10, go_sem, e0, e1, e2, e3, e4]) rfl ?_
    refine ⟨by go_grown, .inl ⟨rfl, .slice A6 2 c6, rfl, ?_⟩⟩
    exact own_mono (own_set (own_set (own_set (own_set (own_set kO (p := ⟨w.heap.size + 1 + 1, 0, none⟩) _ zR) (p := ⟨w.heap.size + 1 + 1, 1, none⟩) _ zR) (p := ⟨w.heap.size + 1 + 1, 2, none⟩) _ zR) (p := ⟨w.heap.size + 1 + 1, 3, none⟩) _ zR) (p := ⟨w.heap.size + 1 + 1, 4, none⟩) _ zR) (by omega)

set_option maxRecDepth 100000 in
set_option maxHeartbeats 2000000 in
theorem refNext_k (j : Jb) (s : Sr) (A : Option Addr) (n c : Nat) (w : World) (hj : j.Wf) (hs : s.Wf) (hr : Reads w w.heap.size 3 A n (evs s.evs)) (hm : n ≤ 9223372036854775807) (hC0 : checkS j s = 0) (h2 : s.ended = false) (k : Nat) (hk : s.done = k) (hlt : k < n) (hn : n ≤ 1000) (x : Ev) (hxe : ∀ h : k < s.evs.length, s.evs[k] = x) (rv : Int × Nat) (HR : Hid (runZ (maxZ j.limit) (fuelZ j.fuel).toNat x.v = rv)) (tz : Int) (HT : Hid (subZ x.at_ j.delay = tz)) (h3 : s.mark ≤ x.at_) (h5 : ¬ s.mark < tz) :
    Calls Try.prog 10 #[.agg #[.int .i64 j.groups, .int .i64 j.size, .int .i64 j.slide, .int .i64 j.fold, .int .i64 j.fuel, .int .i64 j.limit, .int .i64 j.delay, .int .i64 j.idle], .agg #[.slice A n c, .int .i64 s.done, .int .i64 s.mark, .int .i64 s.quiet, .bool s.ended]] w (StepPost A n c ((⟨s.evs, (k : Int) + 1, s.mark, 0, s.ended⟩ : Sr), [⟨1, ⟨x.key, x.at_, rv.1⟩, 0⟩], 0) w) := by
    have hk2 : ((k : Int) == (n : Int)) = false := by simp; omega
    have hw1 : IntKind.i64.wrap ((k : Int) + 1) = (k : Int) + 1 := IntWalk.i64_in _ (by omega)
    have HK := Lib.hid hk
    clear hk
    obtain ⟨i0, hi0, hz0, hz1, hz2⟩ := info_parts infoItm
    have H2 := Lib.hid h2
    clear h2
    go_enter Try.func10, Try.ntmps10
    go_wp2_with fail
    refine (checkS_any j s A n c _ hj hs (reads_alloc (reads_alloc (reads_alloc hr))) hm).mono ?_
    rw [hC0]
    rintro e w1 ⟨rfl, hb1⟩
    obtain ⟨c1, f1⟩ := bcell hb1
    have y1 := hb1.size
    try simp at y1
    have z0_0_1 : w.heap.size < w1.heap.size := by omega
    have z0_1_1 : w.heap.size + 1 < w1.heap.size := by omega
    have z0_2_1 : w.heap.size + 1 + 1 < w1.heap.size := by omega
    have k1 : Below w.heap.size w w1 := next_below (by go_grown) hb1
    have bJ1 : Blk w1 w.heap.size 23 _ := (((Blk.new w 23 #[.int .i64 j.groups, .int .i64 j.size, .int .i64 j.slide, .int .i64 j.fold, .int .i64 j.fuel, .int .i64 j.limit, .int .i64 j.delay, .int .i64 j.idle]).alloc (.cells #[.slice A n c, .int .i64 s.done, .int .i64 s.mark, .int .i64 s.quiet, .bool s.ended] 26)).alloc (.cells #[.slice none 0 0, .int .i64 0, .int .i64 0, .int .i64 0, .bool false] 26)).below hb1 (by simp; omega)
    have bS1 : Blk w1 (w.heap.size + 1) 26 #[.slice A n c, .int .i64 s.done, .int .i64 s.mark, .int .i64 s.quiet, .bool s.ended] := ((by simpa using (Blk.new (w.alloc (.cells #[.int .i64 j.groups, .int .i64 j.size, .int .i64 j.slide, .int .i64 j.fold, .int .i64 j.fuel, .int .i64 j.limit, .int .i64 j.delay, .int .i64 j.idle] 23)) 26 #[.slice A n c, .int .i64 s.done, .int .i64 s.mark, .int .i64 s.quiet, .bool s.ended]).alloc (.cells #[.slice none 0 0, .int .i64 0, .int .i64 0, .int .i64 0, .bool false] 26) : Blk _ (w.heap.size + 1) _ _)).below hb1 (by simp)
    have bR1 : Blk w1 (w.heap.size + 1 + 1) 26 #[.slice none 0 0, .int .i64 0, .int .i64 0, .int .i64 0, .bool false] := ((by simpa using Blk.new ((w.alloc (.cells #[.int .i64 j.groups, .int .i64 j.size, .int .i64 j.slide, .int .i64 j.fold, .int .i64 j.fuel, .int .i64 j.limit, .int .i64 j.delay, .int .i64 j.idle] 23)).alloc (.cells #[.slice A n c, .int .i64 s.done, .int .i64 s.mark, .int .i64 s.quiet, .bool s.ended] 26)) 26 #[.slice none 0 0, .int .i64 0, .int .i64 0, .int .i64 0, .bool false] : Blk _ (w.heap.size + 1 + 1) _ _)).below hb1 (by simp)
    have rr0 : w1.cell? ⟨w.heap.size + 1 + 1, 0, none⟩ = some (.slice none 0 0) := bR1.cell 0
    have rr1 : w1.cell? ⟨w.heap.size + 1 + 1, 1, none⟩ = some (.int .i64 0) := bR1.cell 1
    have rr2 : w1.cell? ⟨w.heap.size + 1 + 1, 2, none⟩ = some (.int .i64 0) := bR1.cell 2
    have rr3 : w1.cell? ⟨w.heap.size + 1 + 1, 3, none⟩ = some (.int .i64 0) := bR1.cell 3
    have rr4 : w1.cell? ⟨w.heap.size + 1 + 1, 4, none⟩ = some (.bool false) := bR1.cell 4
    have fR := bR1.frozen
    have s0 : w1.cell? ⟨w.heap.size + 1, 0, none⟩ = some (.slice A n c) := bS1.cell 0
    have s1 : w1.cell? ⟨w.heap.size + 1, 1, none⟩ = some (.int .i64 s.done) := bS1.cell 1
    have s2 : w1.cell? ⟨w.heap.size + 1, 2, none⟩ = some (.int .i64 s.mark) := bS1.cell 2
    have s3 : w1.cell? ⟨w.heap.size + 1, 3, none⟩ = some (.int .i64 s.quiet) := bS1.cell 3
    have s4 : w1.cell? ⟨w.heap.size + 1, 4, none⟩ = some (.bool s.ended) := bS1.cell 4
    have fS := bS1.frozen
    clear c1 f1
    clear hC0
    rw [H2.out] at s4
    go_upto_region 7 with fail
    have st0 : RefSt j (.slice A n c) s.done s.mark s.quiet s.ended (.slice (some ⟨w1.heap.size, 0, none⟩) 0 0) [] w1.heap.size w (w1.alloc (.cells #[] 43)) := ⟨bJ1.alloc _, bS1.alloc _, bR1.alloc _, World.ownsRow_made w1 #[] 0 (Nat.le_refl _) (by unfold maxLen; omega) rfl, by omega, by simp, k1.alloc k1.size _⟩
    clear bJ1 bS1 bR1
    have kV : Below w.heap.size w (w1.alloc (.cells #[] 43)) := st0.below
    clear hb1 k1
    clear s0 s1 s2 s3 s4 rr0 rr1 rr2 rr3 rr4 fR fS
    generalize w1.alloc (.cells #[] 43) = V at *
    generalize w1.heap.size = bo at *
    have lV := st0.bs.lt
    have s0 : V.cell? ⟨w.heap.size + 1, 0, none⟩ = some (.slice A n c) := st0.bs.cell 0
    have s1 : V.cell? ⟨w.heap.size + 1, 1, none⟩ = some (.int .i64 s.done) := st0.bs.cell 1
    have s2 : V.cell? ⟨w.heap.size + 1, 2, none⟩ = some (.int .i64 s.mark) := st0.bs.cell 2
    have s3 : V.cell? ⟨w.heap.size + 1, 3, none⟩ = some (.int .i64 s.quiet) := st0.bs.cell 3
    have s4 : V.cell? ⟨w.heap.size + 1, 4, none⟩ = some (.bool s.ended) := st0.bs.cell 4
    have rr0 : V.cell? ⟨w.heap.size + 1 + 1, 0, none⟩ = some (.slice none 0 0) := st0.br.cell 0
    have rr1 : V.cell? ⟨w.heap.size + 1 + 1, 1, none⟩ = some (.int .i64 0) := st0.br.cell 1
    have rr2 : V.cell? ⟨w.heap.size + 1 + 1, 2, none⟩ = some (.int .i64 0) := st0.br.cell 2
    have rr3 : V.cell? ⟨w.heap.size + 1 + 1, 3, none⟩ = some (.int .i64 0) := st0.br.cell 3
    have rr4 : V.cell? ⟨w.heap.size + 1 + 1, 4, none⟩ = some (.bool false) := st0.br.cell 4
    have fR := st0.br.frozen
    have fS := st0.bs.frozen
    rw [HK.out] at s1
    have j4 : V.cell? ⟨w.heap.size, 4, none⟩ = some (.int .i64 j.fuel) := st0.bj.cell 4
    obtain ⟨ad, hl', eA, had, x0, x1, x2⟩ := evs_get ((hr.below kV).more kV.size) hlt
    have hx := hs.v _ (List.getElem_mem hl')
    rw [hxe] at x0 x1 x2 hx
    subst eA
    have had' : (ad.add (k * 3)).block < V.heap.size := by rw [block_of_add]; exact had
    clear had hl' hxe
    go_upto_region 14 with fail
    have st1 := ((st0.set 1 (.int .i64 ((k : Int) + 1)) (done' := (k : Int) + 1) rfl).set 3 (.int .i64 0) (quiet' := 0) rfl)
    have zB : bo < V.heap.size := (st0.own.lt bo rfl).2
    have hSz : ((V.setCell ⟨w.heap.size + 1, 1, none⟩ (.int .i64 ((k : Int) + 1))).setCell ⟨w.heap.size + 1, 3, none⟩ (.int .i64 0)).heap.size = V.heap.size := by simp
    have st := st1.to (w3 := ((V.setCell ⟨w.heap.size + 1, 1, none⟩ (.int .i64 ((k : Int) + 1))).setCell ⟨w.heap.size + 1, 3, none⟩ (.int .i64 0)).alloc (.cells #[.string x.key, .int .i64 x.at_, .int .i64 x.v] 37)) (by go_grown)
    have bE : Blk (((V.setCell ⟨w.heap.size + 1, 1, none⟩ (.int .i64 ((k : Int) + 1))).setCell ⟨w.heap.size + 1, 3, none⟩ (.int .i64 0)).alloc (.cells #[.string x.key, .int .i64 x.at_, .int .i64 x.v] 37)) V.heap.size 37 #[.string x.key, .int .i64 x.at_, .int .i64 x.v] := by
      have h := Blk.new ((V.setCell ⟨w.heap.size + 1, 1, none⟩ (.int .i64 ((k : Int) + 1))).setCell ⟨w.heap.size + 1, 3, none⟩ (.int .i64 0)) 37 #[.string x.key, .int .i64 x.at_, .int .i64 x.v]
      rw [hSz] at h
      exact h
    clear st0 st1 kV j4 x0 x1 x2 had' hSz
    clear s0 s1 s2 s3 s4 rr0 rr1 rr2 rr3 rr4 fR fS
    generalize ((V.setCell ⟨w.heap.size + 1, 1, none⟩ (.int .i64 ((k : Int) + 1))).setCell ⟨w.heap.size + 1, 3, none⟩ (.int .i64 0)).alloc (.cells #[.string x.key, .int .i64 x.at_, .int .i64 x.v] 37) = U at *
    generalize V.heap.size = eb at *
    have s0 : U.cell? ⟨w.heap.size + 1, 0, none⟩ = some (.slice (some ad) n c) := st.bs.cell 0
    have s1 : U.cell? ⟨w.heap.size + 1, 1, none⟩ = some (.int .i64 ((k : Int) + 1)) := st.bs.cell 1
    have s2 : U.cell? ⟨w.heap.size + 1, 2, none⟩ = some (.int .i64 s.mark) := st.bs.cell 2
    have s3 : U.cell? ⟨w.heap.size + 1, 3, none⟩ = some (.int .i64 0) := st.bs.cell 3
    have s4 : U.cell? ⟨w.heap.size + 1, 4, none⟩ = some (.bool s.ended) := st.bs.cell 4
    have rr0 : U.cell? ⟨w.heap.size + 1 + 1, 0, none⟩ = some (.slice none 0 0) := st.br.cell 0
    have rr1 : U.cell? ⟨w.heap.size + 1 + 1, 1, none⟩ = some (.int .i64 0) := st.br.cell 1
    have rr2 : U.cell? ⟨w.heap.size + 1 + 1, 2, none⟩ = some (.int .i64 0) := st.br.cell 2
    have rr3 : U.cell? ⟨w.heap.size + 1 + 1, 3, none⟩ = some (.int .i64 0) := st.br.cell 3
    have rr4 : U.cell? ⟨w.heap.size + 1 + 1, 4, none⟩ = some (.bool false) := st.br.cell 4
    have fR := st.br.frozen
    have fS := st.bs.frozen
    have q0 : U.cell? ⟨eb, 0, none⟩ = some (.string x.key) := bE.cell 0
    have q1 : U.cell? ⟨eb, 1, none⟩ = some (.int .i64 x.at_) := bE.cell 1
    have q2 : U.cell? ⟨eb, 2, none⟩ = some (.int .i64 x.v) := bE.cell 2
    have j4 : U.cell? ⟨w.heap.size, 4, none⟩ = some (.int .i64 j.fuel) := st.bj.cell 4
    have j5 : U.cell? ⟨w.heap.size, 5, none⟩ = some (.int .i64 j.limit) := st.bj.cell 5
    have j6 : U.cell? ⟨w.heap.size, 6, none⟩ = some (.int .i64 j.delay) := st.bj.cell 6
    go_wp2_with fail
    refine (refRun_any x.key x.at_ x.v j.limit j.fuel _ hx hj.limit).mono ?_
    rw [HR.out]
    rintro e w2 ⟨rfl, hb2⟩
    have st2 := st.to hb2
    have bE2 := bE.below hb2 bE.lt
    clear st bE hb2 j4 j5 j6 q0 q1 q2
    clear s0 s1 s2 s3 s4 rr0 rr1 rr2 rr3 rr4 fR fS
    go_upto_region 16 with fail
    have st3 := st2.to (w3 := w2.alloc (.cells #[.string x.key, .int .i64 x.at_, .int .i64 rv.1] 37)) (by go_grown)
    have bE3 := bE2.alloc (.cells #[.string x.key, .int .i64 x.at_, .int .i64 rv.1] 37)
    have bN3 := Blk.new w2 37 #[.string x.key, .int .i64 x.at_, .int .i64 rv.1]
    have zE : some eb ≠ (Value.slice (some ⟨bo, 0, none⟩) 0 0).ownBlock := by
      intro e
      have e' : eb = bo := by simpa [Value.ownBlock] using e
      omega
    clear st2 bE2
    generalize w2.alloc (.cells #[.string x.key, .int .i64 x.at_, .int .i64 rv.1] 37) = U2 at *
    generalize w2.heap.size = nb at *
    have n0 : U2.cell? ⟨nb, 0, none⟩ = some (.string x.key) := bN3.cell 0
    have n1 : U2.cell? ⟨nb, 1, none⟩ = some (.int .i64 x.at_) := bN3.cell 1
    have n2 : U2.cell? ⟨nb, 2, none⟩ = some (.int .i64 rv.1) := bN3.cell 2
    go_upto_region 17 with (at_builtin; refine wpList_append_any _ rfl (.tmp 64) (.tmp 67) 27 rfl _ 43 i0 _ 11 104 Try.underlying27 hi0 hz0 hz1 hz2 rfl (by decide) _ _ _ rfl (st3.own.alloc _) (U2.heap.size + 1) (some ⟨U2.heap.size, 0, none⟩) 1 1 #[.int .i64 1, .string x.key, .int .i64 x.at_, .int .i64 rv.1, .int .i64 0, .int .i64 0, .int .i64 0, .int .i64 0, .string ⟨#[]⟩, .int .i64 0, .int .i64 0].toList rfl ⟨rfl, fun _ => ⟨_, rfl, by simp, cell_new _ _ _⟩⟩ (by simp [Value.oneCell']) (by simp; unfold maxLen; omega) (by simp) (by have := st3.hi; simp; omega) ?_; intro v3 w3 hown hgrow hnb; have bE4 := (bE3.alloc _).grown hgrow zE; have st4 := RefSt.app (x := ⟨1, ⟨x.key, x.at_, rv.1⟩, 0⟩) st3 hown hgrow)
    clear bN3 n0 n1 n2 st3 bE3
    obtain ⟨A3, c3, rfl⟩ := own_form st4.own
    have hXs : ([] : List It) ++ [⟨1, ⟨x.key, x.at_, rv.1⟩, 0⟩] = [⟨1, ⟨x.key, x.at_, rv.1⟩, 0⟩] := rfl
    rw [hXs] at st4
    have s0 : w3.cell? ⟨w.heap.size + 1, 0, none⟩ = some (.slice (some ad) n c) := st4.bs.cell 0
    have s1 : w3.cell? ⟨w.heap.size + 1, 1, none⟩ = some (.int .i64 ((k : Int) + 1)) := st4.bs.cell 1
    have s2 : w3.cell? ⟨w.heap.size + 1, 2, none⟩ = some (.int .i64 s.mark) := st4.bs.cell 2
    have s3 : w3.cell? ⟨w.heap.size + 1, 3, none⟩ = some (.int .i64 0) := st4.bs.cell 3
    have s4 : w3.cell? ⟨w.heap.size + 1, 4, none⟩ = some (.bool s.ended) := st4.bs.cell 4
    have rr0 : w3.cell? ⟨w.heap.size + 1 + 1, 0, none⟩ = some (.slice none 0 0) := st4.br.cell 0
    have rr1 : w3.cell? ⟨w.heap.size + 1 + 1, 1, none⟩ = some (.int .i64 0) := st4.br.cell 1
    have rr2 : w3.cell? ⟨w.heap.size + 1 + 1, 2, none⟩ = some (.int .i64 0) := st4.br.cell 2
    have rr3 : w3.cell? ⟨w.heap.size + 1 + 1, 3, none⟩ = some (.int .i64 0) := st4.br.cell 3
    have rr4 : w3.cell? ⟨w.heap.size + 1 + 1, 4, none⟩ = some (.bool false) := st4.br.cell 4
    have fR := st4.br.frozen
    have fS := st4.bs.frozen
    have q1 : w3.cell? ⟨eb, 1, none⟩ = some (.int .i64 x.at_) := bE4.cell 1
    have j6 : w3.cell? ⟨w.heap.size, 6, none⟩ = some (.int .i64 j.delay) := st4.bj.cell 6
    go_wp2_with fail
    go_quiet ((first | (go_at_call 29; refine (quiet_left (refSub_any _ _ _)).mono ?_; rw [HT.out]; exact fun _ _ h => h)))
    go_wp2
    have st5 := st4.drewN nq
    have bZ := ((((st5.br.set_ 0 (.slice (some ad) n c)).set_ 1 (.int .i64 ((k : Int) + 1))).set_ 2 (.int .i64 s.mark)).set_ 3 (.int .i64 0)).set_ 4 (.bool s.ended)
    have e0 : World.cell? _ ⟨w.heap.size + 1 + 1, 0, none⟩ = some (.slice (some ad) n c) := bZ.cell 0
    have e1 : World.cell? _ ⟨w.heap.size + 1 + 1, 1, none⟩ = some (.int .i64 ((k : Int) + 1)) := bZ.cell 1
    have e2 : World.cell? _ ⟨w.heap.size + 1 + 1, 2, none⟩ = some (.int .i64 s.mark) := bZ.cell 2
    have e3 : World.cell? _ ⟨w.heap.size + 1 + 1, 3, none⟩ = some (.int .i64 0) := bZ.cell 3
    have e4 : World.cell? _ ⟨w.heap.size + 1 + 1, 4, none⟩ = some (.bool s.ended) := bZ.cell 4
    have kB := st5.below
    have kO := st5.own
    have zR := st5.lo
    refine bodyPost_ret (v := .tuple #[.agg #[(.slice (some ad) n c), (.int .i64 ((k : Int) + 1)), (.int .i64 s.mark), (.int .i64 0), (.bool s.ended)], .slice A3 1 c3, .int .i64 0]) (by simp [results, Try.results10, go_sem, e0, e1, e2, e3, e4]) rfl ?_
    refine ⟨by go_grown, .inl ⟨rfl, .slice A3 1 c3, rfl, ?_⟩⟩
    exact own_mono (own_set (own_set (own_set (own_set (own_set kO (p := ⟨w.heap.size + 1 + 1, 0, none⟩) _ zR) (p := ⟨w.heap.size + 1 + 1, 1, none⟩) _ zR) (p := ⟨w.heap.size + 1 + 1, 2, none⟩) _ zR) (p := ⟨w.heap.size + 1 + 1, 3, none⟩) _ zR) (p := ⟨w.heap.size + 1 + 1, 4, none⟩) _ zR) (by omega)

set_option maxRecDepth 100000 in
set_option maxHeartbeats 2000000 in
theorem refNext_m (j : Jb) (s : Sr) (A : Option Addr) (n c : Nat) (w : World) (hj : j.Wf) (hs : s.Wf) (hr : Reads w w.heap.size 3 A n (evs s.evs)) (hm : n ≤ 9223372036854775807) (hC0 : checkS j s = 0) (h2 : s.ended = false) (k : Nat) (hk : s.done = k) (hlt : k < n) (hn : n ≤ 1000) (x : Ev) (hxe : ∀ h : k < s.evs.length, s.evs[k] = x) (rv : Int × Nat) (HR : Hid (runZ (maxZ j.limit) (fuelZ j.fuel).toNat x.v = rv)) (tz : Int) (HT : Hid (subZ x.at_ j.delay = tz)) (h3 : ¬ s.mark ≤ x.at_) (h5 : s.mark < tz) :
    Calls Try.prog 10 #[.agg #[.int .i64 j.groups, .int .i64 j.size, .int .i64 j.slide, .int .i64 j.fold, .int .i64 j.fuel, .int .i64 j.limit, .int .i64 j.delay, .int .i64 j.idle], .agg #[.slice A n c, .int .i64 s.done, .int .i64 s.mark, .int .i64 s.quiet, .bool s.ended]] w (StepPost A n c ((⟨s.evs, (k : Int) + 1, tz, 0, s.ended⟩ : Sr), [markIt tz], 0) w) := by
    have hk2 : ((k : Int) == (n : Int)) = false := by simp; omega
    have hw1 : IntKind.i64.wrap ((k : Int) + 1) = (k : Int) + 1 := IntWalk.i64_in _ (by omega)
    have HK := Lib.hid hk
    clear hk
    obtain ⟨i0, hi0, hz0, hz1, hz2⟩ := info_parts infoItm
    have H2 := Lib.hid h2
    clear h2
    go_enter Try.func10, Try.ntmps10
    go_wp2_with fail
    refine (checkS_any j s A n c _ hj hs (reads_alloc (reads_alloc (reads_alloc hr))) hm).mono ?_
    rw [hC0]
    rintro e w1 ⟨rfl, hb1⟩
    obtain ⟨c1, f1⟩ := bcell hb1
    have y1 := hb1.size
    try simp at y1
    have z0_0_1 : w.heap.size < w1.heap.size := by omega
    have z0_1_1 : w.heap.size + 1 < w1.heap.size := by omega
    have z0_2_1 : w.heap.size + 1 + 1 < w1.heap.size := by omega
    have k1 : Below w.heap.size w w1 := next_below (by go_grown) hb1
    have bJ1 : Blk w1 w.heap.size 23 _ := (((Blk.new w 23 #[.int .i64 j.groups, .int .i64 j.size, .int .i64 j.slide, .int .i64 j.fold, .int .i64 j.fuel, .int .i64 j.limit, .int .i64 j.delay, .int .i64 j.idle]).alloc (.cells #[.slice A n c, .int .i64 s.done, .int .i64 s.mark, .int .i64 s.quiet, .bool s.ended] 26)).alloc (.cells #[.slice none 0 0, .int .i64 0, .int .i64 0, .int .i64 0, .bool false] 26)).below hb1 (by simp; omega)
    have bS1 : Blk w1 (w.heap.size + 1) 26 #[.slice A n c, .int .i64 s.done, .int .i64 s.mark, .int .i64 s.quiet, .bool s.ended] := ((by simpa using (Blk.new (w.alloc (.cells #[.int .i64 j.groups, .int .i64 j.size, .int .i64 j.slide, .int .i64 j.fold, .int .i64 j.fuel, .int .i64 j.limit, .int .i64 j.delay, .int .i64 j.idle] 23)) 26 #[.slice A n c, .int .i64 s.done, .int .i64 s.mark, .int .i64 s.quiet, .bool s.ended]).alloc (.cells #[.slice none 0 0, .int .i64 0, .int .i64 0, .int .i64 0, .bool false] 26) : Blk _ (w.heap.size + 1) _ _)).below hb1 (by simp)
    have bR1 : Blk w1 (w.heap.size + 1 + 1) 26 #[.slice none 0 0, .int .i64 0, .int .i64 0, .int .i64 0, .bool false] := ((by simpa using Blk.new ((w.alloc (.cells #[.int .i64 j.groups, .int .i64 j.size, .int .i64 j.slide, .int .i64 j.fold, .int .i64 j.fuel, .int .i64 j.limit, .int .i64 j.delay, .int .i64 j.idle] 23)).alloc (.cells #[.slice A n c, .int .i64 s.done, .int .i64 s.mark, .int .i64 s.quiet, .bool s.ended] 26)) 26 #[.slice none 0 0, .int .i64 0, .int .i64 0, .int .i64 0, .bool false] : Blk _ (w.heap.size + 1 + 1) _ _)).below hb1 (by simp)
    have rr0 : w1.cell? ⟨w.heap.size + 1 + 1, 0, none⟩ = some (.slice none 0 0) := bR1.cell 0
    have rr1 : w1.cell? ⟨w.heap.size + 1 + 1, 1, none⟩ = some (.int .i64 0) := bR1.cell 1
    have rr2 : w1.cell? ⟨w.heap.size + 1 + 1, 2, none⟩ = some (.int .i64 0) := bR1.cell 2
    have rr3 : w1.cell? ⟨w.heap.size + 1 + 1, 3, none⟩ = some (.int .i64 0) := bR1.cell 3
    have rr4 : w1.cell? ⟨w.heap.size + 1 + 1, 4, none⟩ = some (.bool false) := bR1.cell 4
    have fR := bR1.frozen
    have s0 : w1.cell? ⟨w.heap.size + 1, 0, none⟩ = some (.slice A n c) := bS1.cell 0
    have s1 : w1.cell? ⟨w.heap.size + 1, 1, none⟩ = some (.int .i64 s.done) := bS1.cell 1
    have s2 : w1.cell? ⟨w.heap.size + 1, 2, none⟩ = some (.int .i64 s.mark) := bS1.cell 2
    have s3 : w1.cell? ⟨w.heap.size + 1, 3, none⟩ = some (.int .i64 s.quiet) := bS1.cell 3
    have s4 : w1.cell? ⟨w.heap.size + 1, 4, none⟩ = some (.bool s.ended) := bS1.cell 4
    have fS := bS1.frozen
    clear c1 f1
    clear hC0
    rw [H2.out] at s4
    go_upto_region 7 with fail
    have st0 : RefSt j (.slice A n c) s.done s.mark s.quiet s.ended (.slice (some ⟨w1.heap.size, 0, none⟩) 0 0) [] w1.heap.size w (w1.alloc (.cells #[] 43)) := ⟨bJ1.alloc _, bS1.alloc _, bR1.alloc _, World.ownsRow_made w1 #[] 0 (Nat.le_refl _) (by unfold maxLen; omega) rfl, by omega, by simp, k1.alloc k1.size _⟩
    clear bJ1 bS1 bR1
    have kV : Below w.heap.size w (w1.alloc (.cells #[] 43)) := st0.below
    clear hb1 k1
    clear s0 s1 s2 s3 s4 rr0 rr1 rr2 rr3 rr4 fR fS
    generalize w1.alloc (.cells #[] 43) = V at *
    generalize w1.heap.size = bo at *
    have lV := st0.bs.lt
    have s0 : V.cell? ⟨w.heap.size + 1, 0, none⟩ = some (.slice A n c) := st0.bs.cell 0
    have s1 : V.cell? ⟨w.heap.size + 1, 1, none⟩ = some (.int .i64 s.done) := st0.bs.cell 1
    have s2 : V.cell? ⟨w.heap.size + 1, 2, none⟩ = some (.int .i64 s.mark) := st0.bs.cell 2
    have s3 : V.cell? ⟨w.heap.size + 1, 3, none⟩ = some (.int .i64 s.quiet) := st0.bs.cell 3
    have s4 : V.cell? ⟨w.heap.size + 1, 4, none⟩ = some (.bool s.ended) := st0.bs.cell 4
    have rr0 : V.cell? ⟨w.heap.size + 1 + 1, 0, none⟩ = some (.slice none 0 0) := st0.br.cell 0
    have rr1 : V.cell? ⟨w.heap.size + 1 + 1, 1, none⟩ = some (.int .i64 0) := st0.br.cell 1
    have rr2 : V.cell? ⟨w.heap.size + 1 + 1, 2, none⟩ = some (.int .i64 0) := st0.br.cell 2
    have rr3 : V.cell? ⟨w.heap.size + 1 + 1, 3, none⟩ = some (.int .i64 0) := st0.br.cell 3
    have rr4 : V.cell? ⟨w.heap.size + 1 + 1, 4, none⟩ = some (.bool false) := st0.br.cell 4
    have fR := st0.br.frozen
    have fS := st0.bs.frozen
    rw [HK.out] at s1
    have j4 : V.cell? ⟨w.heap.size, 4, none⟩ = some (.int .i64 j.fuel) := st0.bj.cell 4
    obtain ⟨ad, hl', eA, had, x0, x1, x2⟩ := evs_get ((hr.below kV).more kV.size) hlt
    have hx := hs.v _ (List.getElem_mem hl')
    rw [hxe] at x0 x1 x2 hx
    subst eA
    have had' : (ad.add (k * 3)).block < V.heap.size := by rw [block_of_add]; exact had
    clear had hl' hxe
    go_upto_region 14 with fail
    have st1 := ((st0.set 1 (.int .i64 ((k : Int) + 1)) (done' := (k : Int) + 1) rfl).set 3 (.int .i64 0) (quiet' := 0) rfl)
    have zB : bo < V.heap.size := (st0.own.lt bo rfl).2
    have hSz : ((V.setCell ⟨w.heap.size + 1, 1, none⟩ (.int .i64 ((k : Int) + 1))).setCell ⟨w.heap.size + 1, 3, none⟩ (.int .i64 0)).heap.size = V.heap.size := by simp
    have st := st1.to (w3 := ((V.setCell ⟨w.heap.size + 1, 1, none⟩ (.int .i64 ((k : Int) + 1))).setCell ⟨w.heap.size + 1, 3, none⟩ (.int .i64 0)).alloc (.cells #[.string x.key, .int .i64 x.at_, .int .i64 x.v] 37)) (by go_grown)
    have bE : Blk (((V.setCell ⟨w.heap.size + 1, 1, none⟩ (.int .i64 ((k : Int) + 1))).setCell ⟨w.heap.size + 1, 3, none⟩ (.int .i64 0)).alloc (.cells #[.string x.key, .int .i64 x.at_, .int .i64 x.v] 37)) V.heap.size 37 #[.string x.key, .int .i64 x.at_, .int .i64 x.v] := by
      have h := Blk.new ((V.setCell ⟨w.heap.size + 1, 1, none⟩ (.int .i64 ((k : Int) + 1))).setCell ⟨w.heap.size + 1, 3, none⟩ (.int .i64 0)) 37 #[.string x.key, .int .i64 x.at_, .int .i64 x.v]
      rw [hSz] at h
      exact h
    clear st0 st1 kV j4 x0 x1 x2 had' hSz
    clear s0 s1 s2 s3 s4 rr0 rr1 rr2 rr3 rr4 fR fS
    generalize ((V.setCell ⟨w.heap.size + 1, 1, none⟩ (.int .i64 ((k : Int) + 1))).setCell ⟨w.heap.size + 1, 3, none⟩ (.int .i64 0)).alloc (.cells #[.string x.key, .int .i64 x.at_, .int .i64 x.v] 37) = U at *
    generalize V.heap.size = eb at *
    have s0 : U.cell? ⟨w.heap.size + 1, 0, none⟩ = some (.slice (some ad) n c) := st.bs.cell 0
    have s1 : U.cell? ⟨w.heap.size + 1, 1, none⟩ = some (.int .i64 ((k : Int) + 1)) := st.bs.cell 1
    have s2 : U.cell? ⟨w.heap.size + 1, 2, none⟩ = some (.int .i64 s.mark) := st.bs.cell 2
    have s3 : U.cell? ⟨w.heap.size + 1, 3, none⟩ = some (.int .i64 0) := st.bs.cell 3
    have s4 : U.cell? ⟨w.heap.size + 1, 4, none⟩ = some (.bool s.ended) := st.bs.cell 4
    have rr0 : U.cell? ⟨w.heap.size + 1 + 1, 0, none⟩ = some (.slice none 0 0) := st.br.cell 0
    have rr1 : U.cell? ⟨w.heap.size + 1 + 1, 1, none⟩ = some (.int .i64 0) := st.br.cell 1
    have rr2 : U.cell? ⟨w.heap.size + 1 + 1, 2, none⟩ = some (.int .i64 0) := st.br.cell 2
    have rr3 : U.cell? ⟨w.heap.size + 1 + 1, 3, none⟩ = some (.int .i64 0) := st.br.cell 3
    have rr4 : U.cell? ⟨w.heap.size + 1 + 1, 4, none⟩ = some (.bool false) := st.br.cell 4
    have fR := st.br.frozen
    have fS := st.bs.frozen
    have q0 : U.cell? ⟨eb, 0, none⟩ = some (.string x.key) := bE.cell 0
    have q1 : U.cell? ⟨eb, 1, none⟩ = some (.int .i64 x.at_) := bE.cell 1
    have q2 : U.cell? ⟨eb, 2, none⟩ = some (.int .i64 x.v) := bE.cell 2
    have j4 : U.cell? ⟨w.heap.size, 4, none⟩ = some (.int .i64 j.fuel) := st.bj.cell 4
    have j5 : U.cell? ⟨w.heap.size, 5, none⟩ = some (.int .i64 j.limit) := st.bj.cell 5
    have j6 : U.cell? ⟨w.heap.size, 6, none⟩ = some (.int .i64 j.delay) := st.bj.cell 6
    have st4 := st
    have bE4 := bE
    clear st bE j4 j5 j6 q0 q1 q2
    clear s0 s1 s2 s3 s4 rr0 rr1 rr2 rr3 rr4 fR fS
    have s0 : U.cell? ⟨w.heap.size + 1, 0, none⟩ = some (.slice (some ad) n c) := st4.bs.cell 0
    have s1 : U.cell? ⟨w.heap.size + 1, 1, none⟩ = some (.int .i64 ((k : Int) + 1)) := st4.bs.cell 1
    have s2 : U.cell? ⟨w.heap.size + 1, 2, none⟩ = some (.int .i64 s.mark) := st4.bs.cell 2
    have s3 : U.cell? ⟨w.heap.size + 1, 3, none⟩ = some (.int .i64 0) := st4.bs.cell 3
    have s4 : U.cell? ⟨w.heap.size + 1, 4, none⟩ = some (.bool s.ended) := st4.bs.cell 4
    have rr0 : U.cell? ⟨w.heap.size + 1 + 1, 0, none⟩ = some (.slice none 0 0) := st4.br.cell 0
    have rr1 : U.cell? ⟨w.heap.size + 1 + 1, 1, none⟩ = some (.int .i64 0) := st4.br.cell 1
    have rr2 : U.cell? ⟨w.heap.size + 1 + 1, 2, none⟩ = some (.int .i64 0) := st4.br.cell 2
    have rr3 : U.cell? ⟨w.heap.size + 1 + 1, 3, none⟩ = some (.int .i64 0) := st4.br.cell 3
    have rr4 : U.cell? ⟨w.heap.size + 1 + 1, 4, none⟩ = some (.bool false) := st4.br.cell 4
    have fR := st4.br.frozen
    have fS := st4.bs.frozen
    have q1 : U.cell? ⟨eb, 1, none⟩ = some (.int .i64 x.at_) := bE4.cell 1
    have j6 : U.cell? ⟨w.heap.size, 6, none⟩ = some (.int .i64 j.delay) := st4.bj.cell 6
    go_wp2_with fail
    go_quiet ((first | (go_at_call 29; refine (quiet_left (refSub_any _ _ _)).mono ?_; rw [HT.out]; exact fun _ _ h => h)))
    go_upto_region 19 with (first | (go_at_call 29; refine (refSub_any _ _ _).mono ?_; rw [HT.out]; rintro e w' ⟨rfl, rfl⟩))
    have st5 := (st4.drewN nq).set 2 (.int .i64 tz) (mark' := tz) rfl
    clear st4 bE4 q1 j6
    clear s0 s1 s2 s3 s4 rr0 rr1 rr2 rr3 rr4 fR fS
    generalize (U.drewN nq).setCell ⟨w.heap.size + 1, 2, none⟩ (.int .i64 tz) = U5 at *
    have s0 : U5.cell? ⟨w.heap.size + 1, 0, none⟩ = some (.slice (some ad) n c) := st5.bs.cell 0
    have s1 : U5.cell? ⟨w.heap.size + 1, 1, none⟩ = some (.int .i64 ((k : Int) + 1)) := st5.bs.cell 1
    have s2 : U5.cell? ⟨w.heap.size + 1, 2, none⟩ = some (.int .i64 tz) := st5.bs.cell 2
    have s3 : U5.cell? ⟨w.heap.size + 1, 3, none⟩ = some (.int .i64 0) := st5.bs.cell 3
    have s4 : U5.cell? ⟨w.heap.size + 1, 4, none⟩ = some (.bool s.ended) := st5.bs.cell 4
    have rr0 : U5.cell? ⟨w.heap.size + 1 + 1, 0, none⟩ = some (.slice none 0 0) := st5.br.cell 0
    have rr1 : U5.cell? ⟨w.heap.size + 1 + 1, 1, none⟩ = some (.int .i64 0) := st5.br.cell 1
    have rr2 : U5.cell? ⟨w.heap.size + 1 + 1, 2, none⟩ = some (.int .i64 0) := st5.br.cell 2
    have rr3 : U5.cell? ⟨w.heap.size + 1 + 1, 3, none⟩ = some (.int .i64 0) := st5.br.cell 3
    have rr4 : U5.cell? ⟨w.heap.size + 1 + 1, 4, none⟩ = some (.bool false) := st5.br.cell 4
    have fR := st5.br.frozen
    have fS := st5.bs.frozen
    go_upto_region 20 with (at_builtin; refine wpList_append_any _ rfl (.tmp 83) (.tmp 87) 27 rfl _ 43 i0 _ 11 104 Try.underlying27 hi0 hz0 hz1 hz2 rfl (by decide) _ _ _ rfl (st5.own.alloc _) (U5.heap.size + 1) (some ⟨U5.heap.size, 0, none⟩) 1 1 #[.int .i64 2, .string ⟨#[]⟩, .int .i64 0, .int .i64 0, .int .i64 tz, .int .i64 0, .int .i64 0, .int .i64 0, .string ⟨#[]⟩, .int .i64 0, .int .i64 0].toList rfl ⟨rfl, fun _ => ⟨_, rfl, by simp, cell_new _ _ _⟩⟩ (by simp [Value.oneCell']) (by simp; unfold maxLen; omega) (by simp) (by have := st5.hi; simp; omega) ?_; intro v6 w6 hown hgrow hnb; have st6 := RefSt.app (x := ⟨2, ⟨⟨#[]⟩, 0, 0⟩, tz⟩) st5 hown hgrow)
    obtain ⟨A6, c6, rfl⟩ := own_form st6.own
    clear s0 s1 s2 s3 s4 rr0 rr1 rr2 rr3 rr4 fR fS
    have s0 : w6.cell? ⟨w.heap.size + 1, 0, none⟩ = some (.slice (some ad) n c) := st6.bs.cell 0
    have s1 : w6.cell? ⟨w.heap.size + 1, 1, none⟩ = some (.int .i64 ((k : Int) + 1)) := st6.bs.cell 1
    have s2 : w6.cell? ⟨w.heap.size + 1, 2, none⟩ = some (.int .i64 tz) := st6.bs.cell 2
    have s3 : w6.cell? ⟨w.heap.size + 1, 3, none⟩ = some (.int .i64 0) := st6.bs.cell 3
    have s4 : w6.cell? ⟨w.heap.size + 1, 4, none⟩ = some (.bool s.ended) := st6.bs.cell 4
    have rr0 : w6.cell? ⟨w.heap.size + 1 + 1, 0, none⟩ = some (.slice none 0 0) := st6.br.cell 0
    have rr1 : w6.cell? ⟨w.heap.size + 1 + 1, 1, none⟩ = some (.int .i64 0) := st6.br.cell 1
    have rr2 : w6.cell? ⟨w.heap.size + 1 + 1, 2, none⟩ = some (.int .i64 0) := st6.br.cell 2
    have rr3 : w6.cell? ⟨w.heap.size + 1 + 1, 3, none⟩ = some (.int .i64 0) := st6.br.cell 3
    have rr4 : w6.cell? ⟨w.heap.size + 1 + 1, 4, none⟩ = some (.bool false) := st6.br.cell 4
    have fR := st6.br.frozen
    have fS := st6.bs.frozen
    go_wp2
    have bZ := ((((st6.br.set_ 0 (.slice (some ad) n c)).set_ 1 (.int .i64 ((k : Int) + 1))).set_ 2 (.int .i64 tz)).set_ 3 (.int .i64 0)).set_ 4 (.bool s.ended)
    have e0 : World.cell? _ ⟨w.heap.size + 1 + 1, 0, none⟩ = some (.slice (some ad) n c) := bZ.cell 0
    have e1 : World.cell? _ ⟨w.heap.size + 1 + 1, 1, none⟩ = some (.int .i64 ((k : Int) + 1)) := bZ.cell 1
    have e2 : World.cell? _ ⟨w.heap.size + 1 + 1, 2, none⟩ = some (.int .i64 tz) := bZ.cell 2
    have e3 : World.cell? _ ⟨w.heap.size + 1 + 1, 3, none⟩ = some (.int .i64 0) := bZ.cell 3
    have e4 : World.cell? _ ⟨w.heap.size + 1 + 1, 4, none⟩ = some (.bool s.ended) := bZ.cell 4
    have kB := st6.below
    have kO := st6.own
    have zR := st6.lo
    refine bodyPost_ret (v := .tuple #[.agg #[(.slice (some ad) n c), (.int .i64 ((k : Int) + 1)), (.int .i64 tz), (.int .i64 0), (.bool s.ended)], .slice A6 1 c6, .int .i64 0]) (by simp [results, Try.results10, go_sem, e0, e1, e2, e3, e4]) rfl ?_
    refine ⟨by go_grown, .inl ⟨rfl, .slice A6 1 c6, rfl, ?_⟩⟩
    exact own_mono (own_set (own_set (own_set (own_set (own_set kO (p := ⟨w.heap.size + 1 + 1, 0, none⟩) _ zR) (p := ⟨w.heap.size + 1 + 1, 1, none⟩) _ zR) (p := ⟨w.heap.size + 1 + 1, 2, none⟩) _ zR) (p := ⟨w.heap.size + 1 + 1, 3, none⟩) _ zR) (p := ⟨w.heap.size + 1 + 1, 4, none⟩) _ zR) (by omega)

set_option maxRecDepth 100000 in
set_option maxHeartbeats 2000000 in
theorem refNext_n (j : Jb) (s : Sr) (A : Option Addr) (n c : Nat) (w : World) (hj : j.Wf) (hs : s.Wf) (hr : Reads w w.heap.size 3 A n (evs s.evs)) (hm : n ≤ 9223372036854775807) (hC0 : checkS j s = 0) (h2 : s.ended = false) (k : Nat) (hk : s.done = k) (hlt : k < n) (hn : n ≤ 1000) (x : Ev) (hxe : ∀ h : k < s.evs.length, s.evs[k] = x) (rv : Int × Nat) (HR : Hid (runZ (maxZ j.limit) (fuelZ j.fuel).toNat x.v = rv)) (tz : Int) (HT : Hid (subZ x.at_ j.delay = tz)) (h3 : ¬ s.mark ≤ x.at_) (h5 : ¬ s.mark < tz) :
    Calls Try.prog 10 #[.agg #[.int .i64 j.groups, .int .i64 j.size, .int .i64 j.slide, .int .i64 j.fold, .int .i64 j.fuel, .int .i64 j.limit, .int .i64 j.delay, .int .i64 j.idle], .agg #[.slice A n c, .int .i64 s.done, .int .i64 s.mark, .int .i64 s.quiet, .bool s.ended]] w (StepPost A n c ((⟨s.evs, (k : Int) + 1, s.mark, 0, s.ended⟩ : Sr), [], 0) w) := by
    have hk2 : ((k : Int) == (n : Int)) = false := by simp; omega
    have hw1 : IntKind.i64.wrap ((k : Int) + 1) = (k : Int) + 1 := IntWalk.i64_in _ (by omega)
    have HK := Lib.hid hk
    clear hk
    obtain ⟨i0, hi0, hz0, hz1, hz2⟩ := info_parts infoItm
    have H2 := Lib.hid h2
    clear h2
    go_enter Try.func10, Try.ntmps10
    go_wp2_with fail
    refine (checkS_any j s A n c _ hj hs (reads_alloc (reads_alloc (reads_alloc hr))) hm).mono ?_
    rw [hC0]
    rintro e w1 ⟨rfl, hb1⟩
    obtain ⟨c1, f1⟩ := bcell hb1
    have y1 := hb1.size
    try simp at y1
    have z0_0_1 : w.heap.size < w1.heap.size := by omega
    have z0_1_1 : w.heap.size + 1 < w1.heap.size := by omega
    have z0_2_1 : w.heap.size + 1 + 1 < w1.heap.size := by omega
    have k1 : Below w.heap.size w w1 := next_below (by go_grown) hb1
    have bJ1 : Blk w1 w.heap.size 23 _ := (((Blk.new w 23 #[.int .i64 j.groups, .int .i64 j.size, .int .i64 j.slide, .int .i64 j.fold, .int .i64 j.fuel, .int .i64 j.limit, .int .i64 j.delay, .int .i64 j.idle]).alloc (.cells #[.slice A n c, .int .i64 s.done, .int .i64 s.mark, .int .i64 s.quiet, .bool s.ended] 26)).alloc (.cells #[.slice none 0 0, .int .i64 0, .int .i64 0, .int .i64 0, .bool false] 26)).below hb1 (by simp; omega)
    have bS1 : Blk w1 (w.heap.size + 1) 26 #[.slice A n c, .int .i64 s.done, .int .i64 s.mark, .int .i64 s.quiet, .bool s.ended] := ((by simpa using (Blk.new (w.alloc (.cells #[.int .i64 j.groups, .int .i64 j.size, .int .i64 j.slide, .int .i64 j.fold, .int .i64 j.fuel, .int .i64 j.limit, .int .i64 j.delay, .int .i64 j.idle] 23)) 26 #[.slice A n c, .int .i64 s.done, .int .i64 s.mark, .int .i64 s.quiet, .bool s.ended]).alloc (.cells #[.slice none 0 0, .int .i64 0, .int .i64 0, .int .i64 0, .bool false] 26) : Blk _ (w.heap.size + 1) _ _)).below hb1 (by simp)
    have bR1 : Blk w1 (w.heap.size + 1 + 1) 26 #[.slice none 0 0, .int .i64 0, .int .i64 0, .int .i64 0, .bool false] := ((by simpa using Blk.new ((w.alloc (.cells #[.int .i64 j.groups, .int .i64 j.size, .int .i64 j.slide, .int .i64 j.fold, .int .i64 j.fuel, .int .i64 j.limit, .int .i64 j.delay, .int .i64 j.idle] 23)).alloc (.cells #[.slice A n c, .int .i64 s.done, .int .i64 s.mark, .int .i64 s.quiet, .bool s.ended] 26)) 26 #[.slice none 0 0, .int .i64 0, .int .i64 0, .int .i64 0, .bool false] : Blk _ (w.heap.size + 1 + 1) _ _)).below hb1 (by simp)
    have rr0 : w1.cell? ⟨w.heap.size + 1 + 1, 0, none⟩ = some (.slice none 0 0) := bR1.cell 0
    have rr1 : w1.cell? ⟨w.heap.size + 1 + 1, 1, none⟩ = some (.int .i64 0) := bR1.cell 1
    have rr2 : w1.cell? ⟨w.heap.size + 1 + 1, 2, none⟩ = some (.int .i64 0) := bR1.cell 2
    have rr3 : w1.cell? ⟨w.heap.size + 1 + 1, 3, none⟩ = some (.int .i64 0) := bR1.cell 3
    have rr4 : w1.cell? ⟨w.heap.size + 1 + 1, 4, none⟩ = some (.bool false) := bR1.cell 4
    have fR := bR1.frozen
    have s0 : w1.cell? ⟨w.heap.size + 1, 0, none⟩ = some (.slice A n c) := bS1.cell 0
    have s1 : w1.cell? ⟨w.heap.size + 1, 1, none⟩ = some (.int .i64 s.done) := bS1.cell 1
    have s2 : w1.cell? ⟨w.heap.size + 1, 2, none⟩ = some (.int .i64 s.mark) := bS1.cell 2
    have s3 : w1.cell? ⟨w.heap.size + 1, 3, none⟩ = some (.int .i64 s.quiet) := bS1.cell 3
    have s4 : w1.cell? ⟨w.heap.size + 1, 4, none⟩ = some (.bool s.ended) := bS1.cell 4
    have fS := bS1.frozen
    clear c1 f1
    clear hC0
    rw [H2.out] at s4
    go_upto_region 7 with fail
    have st0 : RefSt j (.slice A n c) s.done s.mark s.quiet s.ended (.slice (some ⟨w1.heap.size, 0, none⟩) 0 0) [] w1.heap.size w (w1.alloc (.cells #[] 43)) := ⟨bJ1.alloc _, bS1.alloc _, bR1.alloc _, World.ownsRow_made w1 #[] 0 (Nat.le_refl _) (by unfold maxLen; omega) rfl, by omega, by simp, k1.alloc k1.size _⟩
    clear bJ1 bS1 bR1
    have kV : Below w.heap.size w (w1.alloc (.cells #[] 43)) := st0.below
    clear hb1 k1
    clear s0 s1 s2 s3 s4 rr0 rr1 rr2 rr3 rr4 fR fS
    generalize w1.alloc (.cells #[] 43) = V at *
    generalize w1.heap.size = bo at *
    have lV := st0.bs.lt
    have s0 : V.cell? ⟨w.heap.size + 1, 0, none⟩ = some (.slice A n c) := st0.bs.cell 0
    have s1 : V.cell? ⟨w.heap.size + 1, 1, none⟩ = some (.int .i64 s.done) := st0.bs.cell 1
    have s2 : V.cell? ⟨w.heap.size + 1, 2, none⟩ = some (.int .i64 s.mark) := st0.bs.cell 2
    have s3 : V.cell? ⟨w.heap.size + 1, 3, none⟩ = some (.int .i64 s.quiet) := st0.bs.cell 3
    have s4 : V.cell? ⟨w.heap.size + 1, 4, none⟩ = some (.bool s.ended) := st0.bs.cell 4
    have rr0 : V.cell? ⟨w.heap.size + 1 + 1, 0, none⟩ = some (.slice none 0 0) := st0.br.cell 0
    have rr1 : V.cell? ⟨w.heap.size + 1 + 1, 1, none⟩ = some (.int .i64 0) := st0.br.cell 1
    have rr2 : V.cell? ⟨w.heap.size + 1 + 1, 2, none⟩ = some (.int .i64 0) := st0.br.cell 2
    have rr3 : V.cell? ⟨w.heap.size + 1 + 1, 3, none⟩ = some (.int .i64 0) := st0.br.cell 3
    have rr4 : V.cell? ⟨w.heap.size + 1 + 1, 4, none⟩ = some (.bool false) := st0.br.cell 4
    have fR := st0.br.frozen
    have fS := st0.bs.frozen
    rw [HK.out] at s1
    have j4 : V.cell? ⟨w.heap.size, 4, none⟩ = some (.int .i64 j.fuel) := st0.bj.cell 4
    obtain ⟨ad, hl', eA, had, x0, x1, x2⟩ := evs_get ((hr.below kV).more kV.size) hlt
    have hx := hs.v _ (List.getElem_mem hl')
    rw [hxe] at x0 x1 x2 hx
    subst eA
    have had' : (ad.add (k * 3)).block < V.heap.size := by rw [block_of_add]; exact had
    clear had hl' hxe
    go_upto_region 14 with fail
    have st1 := ((st0.set 1 (.int .i64 ((k : Int) + 1)) (done' := (k : Int) + 1) rfl).set 3 (.int .i64 0) (quiet' := 0) rfl)
    have zB : bo < V.heap.size := (st0.own.lt bo rfl).2
    have hSz : ((V.setCell ⟨w.heap.size + 1, 1, none⟩ (.int .i64 ((k : Int) + 1))).setCell ⟨w.heap.size + 1, 3, none⟩ (.int .i64 0)).heap.size = V.heap.size := by simp
    have st := st1.to (w3 := ((V.setCell ⟨w.heap.size + 1, 1, none⟩ (.int .i64 ((k : Int) + 1))).setCell ⟨w.heap.size + 1, 3, none⟩ (.int .i64 0)).alloc (.cells #[.string x.key, .int .i64 x.at_, .int .i64 x.v] 37)) (by go_grown)
    have bE : Blk (((V.setCell ⟨w.heap.size + 1, 1, none⟩ (.int .i64 ((k : Int) + 1))).setCell ⟨w.heap.size + 1, 3, none⟩ (.int .i64 0)).alloc (.cells #[.string x.key, .int .i64 x.at_, .int .i64 x.v] 37)) V.heap.size 37 #[.string x.key, .int .i64 x.at_, .int .i64 x.v] := by
      have h := Blk.new ((V.setCell ⟨w.heap.size + 1, 1, none⟩ (.int .i64 ((k : Int) + 1))).setCell ⟨w.heap.size + 1, 3, none⟩ (.int .i64 0)) 37 #[.string x.key, .int .i64 x.at_, .int .i64 x.v]
      rw [hSz] at h
      exact h
    clear st0 st1 kV j4 x0 x1 x2 had' hSz
    clear s0 s1 s2 s3 s4 rr0 rr1 rr2 rr3 rr4 fR fS
    generalize ((V.setCell ⟨w.heap.size + 1, 1, none⟩ (.int .i64 ((k : Int) + 1))).setCell ⟨w.heap.size + 1, 3, none⟩ (.int .i64 0)).alloc (.cells #[.string x.key, .int .i64 x.at_, .int .i64 x.v] 37) = U at *
    generalize V.heap.size = eb at *
    have s0 : U.cell? ⟨w.heap.size + 1, 0, none⟩ = some (.slice (some ad) n c) := st.bs.cell 0
    have s1 : U.cell? ⟨w.heap.size + 1, 1, none⟩ = some (.int .i64 ((k : Int) + 1)) := st.bs.cell 1
    have s2 : U.cell? ⟨w.heap.size + 1, 2, none⟩ = some (.int .i64 s.mark) := st.bs.cell 2
    have s3 : U.cell? ⟨w.heap.size + 1, 3, none⟩ = some (.int .i64 0) := st.bs.cell 3
    have s4 : U.cell? ⟨w.heap.size + 1, 4, none⟩ = some (.bool s.ended) := st.bs.cell 4
    have rr0 : U.cell? ⟨w.heap.size + 1 + 1, 0, none⟩ = some (.slice none 0 0) := st.br.cell 0
    have rr1 : U.cell? ⟨w.heap.size + 1 + 1, 1, none⟩ = some (.int .i64 0) := st.br.cell 1
    have rr2 : U.cell? ⟨w.heap.size + 1 + 1, 2, none⟩ = some (.int .i64 0) := st.br.cell 2
    have rr3 : U.cell? ⟨w.heap.size + 1 + 1, 3, none⟩ = some (.int .i64 0) := st.br.cell 3
    have rr4 : U.cell? ⟨w.heap.size + 1 + 1, 4, none⟩ = some (.bool false) := st.br.cell 4
    have fR := st.br.frozen
    have fS := st.bs.frozen
    have q0 : U.cell? ⟨eb, 0, none⟩ = some (.string x.key) := bE.cell 0
    have q1 : U.cell? ⟨eb, 1, none⟩ = some (.int .i64 x.at_) := bE.cell 1
    have q2 : U.cell? ⟨eb, 2, none⟩ = some (.int .i64 x.v) := bE.cell 2
    have j4 : U.cell? ⟨w.heap.size, 4, none⟩ = some (.int .i64 j.fuel) := st.bj.cell 4
    have j5 : U.cell? ⟨w.heap.size, 5, none⟩ = some (.int .i64 j.limit) := st.bj.cell 5
    have j6 : U.cell? ⟨w.heap.size, 6, none⟩ = some (.int .i64 j.delay) := st.bj.cell 6
    have st4 := st
    have bE4 := bE
    clear st bE j4 j5 j6 q0 q1 q2
    clear s0 s1 s2 s3 s4 rr0 rr1 rr2 rr3 rr4 fR fS
    have s0 : U.cell? ⟨w.heap.size + 1, 0, none⟩ = some (.slice (some ad) n c) := st4.bs.cell 0
    have s1 : U.cell? ⟨w.heap.size + 1, 1, none⟩ = some (.int .i64 ((k : Int) + 1)) := st4.bs.cell 1
    have s2 : U.cell? ⟨w.heap.size + 1, 2, none⟩ = some (.int .i64 s.mark) := st4.bs.cell 2
    have s3 : U.cell? ⟨w.heap.size + 1, 3, none⟩ = some (.int .i64 0) := st4.bs.cell 3
    have s4 : U.cell? ⟨w.heap.size + 1, 4, none⟩ = some (.bool s.ended) := st4.bs.cell 4
    have rr0 : U.cell? ⟨w.heap.size + 1 + 1, 0, none⟩ = some (.slice none 0 0) := st4.br.cell 0
    have rr1 : U.cell? ⟨w.heap.size + 1 + 1, 1, none⟩ = some (.int .i64 0) := st4.br.cell 1
    have rr2 : U.cell? ⟨w.heap.size + 1 + 1, 2, none⟩ = some (.int .i64 0) := st4.br.cell 2
    have rr3 : U.cell? ⟨w.heap.size + 1 + 1, 3, none⟩ = some (.int .i64 0) := st4.br.cell 3
    have rr4 : U.cell? ⟨w.heap.size + 1 + 1, 4, none⟩ = some (.bool false) := st4.br.cell 4
    have fR := st4.br.frozen
    have fS := st4.bs.frozen
    have q1 : U.cell? ⟨eb, 1, none⟩ = some (.int .i64 x.at_) := bE4.cell 1
    have j6 : U.cell? ⟨w.heap.size, 6, none⟩ = some (.int .i64 j.delay) := st4.bj.cell 6
    go_wp2_with fail
    go_quiet ((first | (go_at_call 29; refine (quiet_left (refSub_any _ _ _)).mono ?_; rw [HT.out]; exact fun _ _ h => h)))
    go_wp2
    have st5 := st4.drewN nq
    have bZ := ((((st5.br.set_ 0 (.slice (some ad) n c)).set_ 1 (.int .i64 ((k : Int) + 1))).set_ 2 (.int .i64 s.mark)).set_ 3 (.int .i64 0)).set_ 4 (.bool s.ended)
    have e0 : World.cell? _ ⟨w.heap.size + 1 + 1, 0, none⟩ = some (.slice (some ad) n c) := bZ.cell 0
    have e1 : World.cell? _ ⟨w.heap.size + 1 + 1, 1, none⟩ = some (.int .i64 ((k : Int) + 1)) := bZ.cell 1
    have e2 : World.cell? _ ⟨w.heap.size + 1 + 1, 2, none⟩ = some (.int .i64 s.mark) := bZ.cell 2
    have e3 : World.cell? _ ⟨w.heap.size + 1 + 1, 3, none⟩ = some (.int .i64 0) := bZ.cell 3
    have e4 : World.cell? _ ⟨w.heap.size + 1 + 1, 4, none⟩ = some (.bool s.ended) := bZ.cell 4
    have kB := st5.below
    have kO := st5.own
    have zR := st5.lo
    refine bodyPost_ret (v := .tuple #[.agg #[(.slice (some ad) n c), (.int .i64 ((k : Int) + 1)), (.int .i64 s.mark), (.int .i64 0), (.bool s.ended)], .slice (some ⟨bo, 0, none⟩) 0 0, .int .i64 0]) (by simp [results, Try.results10, go_sem, e0, e1, e2, e3, e4]) rfl ?_
    refine ⟨by go_grown, .inl ⟨rfl, .slice (some ⟨bo, 0, none⟩) 0 0, rfl, ?_⟩⟩
    exact own_mono (own_set (own_set (own_set (own_set (own_set kO (p := ⟨w.heap.size + 1 + 1, 0, none⟩) _ zR) (p := ⟨w.heap.size + 1 + 1, 1, none⟩) _ zR) (p := ⟨w.heap.size + 1 + 1, 2, none⟩) _ zR) (p := ⟨w.heap.size + 1 + 1, 3, none⟩) _ zR) (p := ⟨w.heap.size + 1 + 1, 4, none⟩) _ zR) (by omega)

end Go.Proofs.Ytmlejdcanlgpdaa
