/- Walks of the play's tell and lose. -/
import Derived.Test.YtplodggiifachaaPly0
import Derived.Deep.RegionLaw
import Derived.Deep.CutRange
namespace Go.Proofs.Ytplodggiifachaa
open Go.RowKit
set_option linter.unusedVariables false
set_option linter.unusedSimpArgs false

theorem infoInt : (Try.prog.info? 3).map (fun i => (i.zero, i.size, i.bytes)) = some (some (.int .i64 0), 1, 8) := by kernel_rfl
/-- What a call on a play leaves. -/
def PlyPost (pb : Nat) (p : Ply) (w : World) (e : Ending) (w' : World) : Prop := e = .returned (.tuple #[]) ∧ PlyM pb p w' ∧ Below pb w w' ∧ w.heap.size ≤ w'.heap.size

set_option maxHeartbeats 2000000 in
theorem tell_any (pb : Nat) (p : Ply) (i : Nat) (x : Pk) (e' q' : Int) (tk : Bool) (w : World) (hi : p.way[i]? = some x) (hT : takeZ p.rE p.rW x.ep x.no x.body = (e', q', tk, 0)) (hxs : x.body.size ≤ maxLen) (hl : p.way.length ≤ 100000 ∧ p.got.length ≤ 100000 ∧ p.wants.length ≤ 100000) (hM : PlyM pb p w) :
    Calls Try.prog 30 #[.pointer (some ⟨pb, 0, none⟩), .int .i64 i] w (PlyPost pb { p with rE := e', rW := q', got := if tk then p.got ++ [x.body] else p.got, wants := p.wants ++ [q'] } w) := by
  obtain ⟨A, c, vw, vp, vg, vn, hQ, hc, hR⟩ := hM
  obtain ⟨Aw, cw, rfl⟩ := own_succ' hR.ow
  have hin := (List.getElem?_eq_some_iff.1 hi).1
  have hrw := Reads.of_own hR.ow
  obtain ⟨ad, hil, rfl, hab, x0, x1, x2⟩ := pks_get hrw hin
  rw [List.getElem?_eq_getElem hil] at hi
  injection hi with hi
  rw [hi] at x0 x1 x2
  have HT := Lib.hid hT
  clear hT hi
  have lq := hQ.lt
  have p4 : w.cell? ⟨pb, 4, none⟩ = some (.int .i64 p.rE) := hQ.cell 4
  have p5 : w.cell? ⟨pb, 5, none⟩ = some (.int .i64 p.rW) := hQ.cell 5
  have p6 : w.cell? ⟨pb, 6, none⟩ = some ((.slice (some ad) p.way.length cw)) := hQ.cell 6
  have HW := Lib.hid hR.on
  obtain ⟨got', hgot⟩ : ∃ g, (if tk then p.got ++ [x.body] else p.got) = g := ⟨_, rfl⟩
  rw [hgot]
  have HG := Lib.hid hgot
  clear hgot
  go_enter Try.func30, Try.ntmps30
  go_wp2_with fail
  have bX := Blk.new w 25 #[.int .i64 x.ep, .int .i64 x.no, .string x.body]
  have bQ := hQ.alloc (.cells #[.int .i64 x.ep, .int .i64 x.no, .string x.body] 25)
  have hRV := hR.alloc (.cells #[.int .i64 x.ep, .int .i64 x.no, .string x.body] 25)
  have kV : Below pb w (w.alloc (.cells #[.int .i64 x.ep, .int .i64 x.no, .string x.body] 25)) := (Below.refl _ w).alloc (by omega) _
  have hVs : w.heap.size + 1 = (w.alloc (.cells #[.int .i64 x.ep, .int .i64 x.no, .string x.body] 25)).heap.size := by simp
  generalize w.alloc (.cells #[.int .i64 x.ep, .int .i64 x.no, .string x.body] 25) = V at *
  clear p4 p5 p6 x0 x1 x2 hQ
  go_cut [5, 6, 7] from 15 to 24 (fun r is er wx => ∃ rb, r = .pointer (some ⟨rb, 0, none⟩) ∧ is = .bool tk ∧ er = .int .i64 0 ∧ Blk wx rb 23 #[.int .i64 e', .int .i64 q'] ∧ Blk wx w.heap.size 25 #[.int .i64 x.ep, .int .i64 x.no, .string x.body] ∧ Blk wx pb 53 (plyC p A c (.slice (some ad) p.way.length cw) vp vg vn) ∧ Rws pb p A (.slice (some ad) p.way.length cw) vp vg vn wx ∧ Below pb w wx ∧ w.heap.size < rb)
  case first =>
    have lX := bX.lt
    have lQ := bQ.lt
    have p4 : V.cell? ⟨pb, 4, none⟩ = some (.int .i64 p.rE) := bQ.cell 4
    have p5 : V.cell? ⟨pb, 5, none⟩ = some (.int .i64 p.rW) := bQ.cell 5
    have x0 : V.cell? ⟨w.heap.size, 0, none⟩ = some (.int .i64 x.ep) := bX.cell 0
    have x1 : V.cell? ⟨w.heap.size, 1, none⟩ = some (.int .i64 x.no) := bX.cell 1
    have x2 : V.cell? ⟨w.heap.size, 2, none⟩ = some (.string x.body) := bX.cell 2
    go_region_held3 (fun y => y.cell? ⟨pb, 4, none⟩ = some (.int .i64 p.rE) ∧ y.cell? ⟨pb, 5, none⟩ = some (.int .i64 p.rW) ∧ y.cell? ⟨w.heap.size, 0, none⟩ = some (.int .i64 x.ep) ∧ y.cell? ⟨w.heap.size, 1, none⟩ = some (.int .i64 x.no) ∧ y.cell? ⟨w.heap.size, 2, none⟩ = some (.string x.body))
      (first | exact ⟨p4, p5, x0, x1, x2⟩ | exact ⟨pp4, pp5, xx0, xx1, xx2⟩ | exact ⟨qp4, qp5, qx0, qx1, qx2⟩ | go_keep)
      (first | (go_at_call 9; refine (take_any p.rE p.rW x.ep x.no x.body _ hxs).mono ?_; rw [HT.out]; rintro e w2 ⟨rfl, hb2⟩; first
        | (have k2 : Below V.heap.size V w2 := ⟨hb2.os, hb2.tape, hb2.output, hb2.size, hb2.block⟩; have ordA := True.intro; have bX2 := bX.below k2 lX; have bQ2 := bQ.below k2 lQ; have pp4 : w2.cell? ⟨pb, 4, none⟩ = some (.int .i64 p.rE) := bQ2.cell 4; have pp5 : w2.cell? ⟨pb, 5, none⟩ = some (.int .i64 p.rW) := bQ2.cell 5; have xx0 : w2.cell? ⟨w.heap.size, 0, none⟩ = some (.int .i64 x.ep) := bX2.cell 0; have xx1 : w2.cell? ⟨w.heap.size, 1, none⟩ = some (.int .i64 x.no) := bX2.cell 1; have xx2 : w2.cell? ⟨w.heap.size, 2, none⟩ = some (.string x.body) := bX2.cell 2)
        | (have k2 : Below V.heap.size V w2 := next_below (by go_grown) hb2; have ordB := True.intro; have bN2 : Blk w2 V.heap.size 23 #[.int .i64 0, .int .i64 0] := (Blk.new V.drew 23 #[.int .i64 0, .int .i64 0]).below hb2 (by simp); have nn0 : w2.cell? ⟨V.heap.size, 0, none⟩ = some (.int .i64 0) := bN2.cell 0; have nn1 : w2.cell? ⟨V.heap.size, 1, none⟩ = some (.int .i64 0) := bN2.cell 1; have fN := bN2.frozen; have bX2 := bX.below k2 lX; have bQ2 := bQ.below k2 lQ; have pp4 : w2.cell? ⟨pb, 4, none⟩ = some (.int .i64 p.rE) := bQ2.cell 4; have pp5 : w2.cell? ⟨pb, 5, none⟩ = some (.int .i64 p.rW) := bQ2.cell 5; have xx0 : w2.cell? ⟨w.heap.size, 0, none⟩ = some (.int .i64 x.ep) := bX2.cell 0; have xx1 : w2.cell? ⟨w.heap.size, 1, none⟩ = some (.int .i64 x.no) := bX2.cell 1; have xx2 : w2.cell? ⟨w.heap.size, 2, none⟩ = some (.string x.body) := bX2.cell 2; have nVP : pb ≠ V.heap.size := (by omega); have nVX : w.heap.size ≠ V.heap.size := (by omega); have bX3 := (bX2.far (p := ⟨V.heap.size, 0, none⟩) nVX (.int .i64 e')).far (p := ⟨V.heap.size, 1, none⟩) nVX (.int .i64 q'); have bQ3 := (bQ2.far (p := ⟨V.heap.size, 0, none⟩) nVP (.int .i64 e')).far (p := ⟨V.heap.size, 1, none⟩) nVP (.int .i64 q'); have qp4 := bQ3.cell 4; have qp5 := bQ3.cell 5; have qx0 := bX3.cell 0; have qx1 := bX3.cell 1; have qx2 := bX3.cell 2)))
    · have := ordA
      go_wp2_with fail
      go_meet
      have hR2 := hRV.below k2
      have kk := kV.trans (k2.mono (by omega))
      exact ⟨w2.heap.size, rfl, rfl, rfl, Blk.new w2 _ _, bX2.alloc _, bQ2.alloc _, hR2.alloc _, kk.alloc (by have := k2.size; omega) _, by have := k2.size; omega⟩
    · have := ordB
      go_wp2_with fail
      go_meet
      have hR2 := hRV.below k2
      have kk := kV.trans (k2.mono (by omega))
      have hs2 := k2.size
      exact ⟨V.heap.size, rfl, rfl, rfl, (bN2.set_ 0 (.int .i64 e')).set_ 1 (.int .i64 q'), bX3, bQ3, (hR2.set_new hRV (Nat.le_refl _) _).set_new hRV (Nat.le_refl _) _, (kk.setCell (p := ⟨V.heap.size, 0, none⟩) (by simp; omega) _).setCell (p := ⟨V.heap.size, 1, none⟩) (by simp; omega) _, by omega⟩
  case rest =>
    obtain ⟨rb, rfl, rfl, rfl, bR3, bX3, bQ3, hR3, k3, hrb⟩ := hcut
    clear bX bQ hRV kV hR HW hrw hab hVs
    have lR3 := bR3.lt
    have lX3 := bX3.lt
    have lQ3 := bQ3.lt
    have r0 : wc.cell? ⟨rb, 0, none⟩ = some (.int .i64 e') := bR3.cell 0
    have r1 : wc.cell? ⟨rb, 1, none⟩ = some (.int .i64 q') := bR3.cell 1
    have x2 : wc.cell? ⟨w.heap.size, 2, none⟩ = some (.string x.body) := bX3.cell 2
    have p4 : wc.cell? ⟨pb, 4, none⟩ = some (.int .i64 p.rE) := bQ3.cell 4
    have p5 : wc.cell? ⟨pb, 5, none⟩ = some (.int .i64 p.rW) := bQ3.cell 5
    have p8 : wc.cell? ⟨pb, 8, none⟩ = some (vg) := bQ3.cell 8
    have p10 : wc.cell? ⟨pb, 10, none⟩ = some (vn) := bQ3.cell 10
    have fQ := bQ3.frozen
    have bQ4 : Blk ((wc.setCell ⟨pb, 4, none⟩ (.int .i64 e')).setCell ⟨pb, 5, none⟩ (.int .i64 q')) pb 53 (plyC { p with rE := e', rW := q' } A c (.slice (some ad) p.way.length cw) vp vg vn) := by simpa [plyC] using (bQ3.set_ 4 (.int .i64 e')).set_ 5 (.int .i64 q')
    have hR4 := ((hR3.set 4 (.int .i64 e')).set 5 (.int .i64 q')).rcv e' q'
    have k4 := (k3.setCell (p := ⟨pb, 4, none⟩) (Nat.le_refl _) (.int .i64 e')).setCell (p := ⟨pb, 5, none⟩) (Nat.le_refl _) (.int .i64 q')
    have nRQ : rb ≠ pb := by omega
    have nXQ : w.heap.size ≠ pb := by omega
    have bR4 := (bR3.far (p := ⟨pb, 4, none⟩) nRQ (.int .i64 e')).far (p := ⟨pb, 5, none⟩) nRQ (.int .i64 q')
    have bX4 := (bX3.far (p := ⟨pb, 4, none⟩) nXQ (.int .i64 e')).far (p := ⟨pb, 5, none⟩) nXQ (.int .i64 q')
    obtain ⟨i0, hi0, hz0, hz1, hz2⟩ := info_parts infoInt
    obtain ⟨j0, hj0, jz0, jz1, jz2⟩ := info_parts infoStr
    cases tk
    · obtain rfl : p.got = got' := by have := HG.out; simpa using this
      go_wp2_with fail
      generalize (wc.setCell ⟨pb, 4, none⟩ (.int .i64 e')).setCell ⟨pb, 5, none⟩ (.int .i64 q') = W at *
      clear bQ3 hR3 k3 bR3 bX3 r0 r1 x2 p4 p5 p8 p10 fQ
      have lQ4 := bQ4.lt
      have lR4 := bR4.lt
      have r1 : W.cell? ⟨rb, 1, none⟩ = some (.int .i64 q') := bR4.cell 1
      have p10 : W.cell? ⟨pb, 10, none⟩ = some vn := bQ4.cell 10
      have fQ := bQ4.frozen
      have hR5 := hR4.alloc (.cells #[.int .i64 q'] 3)
      have hR5d := hR5.drew
      have hRd : Reads (W.alloc (.cells #[.int .i64 q'] 3)) (W.heap.size + 1) 1 (some ⟨W.heap.size, 0, none⟩) 1 [.int .i64 q'] := ⟨rfl, fun _ => ⟨_, rfl, by simp, fun j u hu => by cases j <;> simp_all [go_sem]⟩⟩
      have bQ5 := (bQ4.alloc (.cells #[.int .i64 q'] 3)).drew
      have hlw := hR5.on.1
      simp at hlw
      go_region_law (go_loud (refine step_append_any _ rfl (.tmp 50) (.tmp 53) 41 rfl (pb + 1) 3 i0 _ 1 8 Try.underlying41 hi0 hz0 hz1 hz2 rfl ?_ vn p.wants.length (p.wants.map (Value.int .i64)) ?_ ?_ (W.heap.size + 1) (some ⟨W.heap.size, 0, none⟩) 1 1 [.int .i64 q'] ?_ ?_ ?_ ?_ ?_ ?_ ?_; (first | decide); (first | rfl | simp [Act.eval, Act.put]); (first | exact hR5d.on); (first | rfl | simp [Act.eval, Act.put]); (first | exact hRd); (first | simp [Value.oneCell']); (first | (unfold maxLen; omega)); (first | omega); (first | (simp [World.drew]; omega)); intro v' w5 hown' hgrow hnb; obtain ⟨g3, cap3, rfl⟩ := own_succ hown'; have hR6 := hR5d.app_wants hgrow hown' hnb; have bQ6 := blk_far bQ5 hR5d.on (Nat.lt_succ_self _) hgrow; have q10 : w5.cell? ⟨pb, 10, none⟩ = some vn := bQ6.cell 10; have fQ6 := bQ6.frozen; have kk6 := (below_drew (k4.alloc (by omega) (.cells #[.int .i64 q'] 3))).grown hgrow (by simp [World.drew]; omega) (fun g hg => by have := (hR5d.on.lt g hg).1; omega); have hgs := hgrow.size))
      all_goals
        go_end0
        exact ⟨rfl, ⟨A, c, _, vp, vg, _, by simpa [plyC] using bQ6.set_ 10 (.slice (some ⟨g3, 0, none⟩) (p.wants.length + 1) cap3), hc, hR6.set 10 _⟩, kk6.setCell (p := ⟨pb, 10, none⟩) (Nat.le_refl _) _, by simp at hgs ⊢; omega⟩

    · obtain rfl : p.got ++ [x.body] = got' := by have := HG.out; simpa using this
      go_wp2_with fail
      generalize (wc.setCell ⟨pb, 4, none⟩ (.int .i64 e')).setCell ⟨pb, 5, none⟩ (.int .i64 q') = W at *
      clear bQ3 hR3 k3 bR3 bX3 r0 r1 x2 p4 p5 p8 p10 fQ
      have r1 : W.cell? ⟨rb, 1, none⟩ = some (.int .i64 q') := bR4.cell 1
      have x2 : W.cell? ⟨w.heap.size, 2, none⟩ = some (.string x.body) := bX4.cell 2
      have p8 : W.cell? ⟨pb, 8, none⟩ = some vg := bQ4.cell 8
      have fQ := bQ4.frozen
      have lQ4 := bQ4.lt
      have lR4 := bR4.lt
      have hR5 := hR4.alloc (.cells #[.string x.body] 9)
      have hR5d := hR5.drew
      have hRd : Reads (W.alloc (.cells #[.string x.body] 9)) (W.heap.size + 1) 1 (some ⟨W.heap.size, 0, none⟩) 1 [.string x.body] := ⟨rfl, fun _ => ⟨_, rfl, by simp, fun j u hu => by cases j <;> simp_all [go_sem]⟩⟩
      have bQ5 := (bQ4.alloc (.cells #[.string x.body] 9)).drew
      have bR5 := (bR4.alloc (.cells #[.string x.body] 9)).drew
      go_region_law (go_loud (refine step_append_any _ rfl (.tmp 39) (.tmp 42) 29 rfl (pb + 1) 9 j0 _ 1 16 Try.underlying29 hj0 jz0 jz1 jz2 rfl ?_ vg p.got.length (p.got.map Value.string) ?_ ?_ (W.heap.size + 1) (some ⟨W.heap.size, 0, none⟩) 1 1 [.string x.body] ?_ ?_ ?_ ?_ ?_ ?_ ?_; (first | decide); (first | rfl | simp [Act.eval, Act.put]); (first | exact hR5d.og); (first | rfl | simp [Act.eval, Act.put]); (first | exact hRd); (first | simp [Value.oneCell']); (first | (unfold maxLen; omega)); (first | omega); (first | (simp [World.drew]; omega)); intro v' w5 hown' hgrow hnb; obtain ⟨g3, cap3, rfl⟩ := own_succ hown'; have hR6 := hR5d.app_got hgrow hown' hnb; have bQ6 := blk_far bQ5 hR5d.og (Nat.lt_succ_self _) hgrow; have bR6 := bR5.grown hgrow (blk_row bR5 hR5d.og (by decide)); have q8 : w5.cell? ⟨pb, 8, none⟩ = some vg := bQ6.cell 8; have fQ6 := bQ6.frozen; have kk6 := (below_drew (k4.alloc (by omega) (.cells #[.string x.body] 9))).grown hgrow (by simp [World.drew]; omega) (fun g hg => by have := (hR5d.og.lt g hg).1; omega); have hgs := hgrow.size))
      all_goals
        have bQ7 : Blk (w5.setCell ⟨pb, 8, none⟩ (.slice (some ⟨g3, 0, none⟩) (p.got.length + 1) cap3)) pb 53 (plyC { p with rE := e', rW := q', got := p.got ++ [x.body] } A c (.slice (some ad) p.way.length cw) vp (.slice (some ⟨g3, 0, none⟩) (p.got.length + 1) cap3) vn) := by simpa [plyC] using bQ6.set_ 8 (.slice (some ⟨g3, 0, none⟩) (p.got.length + 1) cap3)
        have hR7 := hR6.set 8 (.slice (some ⟨g3, 0, none⟩) (p.got.length + 1) cap3)
        have kk7 := kk6.setCell (p := ⟨pb, 8, none⟩) (Nat.le_refl _) (.slice (some ⟨g3, 0, none⟩) (p.got.length + 1) cap3)
        have bR7 := bR6.far (p := ⟨pb, 8, none⟩) nRQ (.slice (some ⟨g3, 0, none⟩) (p.got.length + 1) cap3)
        have hW7 : w.heap.size + 1 ≤ (w5.setCell ⟨pb, 8, none⟩ (.slice (some ⟨g3, 0, none⟩) (p.got.length + 1) cap3)).heap.size := by simp at hgs ⊢; omega
        go_wp2_with fail
        generalize (w5.setCell ⟨pb, 8, none⟩ (.slice (some ⟨g3, 0, none⟩) (p.got.length + 1) cap3)) = Z at *
        clear hR4 bQ4 bR4 bX4 k4 hR5 hR5d bQ5 bR5 bQ6 bR6 hR6 q8 fQ6 kk6 r1 x2 p8 fQ hRd hgrow hown' hnb hgs lQ4 lR4
        have lQ4 := bQ7.lt
        have lR4 := bR7.lt
        have r1 : Z.cell? ⟨rb, 1, none⟩ = some (.int .i64 q') := bR7.cell 1
        have p10 : Z.cell? ⟨pb, 10, none⟩ = some vn := bQ7.cell 10
        have fQ := bQ7.frozen
        have hR5 := hR7.alloc (.cells #[.int .i64 q'] 3)
        have hR5d := hR5.drew
        have hRd : Reads (Z.alloc (.cells #[.int .i64 q'] 3)) (Z.heap.size + 1) 1 (some ⟨Z.heap.size, 0, none⟩) 1 [.int .i64 q'] := ⟨rfl, fun _ => ⟨_, rfl, by simp, fun j u hu => by cases j <;> simp_all [go_sem]⟩⟩
        have bQ5 := (bQ7.alloc (.cells #[.int .i64 q'] 3)).drew
        have hlw := hR5.on.1
        simp at hlw
        go_region_law (go_loud (refine step_append_any _ rfl (.tmp 50) (.tmp 53) 41 rfl (pb + 1) 3 i0 _ 1 8 Try.underlying41 hi0 hz0 hz1 hz2 rfl ?_ vn p.wants.length (p.wants.map (Value.int .i64)) ?_ ?_ (Z.heap.size + 1) (some ⟨Z.heap.size, 0, none⟩) 1 1 [.int .i64 q'] ?_ ?_ ?_ ?_ ?_ ?_ ?_; (first | decide); (first | rfl | simp [Act.eval, Act.put]); (first | exact hR5d.on); (first | rfl | simp [Act.eval, Act.put]); (first | exact hRd); (first | simp [Value.oneCell']); (first | (unfold maxLen; omega)); (first | omega); (first | (simp [World.drew]; omega)); intro v' w5 hown' hgrow hnb; obtain ⟨g3, cap3, rfl⟩ := own_succ hown'; have hR6 := hR5d.app_wants hgrow hown' hnb; have bQ6 := blk_far bQ5 hR5d.on (Nat.lt_succ_self _) hgrow; have q10 : w5.cell? ⟨pb, 10, none⟩ = some vn := bQ6.cell 10; have fQ6 := bQ6.frozen; have kk6 := (below_drew (kk7.alloc (by omega) (.cells #[.int .i64 q'] 3))).grown hgrow (by simp [World.drew]; omega) (fun g hg => by have := (hR5d.on.lt g hg).1; omega); have hgs := hgrow.size))
        all_goals
          go_end0
          exact ⟨rfl, ⟨A, c, _, vp, _, _, by simpa [plyC] using bQ6.set_ 10 (.slice (some ⟨g3, 0, none⟩) (p.wants.length + 1) cap3), hc, hR6.set 10 _⟩, kk6.setCell (p := ⟨pb, 10, none⟩) (Nat.le_refl _) _, by simp at hgs ⊢; omega⟩

end Go.Proofs.Ytplodggiifachaa
