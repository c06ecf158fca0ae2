/- Walks of package model's see, check and Mark. -/
import Derived.Test.YtgaknbgmodmniaaSrc8
import Derived.Deep.CutRange
namespace Go.Proofs.Ytgaknbgmodmniaa
open Go.RowKit
set_option linter.unusedVariables false
set_option linter.unusedSimpArgs false

/-- The time that a source tells behind its events. -/
def markL (j : Jb) (l : List Ev) : Int := l.foldl (markZ j) 0
def markM (j : Jb) (l : List Ev) : Int := if jobB j = true ∧ inB l = true then markL j l else 0
def checkZ (j : Jb) (l : List Ev) : Int := if jobB j = false then 130 else if inB l = false then 1 else 0
theorem markL_snoc (j : Jb) (l : List Ev) (x : Ev) : markL j (l ++ [x]) = markZ j (markL j l) x := by simp [markL]
/-- The cells of a source of package model. -/
def seeC (j : Jb) (m : Int) : Array Value := #[.int .i64 j.groups, .int .i64 j.size, .int .i64 j.slide, .int .i64 j.fold, .int .i64 j.fuel, .int .i64 j.limit, .int .i64 j.delay, .int .i64 j.idle, .int .i64 m]
/-- What looking at an event leaves. -/
def SeePost (sb : Nat) (j : Jb) (m : Int) (x : Ev) (w : World) (e : Ending) (w' : World) : Prop :=
  e = .returned (.tuple #[.agg #[.string (runE j x).key, .int .i64 (runE j x).at_, .int .i64 (runE j x).v], .bool (!decide (x.at_ < m))]) ∧ Blk w' sb 53 (seeC j (markZ j m x)) ∧ Turn sb sb (.slice none 0 0) (.slice none 0 0) w w'

theorem Turn.set_new {wb base : Nat} {v v' : Value} {w W : World} (h : Turn wb base v v' w W) {p : Addr} (hp : w.heap.size ≤ p.block) (u : Value) : Turn wb base v v' w (W.setCell p u) :=
  ⟨h.own, by simpa using h.size, fun i hi hne hv => (Below.heap_setCell W p u i (by omega)).trans (h.keep i hi hne hv), fun B a hBa b1 b2 b3 => (h.lift B a hBa b1 b2 b3).setCell (by omega) u⟩

set_option maxHeartbeats 4000000 in
theorem see_any (sb : Nat) (j : Jb) (m : Int) (x : Ev) (w : World) (hQ : Blk w sb 53 (seeC j m)) (hl : -9223372036854775808 ≤ j.limit ∧ j.limit ≤ 9223372036854775807) (hx : -9223372036854775808 ≤ x.v ∧ x.v ≤ 9223372036854775807) :
    Calls Try.prog 16 #[.pointer (some ⟨sb, 0, none⟩), .agg #[.string x.key, .int .i64 x.at_, .int .i64 x.v]] w (SeePost sb j m x w) := by
  have lq := hQ.lt
  obtain ⟨tz, htz⟩ : ∃ tz, subZ x.at_ j.delay = tz := ⟨_, rfl⟩
  have HT := Lib.hid htz
  clear htz
  obtain ⟨rv, hrv⟩ : ∃ rv, runZ (maxZ j.limit) (fuelZ j.fuel).toNat x.v = rv := ⟨_, rfl⟩
  have HR := Lib.hid hrv
  clear hrv
  have hrE : runE j x = ⟨x.key, x.at_, rv.1⟩ := by unfold runE; rw [HR.out]
  obtain ⟨mz, hmz⟩ : ∃ mz, markZ j m x = mz := ⟨_, rfl⟩
  unfold SeePost
  rw [hrE, hmz]
  have h5 : (m < tz ∧ tz = mz) ∨ (tz ≤ m ∧ m = mz) := by
    rw [← hmz]
    unfold markZ
    rw [HT.out]
    by_cases h : m < tz
    · exact .inl ⟨h, (if_pos h).symm⟩
    · exact .inr ⟨by omega, (if_neg h).symm⟩
  clear hrE hmz
  have hQ0 := (hQ.alloc (.cells #[.string x.key, .int .i64 x.at_, .int .i64 x.v] 30)).alloc (.cells #[.string ⟨#[]⟩, .int .i64 0, .int .i64 0] 30)
  have bE0 := (Blk.new w 30 #[.string x.key, .int .i64 x.at_, .int .i64 x.v]).alloc (.cells #[.string ⟨#[]⟩, .int .i64 0, .int .i64 0] 30)
  have bR0 : Blk ((w.alloc (.cells #[.string x.key, .int .i64 x.at_, .int .i64 x.v] 30)).alloc (.cells #[.string ⟨#[]⟩, .int .i64 0, .int .i64 0] 30)) (w.heap.size + 1) 30 #[.string ⟨#[]⟩, .int .i64 0, .int .i64 0] := by simpa using Blk.new (w.alloc (.cells #[.string x.key, .int .i64 x.at_, .int .i64 x.v] 30)) 30 #[.string ⟨#[]⟩, .int .i64 0, .int .i64 0]
  have T0 : Turn sb sb (.slice none 0 0) (.slice none 0 0) w ((w.alloc (.cells #[.string x.key, .int .i64 x.at_, .int .i64 x.v] 30)).alloc (.cells #[.string ⟨#[]⟩, .int .i64 0, .int .i64 0] 30)) := Turn.of_below (by go_grown)
  rcases h5 with ⟨h5, rfl⟩ | ⟨h5, rfl⟩
  · go_enter Try.func16, Try.ntmps16
    go_wp2_with fail
    generalize ((w.alloc (.cells #[.string x.key, .int .i64 x.at_, .int .i64 x.v] 30)).alloc (.cells #[.string ⟨#[]⟩, .int .i64 0, .int .i64 0] 30)) = V0 at *
    have lE0 := bE0.lt
    have lR0 := bR0.lt
    have nE : sb ≠ w.heap.size := by omega
    have nR : sb ≠ w.heap.size + 1 := by omega
    have e1 : V0.cell? ⟨w.heap.size, 1, none⟩ = some (.int .i64 x.at_) := bE0.cell 1
    have r6 : V0.cell? ⟨sb, 6, none⟩ = some (.int .i64 j.delay) := hQ0.cell 6
    have r8 : V0.cell? ⟨sb, 8, none⟩ = some (.int .i64 m) := hQ0.cell 8
    have fQ := hQ0.frozen
    go_region
    go_wp2_with fail
    have bQ8 : Blk (V0.setCell ⟨sb, 8, none⟩ (.int .i64 tz)) sb 53 (seeC j tz) := by simpa [seeC] using hQ0.set_ 8 (.int .i64 tz)
    go_cut [] from 9 to 49 (fun wx => Blk wx sb 53 (seeC j tz) ∧ Blk wx w.heap.size 30 #[.string x.key, .int .i64 x.at_, .int .i64 x.v] ∧ Blk wx (w.heap.size + 1) 30 #[.string ⟨#[]⟩, .int .i64 0, .int .i64 0] ∧ Turn sb sb (.slice none 0 0) (.slice none 0 0) w wx)
    case first =>
      go_region_with (go_at_call 27; refine (sub_any _ _ _).mono ?_; rw [HT.out]; rintro e w' ⟨rfl, rfl⟩)
      all_goals
        go_wp2_with fail
        go_meet
        exact ⟨bQ8, bE0.far (p := ⟨sb, 8, none⟩) nE.symm _, bR0.far (p := ⟨sb, 8, none⟩) nR.symm _, ((T0.then_ (Turn.set V0 8 _)).drew).drew⟩
    case rest =>
      obtain ⟨bQ2, bE2, bR2, T2⟩ := hcut
      clear e1 r6 r8 fQ hQ0 bE0 bR0 T0 lE0 lR0
      have lE2 := bE2.lt
      have lQ2 := bQ2.lt
      have lR2 := bR2.lt
      have e0 : wc.cell? ⟨w.heap.size, 0, none⟩ = some (.string x.key) := bE2.cell 0
      have e1 : wc.cell? ⟨w.heap.size, 1, none⟩ = some (.int .i64 x.at_) := bE2.cell 1
      have e2 : wc.cell? ⟨w.heap.size, 2, none⟩ = some (.int .i64 x.v) := bE2.cell 2
      have r4 : wc.cell? ⟨sb, 4, none⟩ = some (.int .i64 j.fuel) := bQ2.cell 4
      have r5 : wc.cell? ⟨sb, 5, none⟩ = some (.int .i64 j.limit) := bQ2.cell 5
      go_wp2_with fail
      go_region_held3 (fun y => y.cell? ⟨w.heap.size, 0, none⟩ = some (.string x.key) ∧ y.cell? ⟨w.heap.size, 1, none⟩ = some (.int .i64 x.at_) ∧ y.cell? ⟨w.heap.size, 2, none⟩ = some (.int .i64 x.v) ∧ y.cell? ⟨sb, 4, none⟩ = some (.int .i64 j.fuel) ∧ y.cell? ⟨sb, 5, none⟩ = some (.int .i64 j.limit))
        (first | exact ⟨e0, e1, e2, r4, r5⟩ | exact ⟨ee0, ee1, ee2, rr4, rr5⟩ | exact ⟨ff0, ff1, ff2, gg4, gg5⟩ | go_keep)
        (first | (go_at_call 6; refine (run_any x.key x.at_ x.v j.limit j.fuel _ hx hl.2).mono ?_; rw [HR.out]; rintro e w3 ⟨rfl, hb3⟩; first
          | (have k3 : Below wc.heap.size wc w3 := ⟨hb3.os, hb3.tape, hb3.output, hb3.size, hb3.block⟩; have ordA := True.intro; have bQ3 := bQ2.below k3 lQ2; have bE3 := bE2.below k3 lE2; have bR3 := bR2.below k3 lR2; have ee0 : w3.cell? ⟨w.heap.size, 0, none⟩ = some (.string x.key) := bE3.cell 0; have ee1 : w3.cell? ⟨w.heap.size, 1, none⟩ = some (.int .i64 x.at_) := bE3.cell 1; have ee2 : w3.cell? ⟨w.heap.size, 2, none⟩ = some (.int .i64 x.v) := bE3.cell 2; have rr4 : w3.cell? ⟨sb, 4, none⟩ = some (.int .i64 j.fuel) := bQ3.cell 4; have rr5 : w3.cell? ⟨sb, 5, none⟩ = some (.int .i64 j.limit) := bQ3.cell 5)
          | (have k3 : Below wc.heap.size wc w3 := next_below (by go_grown) hb3; have ordB := True.intro; have bN3 : Blk w3 wc.heap.size 30 #[.string ⟨#[]⟩, .int .i64 0, .int .i64 0] := (Blk.new wc.drew 30 #[.string ⟨#[]⟩, .int .i64 0, .int .i64 0]).below hb3 (by simp); have nn0 : w3.cell? ⟨wc.heap.size, 0, none⟩ = some (.string ⟨#[]⟩) := bN3.cell 0; have nn1 : w3.cell? ⟨wc.heap.size, 1, none⟩ = some (.int .i64 0) := bN3.cell 1; have nn2 : w3.cell? ⟨wc.heap.size, 2, none⟩ = some (.int .i64 0) := bN3.cell 2; have fN := bN3.frozen; have nVE : w.heap.size ≠ wc.heap.size := (by omega); have nVQ : sb ≠ wc.heap.size := (by omega); have nVR : w.heap.size + 1 ≠ wc.heap.size := (by omega); have bR4 := (((bR2.below k3 lR2).far (p := ⟨wc.heap.size, 0, none⟩) nVR (.string x.key)).far (p := ⟨wc.heap.size, 1, none⟩) nVR (.int .i64 x.at_)).far (p := ⟨wc.heap.size, 2, none⟩) nVR (.int .i64 rv.1); have bE4 := (((bE2.below k3 lE2).far (p := ⟨wc.heap.size, 0, none⟩) nVE (.string x.key)).far (p := ⟨wc.heap.size, 1, none⟩) nVE (.int .i64 x.at_)).far (p := ⟨wc.heap.size, 2, none⟩) nVE (.int .i64 rv.1); have bQ4 := (((bQ2.below k3 lQ2).far (p := ⟨wc.heap.size, 0, none⟩) nVQ (.string x.key)).far (p := ⟨wc.heap.size, 1, none⟩) nVQ (.int .i64 x.at_)).far (p := ⟨wc.heap.size, 2, none⟩) nVQ (.int .i64 rv.1); have ff0 := bE4.cell 0; have ff1 := bE4.cell 1; have ff2 := bE4.cell 2; have gg4 := bQ4.cell 4; have gg5 := bQ4.cell 5; have bQ3 := bQ2.below k3 lQ2; have bE3 := bE2.below k3 lE2; have bR3 := bR2.below k3 lR2; have ee0 : w3.cell? ⟨w.heap.size, 0, none⟩ = some (.string x.key) := bE3.cell 0; have ee1 : w3.cell? ⟨w.heap.size, 1, none⟩ = some (.int .i64 x.at_) := bE3.cell 1; have ee2 : w3.cell? ⟨w.heap.size, 2, none⟩ = some (.int .i64 x.v) := bE3.cell 2; have rr4 : w3.cell? ⟨sb, 4, none⟩ = some (.int .i64 j.fuel) := bQ3.cell 4; have rr5 : w3.cell? ⟨sb, 5, none⟩ = some (.int .i64 j.limit) := bQ3.cell 5)))
      all_goals
        first
          | (have := ordA; have bQU := bQ3.alloc (.cells #[.string x.key, .int .i64 x.at_, .int .i64 rv.1] 30); have bRU := bR3.alloc (.cells #[.string x.key, .int .i64 x.at_, .int .i64 rv.1] 30); have bNU := Blk.new w3 30 #[.string x.key, .int .i64 x.at_, .int .i64 rv.1]; have TU := T2.then_ (Turn.of_below (k3.alloc k3.size (.cells #[.string x.key, .int .i64 x.at_, .int .i64 rv.1] 30))); clear ordA bQ3 bE3 bR3; generalize w3.alloc (.cells #[.string x.key, .int .i64 x.at_, .int .i64 rv.1] 30) = U at *)
          | (have := ordB; have bQU := bQ4; have bRU := bR4; have bNU := ((bN3.set_ 0 (.string x.key)).set_ 1 (.int .i64 x.at_)).set_ 2 (.int .i64 rv.1); have TU := T2.then_ (Turn.of_below (((k3.setCell (p := ⟨wc.heap.size, 0, none⟩) (Nat.le_refl _) (.string x.key)).setCell (p := ⟨wc.heap.size, 1, none⟩) (Nat.le_refl _) (.int .i64 x.at_)).setCell (p := ⟨wc.heap.size, 2, none⟩) (Nat.le_refl _) (.int .i64 rv.1))); clear ordB bQ4 bE4 bR4 ff0 ff1 ff2 gg4 gg5; generalize ((w3.setCell ⟨wc.heap.size, 0, none⟩ (.string x.key)).setCell ⟨wc.heap.size, 1, none⟩ (.int .i64 x.at_)).setCell ⟨wc.heap.size, 2, none⟩ (.int .i64 rv.1) = U at *)
        have n0 := bNU.cell 0
        have n1 := bNU.cell 1
        have n2 := bNU.cell 2
        simp at n0 n1 n2
        have rr0 : U.cell? ⟨w.heap.size + 1, 0, none⟩ = some (.string ⟨#[]⟩) := bRU.cell 0
        have rr1 : U.cell? ⟨w.heap.size + 1, 1, none⟩ = some (.int .i64 0) := bRU.cell 1
        have rr2 : U.cell? ⟨w.heap.size + 1, 2, none⟩ = some (.int .i64 0) := bRU.cell 2
        have fR := bRU.frozen
        go_wp2
        have bZ := ((bRU.set_ 0 (.string x.key)).set_ 1 (.int .i64 x.at_)).set_ 2 (.int .i64 rv.1)
        have z0 : World.cell? _ ⟨w.heap.size + 1, 0, none⟩ = some (.string x.key) := bZ.cell 0
        have z1 : World.cell? _ ⟨w.heap.size + 1, 1, none⟩ = some (.int .i64 x.at_) := bZ.cell 1
        have z2 : World.cell? _ ⟨w.heap.size + 1, 2, none⟩ = some (.int .i64 rv.1) := bZ.cell 2
        refine bodyPost_ret (v := .tuple #[.agg #[.string x.key, .int .i64 x.at_, .int .i64 rv.1], .bool (!decide (x.at_ < m))]) (by simp [results, Try.results16, go_sem, z0, z1, z2]) rfl ?_
        exact ⟨rfl, ((bQU.far (p := ⟨w.heap.size + 1, 0, none⟩) nR _).far (p := ⟨w.heap.size + 1, 1, none⟩) nR _).far (p := ⟨w.heap.size + 1, 2, none⟩) nR _, ((TU.set_new (p := ⟨w.heap.size + 1, 0, none⟩) (by simp) _).set_new (p := ⟨w.heap.size + 1, 1, none⟩) (by simp) _).set_new (p := ⟨w.heap.size + 1, 2, none⟩) (by simp) _⟩
  · go_enter Try.func16, Try.ntmps16
    go_wp2_with fail
    generalize ((w.alloc (.cells #[.string x.key, .int .i64 x.at_, .int .i64 x.v] 30)).alloc (.cells #[.string ⟨#[]⟩, .int .i64 0, .int .i64 0] 30)) = V0 at *
    have lE0 := bE0.lt
    have lR0 := bR0.lt
    have nE : sb ≠ w.heap.size := by omega
    have nR : sb ≠ w.heap.size + 1 := by omega
    have e1 : V0.cell? ⟨w.heap.size, 1, none⟩ = some (.int .i64 x.at_) := bE0.cell 1
    have r6 : V0.cell? ⟨sb, 6, none⟩ = some (.int .i64 j.delay) := hQ0.cell 6
    have r8 : V0.cell? ⟨sb, 8, none⟩ = some (.int .i64 m) := hQ0.cell 8
    have fQ := hQ0.frozen
    go_region
    go_wp2_with fail
    have bQ8 : Blk (V0.setCell ⟨sb, 8, none⟩ (.int .i64 m)) sb 53 (seeC j m) := by simpa [seeC] using hQ0.set_ 8 (.int .i64 m)
    go_cut [] from 9 to 49 (fun wx => Blk wx sb 53 (seeC j m) ∧ Blk wx w.heap.size 30 #[.string x.key, .int .i64 x.at_, .int .i64 x.v] ∧ Blk wx (w.heap.size + 1) 30 #[.string ⟨#[]⟩, .int .i64 0, .int .i64 0] ∧ Turn sb sb (.slice none 0 0) (.slice none 0 0) w wx)
    case first =>
      go_region_with (go_at_call 27; refine (sub_any _ _ _).mono ?_; rw [HT.out]; rintro e w' ⟨rfl, rfl⟩)
      all_goals
        go_wp2_with fail
        go_meet
        exact ⟨bQ8, bE0.far (p := ⟨sb, 8, none⟩) nE.symm _, bR0.far (p := ⟨sb, 8, none⟩) nR.symm _, ((T0.then_ (Turn.set V0 8 _)).drew).drew⟩
    case rest =>
      obtain ⟨bQ2, bE2, bR2, T2⟩ := hcut
      clear e1 r6 r8 fQ hQ0 bE0 bR0 T0 lE0 lR0
      have lE2 := bE2.lt
      have lQ2 := bQ2.lt
      have lR2 := bR2.lt
      have e0 : wc.cell? ⟨w.heap.size, 0, none⟩ = some (.string x.key) := bE2.cell 0
      have e1 : wc.cell? ⟨w.heap.size, 1, none⟩ = some (.int .i64 x.at_) := bE2.cell 1
      have e2 : wc.cell? ⟨w.heap.size, 2, none⟩ = some (.int .i64 x.v) := bE2.cell 2
      have r4 : wc.cell? ⟨sb, 4, none⟩ = some (.int .i64 j.fuel) := bQ2.cell 4
      have r5 : wc.cell? ⟨sb, 5, none⟩ = some (.int .i64 j.limit) := bQ2.cell 5
      go_wp2_with fail
      go_region_held3 (fun y => y.cell? ⟨w.heap.size, 0, none⟩ = some (.string x.key) ∧ y.cell? ⟨w.heap.size, 1, none⟩ = some (.int .i64 x.at_) ∧ y.cell? ⟨w.heap.size, 2, none⟩ = some (.int .i64 x.v) ∧ y.cell? ⟨sb, 4, none⟩ = some (.int .i64 j.fuel) ∧ y.cell? ⟨sb, 5, none⟩ = some (.int .i64 j.limit))
        (first | exact ⟨e0, e1, e2, r4, r5⟩ | exact ⟨ee0, ee1, ee2, rr4, rr5⟩ | exact ⟨ff0, ff1, ff2, gg4, gg5⟩ | go_keep)
        (first | (go_at_call 6; refine (run_any x.key x.at_ x.v j.limit j.fuel _ hx hl.2).mono ?_; rw [HR.out]; rintro e w3 ⟨rfl, hb3⟩; first
          | (have k3 : Below wc.heap.size wc w3 := ⟨hb3.os, hb3.tape, hb3.output, hb3.size, hb3.block⟩; have ordA := True.intro; have bQ3 := bQ2.below k3 lQ2; have bE3 := bE2.below k3 lE2; have bR3 := bR2.below k3 lR2; have ee0 : w3.cell? ⟨w.heap.size, 0, none⟩ = some (.string x.key) := bE3.cell 0; have ee1 : w3.cell? ⟨w.heap.size, 1, none⟩ = some (.int .i64 x.at_) := bE3.cell 1; have ee2 : w3.cell? ⟨w.heap.size, 2, none⟩ = some (.int .i64 x.v) := bE3.cell 2; have rr4 : w3.cell? ⟨sb, 4, none⟩ = some (.int .i64 j.fuel) := bQ3.cell 4; have rr5 : w3.cell? ⟨sb, 5, none⟩ = some (.int .i64 j.limit) := bQ3.cell 5)
          | (have k3 : Below wc.heap.size wc w3 := next_below (by go_grown) hb3; have ordB := True.intro; have bN3 : Blk w3 wc.heap.size 30 #[.string ⟨#[]⟩, .int .i64 0, .int .i64 0] := (Blk.new wc.drew 30 #[.string ⟨#[]⟩, .int .i64 0, .int .i64 0]).below hb3 (by simp); have nn0 : w3.cell? ⟨wc.heap.size, 0, none⟩ = some (.string ⟨#[]⟩) := bN3.cell 0; have nn1 : w3.cell? ⟨wc.heap.size, 1, none⟩ = some (.int .i64 0) := bN3.cell 1; have nn2 : w3.cell? ⟨wc.heap.size, 2, none⟩ = some (.int .i64 0) := bN3.cell 2; have fN := bN3.frozen; have nVE : w.heap.size ≠ wc.heap.size := (by omega); have nVQ : sb ≠ wc.heap.size := (by omega); have nVR : w.heap.size + 1 ≠ wc.heap.size := (by omega); have bR4 := (((bR2.below k3 lR2).far (p := ⟨wc.heap.size, 0, none⟩) nVR (.string x.key)).far (p := ⟨wc.heap.size, 1, none⟩) nVR (.int .i64 x.at_)).far (p := ⟨wc.heap.size, 2, none⟩) nVR (.int .i64 rv.1); have bE4 := (((bE2.below k3 lE2).far (p := ⟨wc.heap.size, 0, none⟩) nVE (.string x.key)).far (p := ⟨wc.heap.size, 1, none⟩) nVE (.int .i64 x.at_)).far (p := ⟨wc.heap.size, 2, none⟩) nVE (.int .i64 rv.1); have bQ4 := (((bQ2.below k3 lQ2).far (p := ⟨wc.heap.size, 0, none⟩) nVQ (.string x.key)).far (p := ⟨wc.heap.size, 1, none⟩) nVQ (.int .i64 x.at_)).far (p := ⟨wc.heap.size, 2, none⟩) nVQ (.int .i64 rv.1); have ff0 := bE4.cell 0; have ff1 := bE4.cell 1; have ff2 := bE4.cell 2; have gg4 := bQ4.cell 4; have gg5 := bQ4.cell 5; have bQ3 := bQ2.below k3 lQ2; have bE3 := bE2.below k3 lE2; have bR3 := bR2.below k3 lR2; have ee0 : w3.cell? ⟨w.heap.size, 0, none⟩ = some (.string x.key) := bE3.cell 0; have ee1 : w3.cell? ⟨w.heap.size, 1, none⟩ = some (.int .i64 x.at_) := bE3.cell 1; have ee2 : w3.cell? ⟨w.heap.size, 2, none⟩ = some (.int .i64 x.v) := bE3.cell 2; have rr4 : w3.cell? ⟨sb, 4, none⟩ = some (.int .i64 j.fuel) := bQ3.cell 4; have rr5 : w3.cell? ⟨sb, 5, none⟩ = some (.int .i64 j.limit) := bQ3.cell 5)))
      all_goals
        first
          | (have := ordA; have bQU := bQ3.alloc (.cells #[.string x.key, .int .i64 x.at_, .int .i64 rv.1] 30); have bRU := bR3.alloc (.cells #[.string x.key, .int .i64 x.at_, .int .i64 rv.1] 30); have bNU := Blk.new w3 30 #[.string x.key, .int .i64 x.at_, .int .i64 rv.1]; have TU := T2.then_ (Turn.of_below (k3.alloc k3.size (.cells #[.string x.key, .int .i64 x.at_, .int .i64 rv.1] 30))); clear ordA bQ3 bE3 bR3; generalize w3.alloc (.cells #[.string x.key, .int .i64 x.at_, .int .i64 rv.1] 30) = U at *)
          | (have := ordB; have bQU := bQ4; have bRU := bR4; have bNU := ((bN3.set_ 0 (.string x.key)).set_ 1 (.int .i64 x.at_)).set_ 2 (.int .i64 rv.1); have TU := T2.then_ (Turn.of_below (((k3.setCell (p := ⟨wc.heap.size, 0, none⟩) (Nat.le_refl _) (.string x.key)).setCell (p := ⟨wc.heap.size, 1, none⟩) (Nat.le_refl _) (.int .i64 x.at_)).setCell (p := ⟨wc.heap.size, 2, none⟩) (Nat.le_refl _) (.int .i64 rv.1))); clear ordB bQ4 bE4 bR4 ff0 ff1 ff2 gg4 gg5; generalize ((w3.setCell ⟨wc.heap.size, 0, none⟩ (.string x.key)).setCell ⟨wc.heap.size, 1, none⟩ (.int .i64 x.at_)).setCell ⟨wc.heap.size, 2, none⟩ (.int .i64 rv.1) = U at *)
        have n0 := bNU.cell 0
        have n1 := bNU.cell 1
        have n2 := bNU.cell 2
        simp at n0 n1 n2
        have rr0 : U.cell? ⟨w.heap.size + 1, 0, none⟩ = some (.string ⟨#[]⟩) := bRU.cell 0
        have rr1 : U.cell? ⟨w.heap.size + 1, 1, none⟩ = some (.int .i64 0) := bRU.cell 1
        have rr2 : U.cell? ⟨w.heap.size + 1, 2, none⟩ = some (.int .i64 0) := bRU.cell 2
        have fR := bRU.frozen
        go_wp2
        have bZ := ((bRU.set_ 0 (.string x.key)).set_ 1 (.int .i64 x.at_)).set_ 2 (.int .i64 rv.1)
        have z0 : World.cell? _ ⟨w.heap.size + 1, 0, none⟩ = some (.string x.key) := bZ.cell 0
        have z1 : World.cell? _ ⟨w.heap.size + 1, 1, none⟩ = some (.int .i64 x.at_) := bZ.cell 1
        have z2 : World.cell? _ ⟨w.heap.size + 1, 2, none⟩ = some (.int .i64 rv.1) := bZ.cell 2
        refine bodyPost_ret (v := .tuple #[.agg #[.string x.key, .int .i64 x.at_, .int .i64 rv.1], .bool (!decide (x.at_ < m))]) (by simp [results, Try.results16, go_sem, z0, z1, z2]) rfl ?_
        exact ⟨rfl, ((bQU.far (p := ⟨w.heap.size + 1, 0, none⟩) nR _).far (p := ⟨w.heap.size + 1, 1, none⟩) nR _).far (p := ⟨w.heap.size + 1, 2, none⟩) nR _, ((TU.set_new (p := ⟨w.heap.size + 1, 0, none⟩) (by simp) _).set_new (p := ⟨w.heap.size + 1, 1, none⟩) (by simp) _).set_new (p := ⟨w.heap.size + 1, 2, none⟩) (by simp) _⟩

set_option maxHeartbeats 1000000 in
theorem check_any (j : Jb) (ad : Addr) (A : Option Addr) (n c : Nat) (ls : List Ev) (w : World) (hj : j.Wf) (hc : w.cell? ad = some (.slice A n c)) (had : ad.block < w.heap.size) (hr : Reads w w.heap.size 3 A n (evs ls)) (hm : n ≤ 9223372036854775807) (hs : ∀ z ∈ ls, z.key.size ≤ maxLen) :
    Calls Try.prog 8 #[.agg #[.int .i64 j.groups, .int .i64 j.size, .int .i64 j.slide, .int .i64 j.fold, .int .i64 j.fuel, .int .i64 j.limit, .int .i64 j.delay, .int .i64 j.idle], .slice (some ad) 1 1] w fun e w' => e = .returned (.int .i64 (checkZ j ls)) ∧ Below w.heap.size w w' := by
  cases hJ : jobB j
  · have hz : checkZ j ls = 130 := if_pos hJ
    rw [hz]
    go_enter Try.func8, Try.ntmps8
    go_wp2_with fail
    refine (job_any j _ hj).mono ?_
    rw [hJ]
    rintro e w1 ⟨rfl, hb1⟩
    obtain ⟨c1, f1⟩ := bcell hb1
    have y1 := hb1.size
    try simp at y1
    have z0_0_1 : w.heap.size < w1.heap.size := by omega
    have k1 : Below w.heap.size w w1 := next_below (by go_grown) hb1
    go_wp2
    go_ret
    exact ⟨rfl, k1⟩
  obtain ⟨kz, hz⟩ : ∃ kz, checkZ j ls = kz := ⟨_, rfl⟩
  have hkz := hz
  unfold checkZ at hkz
  rw [hJ, if_neg (by simp)] at hkz
  cases hB : inB ls
  all_goals
    rw [hB] at hkz
    simp at hkz
    rw [hz, ← hkz]
    clear hz
    go_enter Try.func8, Try.ntmps8
    go_wp2_with fail
    refine (job_any j _ hj).mono ?_
    rw [hJ]
    rintro e w1 ⟨rfl, hb1⟩
    obtain ⟨c1, f1⟩ := bcell hb1
    have y1 := hb1.size
    try simp at y1
    have z0_0_1 : w.heap.size < w1.heap.size := by omega
    have k1 : Below w.heap.size w w1 := next_below (by go_grown) hb1
    go_wp2_with fail
    refine (inputs_any ad A n c ls _ ((k1.cell had).trans hc) ((hr.below k1).more k1.size) hm hs).mono ?_
    rw [hB]
    rintro e w2 ⟨rfl, hb2⟩
    have k2 : Below w.heap.size w w2 := next_below k1 hb2
    go_wp2
    go_ret
    exact ⟨rfl, k2⟩
end Go.Proofs.Ytgaknbgmodmniaa
