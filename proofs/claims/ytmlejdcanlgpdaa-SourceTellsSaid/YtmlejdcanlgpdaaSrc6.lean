/- Walk of a source's way: next. -/
import Derived.Test.YtmlejdcanlgpdaaSrc5
namespace Go.Proofs.Ytmlejdcanlgpdaa
open Go.RowKit
set_option linter.unusedVariables false
set_option linter.unusedSimpArgs false

/-- An event as it leaves the loop. -/
def runE (j : Jb) (e : Ev) : Ev := ⟨e.key, e.at_, (runZ (maxZ j.limit) (fuelZ j.fuel).toNat e.v).1⟩
def evIt (e : Ev) : It := ⟨1, e, 0⟩
def toldE (j : Jb) (m : Int) (e : Ev) : List It := if m ≤ e.at_ then [evIt (runE j e)] else []
def toldM (j : Jb) (m : Int) (e : Ev) : List It := if m < subZ e.at_ j.delay then [markIt (subZ e.at_ j.delay)] else []
def markZ (j : Jb) (m : Int) (e : Ev) : Int := if m < subZ e.at_ j.delay then subZ e.at_ j.delay else m
/-- What a step makes of a source, what it tells, and the error's number. -/
def nextZ (j : Jb) (s : Sr) : Sr × List It × Int :=
  if s.ended = true then (s, [], 210)
  else match s.evs[s.done.toNat]? with
    | none => (⟨s.evs, s.done, s.mark, s.quiet, true⟩, [markIt 1099511627776], 0)
    | some e => (⟨s.evs, s.done + 1, markZ j s.mark e, 0, false⟩, toldE j s.mark e ++ toldM j s.mark e, 0)

theorem Turn.drewN {wb base : Nat} {v v' : Value} {w w' : World} (h : Turn wb base v v' w w') (n : Nat) : Turn wb base v v' w (w'.drewN n) := ⟨h.own, h.size, h.keep, fun B a hBa b1 b2 b3 => below_drewN (h.lift B a hBa b1 b2 b3) n⟩
theorem own_drewN {w : World} {base : Nat} {e : TypeId} {size : Nat} {v : Value} {n : Nat} {xs : List Value} (h : w.ownsRow base e size v n xs) (k : Nat) : (w.drewN k).ownsRow base e size v n xs := h
/-- What a step has made, up to the event's mark. -/
structure Mid (wb base : Nat) (j : Jb) (E : Value) (done mark : Int) (ended : Bool) (g : Nat) (x : Ev) (v : Value) (xs : List It) (w W : World) : Prop where
  q : Blk W wb 76 (wayC j E done mark 0 ended v)
  e : Blk W g 37 #[.string x.key, .int .i64 x.at_, .int .i64 x.v]
  o : W.ownsRow base 43 11 v xs.length (itms xs)
  t : Turn wb base (.slice none 0 0) v w W

set_option maxHeartbeats 4000000 in
theorem next_any (wb base : Nat) (j : Jb) (A : Option Addr) (n c : Nat) (s : Sr) (w : World) (hQ : Blk w wb 76 (wayC j (.slice A n c) s.done s.mark s.quiet s.ended (.slice none 0 0))) (hb : base ≤ w.heap.size) (hqb : wb < base)
    (hr : Reads w w.heap.size 3 A n (evs s.evs)) (hm : n ≤ 1000) (hd : 0 ≤ s.done ∧ s.done ≤ n) (hl : -9223372036854775808 ≤ j.limit ∧ j.limit ≤ 9223372036854775807) (hv : ∀ e ∈ s.evs, -9223372036854775808 ≤ e.v ∧ e.v ≤ 9223372036854775807) (hA : ∀ ad, A = some ad → 0 < n → ad.block ≠ wb) :
    Calls Try.prog 26 #[.pointer (some ⟨wb, 0, none⟩)] w (WayPost wb base j (.slice A n c) (.slice none 0 0) ((nextZ j s).1, (nextZ j s).2.1) (nextZ j s).2.2 w) := by
  have hln := evs_len hr
  have HN := Lib.hid hln
  clear hln
  have lq := hQ.lt
  have fQ := hQ.frozen
  have q4 : w.cell? ⟨wb, 4, none⟩ = some (.int .i64 j.fuel) := hQ.cell 4
  have q5 : w.cell? ⟨wb, 5, none⟩ = some (.int .i64 j.limit) := hQ.cell 5
  have q6 : w.cell? ⟨wb, 6, none⟩ = some (.int .i64 j.delay) := hQ.cell 6
  have q8 : w.cell? ⟨wb, 8, none⟩ = some (.slice A n c) := hQ.cell 8
  have q9 : w.cell? ⟨wb, 9, none⟩ = some (.int .i64 s.done) := hQ.cell 9
  have q10 : w.cell? ⟨wb, 10, none⟩ = some (.int .i64 s.mark) := hQ.cell 10
  have q11 : w.cell? ⟨wb, 11, none⟩ = some (.int .i64 s.quiet) := hQ.cell 11
  have q12 : w.cell? ⟨wb, 12, none⟩ = some (.bool s.ended) := hQ.cell 12
  cases h1 : s.ended
  rotate_left
  · have hz : nextZ j s = (s, [], 210) := if_pos h1
    rw [hz]
    rw [h1] at q12
    go_enter Try.func26, Try.ntmps26
    go_wp2
    go_ret
    exact ⟨rfl, wpost_nil hQ (Turn.refl _ _ _ _)⟩
  rw [h1] at q12
  have h1' : ¬ s.ended = true := by rw [h1]; simp
  obtain ⟨k, hk⟩ := Int.eq_ofNat_of_zero_le hd.1
  have hkn : k ≤ n := by omega
  by_cases h2 : k = n
  · have hz : nextZ j s = (⟨s.evs, s.done, s.mark, s.quiet, true⟩, [markIt 1099511627776], 0) := by
      unfold nextZ
      rw [if_neg h1', hk, Int.toNat_natCast, List.getElem?_eq_none (by have := HN.out; omega)]
    rw [hz]
    rw [hk, h2] at q9
    have bQ1 : Blk (w.drew.setCell ⟨wb, 12, none⟩ (.bool true)) wb 76 (wayC j (.slice A n c) s.done s.mark s.quiet true (.slice none 0 0)) := by simpa [wayC] using hQ.drew.set_ 12 (.bool true)
    have T1 : Turn wb base (.slice none 0 0) (.slice none 0 0) w (w.drew.setCell ⟨wb, 12, none⟩ (.bool true)) := (Turn.refl _ _ _ _).drew.then_ (Turn.set w.drew 12 (.bool true))
    have s1 : base ≤ (w.drew.setCell ⟨wb, 12, none⟩ (.bool true)).heap.size := Nat.le_trans hb T1.size
    go_enter Try.func26, Try.ntmps26
    go_wp2_with fail
    go_region
    go_wp2_with fail
    refine (mark_any wb base 0 j (.slice A n c) s.done s.mark s.quiet 1099511627776 true (.slice none 0 0) [] _ bQ1 (World.ownsRow_nil _ _ _ _) (by omega) rfl s1 hqb).mono ?_
    rintro e w2 ⟨rfl, hP⟩
    go_wp2
    go_ret
    exact ⟨rfl, WPost.then_ T1 hP⟩
  have hlt : k < n := by omega
  obtain ⟨ad, hl', rfl, had, x0, x1, x2⟩ := evs_get hr hlt
  have hx := hv _ (List.getElem_mem hl')
  have hge : s.evs[k]? = some s.evs[k] := List.getElem?_eq_getElem hl'
  generalize s.evs[k] = x at *
  have hz : nextZ j s = (⟨s.evs, s.done + 1, markZ j s.mark x, 0, false⟩, toldE j s.mark x ++ toldM j s.mark x, 0) := by
    unfold nextZ
    rw [if_neg h1', hk, Int.toNat_natCast, hge]
  rw [hz]
  have HZ := Lib.hid hz
  have HK := Lib.hid hk
  have HE := Lib.hid h1
  clear hz h1 h1' hge
  rw [hk] at q9
  have hk2 : ((k : Int) == (n : Int)) = false := by simp; omega
  have hw1 : IntKind.i64.wrap ((k : Int) + 1) = (k : Int) + 1 := IntWalk.i64_in _ (by omega)
  have nb := hA ad rfl (by omega)
  have had' : (ad.add (k * 3)).block < w.heap.size := by rw [block_of_add]; exact had
  have x0a := alloc_cell (a := ad.add (k * 3)) had' x0
  have x1a := alloc_cell (a := ⟨(ad.add (k * 3)).block, (ad.add (k * 3)).off + 1, none⟩) had' x1
  have x2a := alloc_cell (a := ⟨(ad.add (k * 3)).block, (ad.add (k * 3)).off + 2, none⟩) had' x2
  obtain ⟨rv, hrv⟩ : ∃ rv, runZ (maxZ j.limit) (fuelZ j.fuel).toNat x.v = rv := ⟨_, rfl⟩
  have HR := Lib.hid hrv
  clear hrv
  by_cases h3 : s.mark ≤ x.at_
  · go_enter Try.func26, Try.ntmps26
    go_wp2_with fail
    go_region
    go_wp2_with fail
    go_region
    go_wp2_with fail
    have T1 : Turn wb base (.slice none 0 0) (.slice none 0 0) w ((((w.setCell ⟨wb, 9, none⟩ (.int .i64 ((k : Int) + 1))).setCell ⟨wb, 11, none⟩ (.int .i64 0)).alloc (.cells #[.string x.key, .int .i64 x.at_, .int .i64 x.v] 37)).drew.drew) := ((((Turn.set w 9 _).then_ (Turn.set _ 11 _)).then_ (Turn.of_below (by go_grown))).drew).drew
    have bQ1 : Blk ((((w.setCell ⟨wb, 9, none⟩ (.int .i64 ((k : Int) + 1))).setCell ⟨wb, 11, none⟩ (.int .i64 0)).alloc (.cells #[.string x.key, .int .i64 x.at_, .int .i64 x.v] 37)).drew.drew) wb 76 (wayC j (.slice (some ad) n c) (k + 1) s.mark 0 s.ended (.slice none 0 0)) := by simpa [wayC] using (((hQ.set_ 9 (.int .i64 (k + 1))).set_ 11 (.int .i64 0)).alloc (.cells #[.string x.key, .int .i64 x.at_, .int .i64 x.v] 37)).drew.drew
    have bE1 : Blk ((((w.setCell ⟨wb, 9, none⟩ (.int .i64 ((k : Int) + 1))).setCell ⟨wb, 11, none⟩ (.int .i64 0)).alloc (.cells #[.string x.key, .int .i64 x.at_, .int .i64 x.v] 37)).drew.drew) w.heap.size 37 #[.string x.key, .int .i64 x.at_, .int .i64 x.v] := by simpa using (Blk.new ((w.setCell ⟨wb, 9, none⟩ (.int .i64 ((k : Int) + 1))).setCell ⟨wb, 11, none⟩ (.int .i64 0)) 37 #[.string x.key, .int .i64 x.at_, .int .i64 x.v]).drew.drew
    generalize (((w.setCell ⟨wb, 9, none⟩ (.int .i64 ((k : Int) + 1))).setCell ⟨wb, 11, none⟩ (.int .i64 0)).alloc (.cells #[.string x.key, .int .i64 x.at_, .int .i64 x.v] 37)).drew.drew = W at *
    have lE := bE1.lt
    have lW := bQ1.lt
    have nE : wb ≠ w.heap.size := by omega
    have e0 : W.cell? ⟨w.heap.size, 0, none⟩ = some (.string x.key) := bE1.cell 0
    have e1 : W.cell? ⟨w.heap.size, 1, none⟩ = some (.int .i64 x.at_) := bE1.cell 1
    have e2 : W.cell? ⟨w.heap.size, 2, none⟩ = some (.int .i64 x.v) := bE1.cell 2
    have r4 : W.cell? ⟨wb, 4, none⟩ = some (.int .i64 j.fuel) := bQ1.cell 4
    have r5 : W.cell? ⟨wb, 5, none⟩ = some (.int .i64 j.limit) := bQ1.cell 5
    have r6 : W.cell? ⟨wb, 6, none⟩ = some (.int .i64 j.delay) := bQ1.cell 6
    have r10 : W.cell? ⟨wb, 10, none⟩ = some (.int .i64 s.mark) := bQ1.cell 10
    have fW := bQ1.frozen
    clear q4 q5 q6 q8 q9 q10 q11 q12 fQ hQ x0 x1 x2 x0a x1a x2a
    go_region
    go_wp2_with fail
    have T2 := T1.drew
    have bQ2 : Blk W.drew wb 76 _ := bQ1
    have bE2 : Blk W.drew w.heap.size 37 _ := bE1
    have lE2 := bE2.lt
    have lQ2 := bQ2.lt
    clear bQ1 bE1 T1 e0 e1 e2 r4 r5 r6 r10 fW lE lW
    generalize W.drew = V at *
    have e0 : V.cell? ⟨w.heap.size, 0, none⟩ = some (.string x.key) := bE2.cell 0
    have e1 : V.cell? ⟨w.heap.size, 1, none⟩ = some (.int .i64 x.at_) := bE2.cell 1
    have e2 : V.cell? ⟨w.heap.size, 2, none⟩ = some (.int .i64 x.v) := bE2.cell 2
    have r4 : V.cell? ⟨wb, 4, none⟩ = some (.int .i64 j.fuel) := bQ2.cell 4
    have r5 : V.cell? ⟨wb, 5, none⟩ = some (.int .i64 j.limit) := bQ2.cell 5
    go_region_held3 (fun y => y.cell? ⟨w.heap.size, 0, none⟩ = some (.string x.key) ∧ y.cell? ⟨w.heap.size, 1, none⟩ = some (.int .i64 x.at_) ∧ y.cell? ⟨w.heap.size, 2, none⟩ = some (.int .i64 x.v) ∧ y.cell? ⟨wb, 4, none⟩ = some (.int .i64 j.fuel) ∧ y.cell? ⟨wb, 5, none⟩ = some (.int .i64 j.limit))
      (first | exact ⟨e0, e1, e2, r4, r5⟩ | exact ⟨ee0, ee1, ee2, rr4, rr5⟩ | exact ⟨ff0, ff1, ff2, gg4, gg5⟩ | go_keep)
      (first | (go_at_call 41; refine (run_any x.key x.at_ x.v j.limit j.fuel _ hx hl.2).mono ?_; rw [HR.out]; rintro e w3 ⟨rfl, hb3⟩; first
        | (have k3 : Below V.heap.size V w3 := ⟨hb3.os, hb3.tape, hb3.output, hb3.size, hb3.block⟩; have ordA := True.intro; have bQ3 := bQ2.below k3 lQ2; have bE3 := bE2.below k3 lE2; have ee0 : w3.cell? ⟨w.heap.size, 0, none⟩ = some (.string x.key) := bE3.cell 0; have ee1 : w3.cell? ⟨w.heap.size, 1, none⟩ = some (.int .i64 x.at_) := bE3.cell 1; have ee2 : w3.cell? ⟨w.heap.size, 2, none⟩ = some (.int .i64 x.v) := bE3.cell 2; have rr4 : w3.cell? ⟨wb, 4, none⟩ = some (.int .i64 j.fuel) := bQ3.cell 4; have rr5 : w3.cell? ⟨wb, 5, none⟩ = some (.int .i64 j.limit) := bQ3.cell 5)
        | (have k3 : Below V.heap.size V w3 := next_below (by go_grown) hb3; have ordB := True.intro; have bN3 : Blk w3 V.heap.size 37 #[.string ⟨#[]⟩, .int .i64 0, .int .i64 0] := (Blk.new V.drew 37 #[.string ⟨#[]⟩, .int .i64 0, .int .i64 0]).below hb3 (by simp); have nn0 : w3.cell? ⟨V.heap.size, 0, none⟩ = some (.string ⟨#[]⟩) := bN3.cell 0; have nn1 : w3.cell? ⟨V.heap.size, 1, none⟩ = some (.int .i64 0) := bN3.cell 1; have nn2 : w3.cell? ⟨V.heap.size, 2, none⟩ = some (.int .i64 0) := bN3.cell 2; have fN := bN3.frozen; have nVE : w.heap.size ≠ V.heap.size := (by omega); have nVQ : wb ≠ V.heap.size := (by omega); have bE4 := (((bE2.below k3 lE2).far (p := ⟨V.heap.size, 0, none⟩) nVE (.string x.key)).far (p := ⟨V.heap.size, 1, none⟩) nVE (.int .i64 x.at_)).far (p := ⟨V.heap.size, 2, none⟩) nVE (.int .i64 rv.1); have bQ4 := (((bQ2.below k3 lQ2).far (p := ⟨V.heap.size, 0, none⟩) nVQ (.string x.key)).far (p := ⟨V.heap.size, 1, none⟩) nVQ (.int .i64 x.at_)).far (p := ⟨V.heap.size, 2, none⟩) nVQ (.int .i64 rv.1); have ff0 := bE4.cell 0; have ff1 := bE4.cell 1; have ff2 := bE4.cell 2; have gg4 := bQ4.cell 4; have gg5 := bQ4.cell 5; have bQ3 := bQ2.below k3 lQ2; have bE3 := bE2.below k3 lE2; have ee0 : w3.cell? ⟨w.heap.size, 0, none⟩ = some (.string x.key) := bE3.cell 0; have ee1 : w3.cell? ⟨w.heap.size, 1, none⟩ = some (.int .i64 x.at_) := bE3.cell 1; have ee2 : w3.cell? ⟨w.heap.size, 2, none⟩ = some (.int .i64 x.v) := bE3.cell 2; have rr4 : w3.cell? ⟨wb, 4, none⟩ = some (.int .i64 j.fuel) := bQ3.cell 4; have rr5 : w3.cell? ⟨wb, 5, none⟩ = some (.int .i64 j.limit) := bQ3.cell 5)))
    all_goals
      first
        | (have := ordA; have bQU := bQ3.alloc (.cells #[.string x.key, .int .i64 x.at_, .int .i64 rv.1] 37); have bEU := bE3.alloc (.cells #[.string x.key, .int .i64 x.at_, .int .i64 rv.1] 37); have bNU := Blk.new w3 37 #[.string x.key, .int .i64 x.at_, .int .i64 rv.1]; have TU := T2.then_ (Turn.of_below (k3.alloc k3.size (.cells #[.string x.key, .int .i64 x.at_, .int .i64 rv.1] 37))); clear ordA bQ3 bE3; generalize w3.alloc (.cells #[.string x.key, .int .i64 x.at_, .int .i64 rv.1] 37) = U at *)
        | (have := ordB; have bQU := bQ4; have bEU := bE4; have bNU := ((bN3.set_ 0 (.string x.key)).set_ 1 (.int .i64 x.at_)).set_ 2 (.int .i64 rv.1); have TU := T2.then_ (Turn.of_below (((k3.setCell (p := ⟨V.heap.size, 0, none⟩) (Nat.le_refl _) (.string x.key)).setCell (p := ⟨V.heap.size, 1, none⟩) (Nat.le_refl _) (.int .i64 x.at_)).setCell (p := ⟨V.heap.size, 2, none⟩) (Nat.le_refl _) (.int .i64 rv.1))); clear ordB bQ4 bE4 ff0 ff1 ff2 gg4 gg5; generalize ((w3.setCell ⟨V.heap.size, 0, none⟩ (.string x.key)).setCell ⟨V.heap.size, 1, none⟩ (.int .i64 x.at_)).setCell ⟨V.heap.size, 2, none⟩ (.int .i64 rv.1) = U at *)
      have n0 := bNU.cell 0
      have n1 := bNU.cell 1
      have n2 := bNU.cell 2
      simp at n0 n1 n2
      go_wp2_with fail
      refine (tell_any wb base 0 j (.slice (some ad) n c) (k + 1) s.mark 0 s.ended (.slice none 0 0) [] ⟨1, ⟨x.key, x.at_, rv.1⟩, 0⟩ _ bQU (World.ownsRow_nil _ _ _ _) (by omega) rfl (Nat.le_trans hb TU.size) hqb).mono ?_
      rintro e w5 ⟨rfl, v5, bQ5, hO5, T5⟩
      have hMid : Mid wb base j (.slice (some ad) n c) (k + 1) s.mark s.ended w.heap.size x v5 [⟨1, ⟨x.key, x.at_, rv.1⟩, 0⟩] w w5 := ⟨bQ5, T5.blk bEU nE.symm (by simp [Value.ownBlock]), hO5, TU.then_ T5⟩
      have HX : Hid (toldE j s.mark x = [⟨1, ⟨x.key, x.at_, rv.1⟩, 0⟩]) := Lib.hid (by unfold toldE; rw [if_pos h3]; unfold evIt runE; rw [HR.out])
      generalize ([⟨1, ⟨x.key, x.at_, rv.1⟩, 0⟩] : List It) = xs5 at *
      have hx5 : xs5.length ≤ 1 := by have := HX.out; rw [← this]; unfold toldE; split <;> simp
      clear hO5 bQ5 T5 TU bQU bEU bNU
      have b1 : w5.cell? ⟨w.heap.size, 1, none⟩ = some (.int .i64 x.at_) := hMid.e.cell 1
      have b6 : w5.cell? ⟨wb, 6, none⟩ = some (.int .i64 j.delay) := hMid.q.cell 6
      have b10 : w5.cell? ⟨wb, 10, none⟩ = some (.int .i64 s.mark) := hMid.q.cell 10
      have fb := hMid.q.frozen
      obtain ⟨tz, htz⟩ : ∃ tz, subZ x.at_ j.delay = tz := ⟨_, rfl⟩
      have HT := Lib.hid htz
      clear htz
      by_cases h5 : s.mark < tz
      · have hmz : markZ j s.mark x = tz := by unfold markZ; rw [HT.out, if_pos h5]
        have htm : toldM j s.mark x = [markIt tz] := by unfold toldM; rw [HT.out, if_pos h5]
        have HM := Lib.hid hmz
        have HTM := Lib.hid htm
        clear hmz htm
        go_wp2_with fail
        go_quiet ((first | (go_at_call 43; refine (quiet_left (sub_any _ _ _)).mono ?_; rw [HT.out]; exact fun _ _ h => h)))
        go_wp2_with fail
        refine (mark_any wb base xs5.length j (.slice (some ad) n c) (k + 1) tz 0 tz s.ended v5 xs5 _ ?_ ?_ (by omega) rfl ?_ hqb).mono ?_
        · exact (by simpa [wayC] using (hMid.q.drewN _).set_ 10 (.int .i64 tz))
        · exact own_set (own_drewN hMid.o _) _ hqb
        · exact Nat.le_trans hb (by have := hMid.t.size; simpa using this)
        rintro e w7 ⟨rfl, hP⟩
        go_wp2
        go_ret
        refine ⟨rfl, ?_⟩
        show WPost wb base j (.slice (some ad) n c) (s.done + 1) (markZ j s.mark x) 0 false (.slice none 0 0) (toldE j s.mark x ++ toldM j s.mark x) w w7
        rw [HK.out, HM.out, HTM.out, HX.out, ← HE.out]
        exact WPost.then_ ((hMid.t.drewN _).then_ (Turn.set _ 10 _)) hP
      · have hmz : markZ j s.mark x = s.mark := by unfold markZ; rw [HT.out, if_neg h5]
        have htm : toldM j s.mark x = [] := by unfold toldM; rw [HT.out, if_neg h5]
        have HM := Lib.hid hmz
        have HTM := Lib.hid htm
        clear hmz htm
        go_wp2_with fail
        go_quiet ((first | (go_at_call 43; refine (quiet_left (sub_any _ _ _)).mono ?_; rw [HT.out]; exact fun _ _ h => h)))
        go_wp2
        go_ret
        refine ⟨rfl, ?_⟩
        show WPost wb base j (.slice (some ad) n c) (s.done + 1) (markZ j s.mark x) 0 false (.slice none 0 0) (toldE j s.mark x ++ toldM j s.mark x) w _
        rw [HK.out, HM.out, HTM.out, HX.out, ← HE.out, List.append_nil]
        exact ⟨v5, hMid.q.drewN _, own_drewN hMid.o _, hMid.t.drewN _⟩
  · go_enter Try.func26, Try.ntmps26
    go_wp2_with fail
    go_region
    go_wp2_with fail
    go_region
    go_wp2_with fail
    have T1 : Turn wb base (.slice none 0 0) (.slice none 0 0) w ((((w.setCell ⟨wb, 9, none⟩ (.int .i64 ((k : Int) + 1))).setCell ⟨wb, 11, none⟩ (.int .i64 0)).alloc (.cells #[.string x.key, .int .i64 x.at_, .int .i64 x.v] 37)).drew.drew) := ((((Turn.set w 9 _).then_ (Turn.set _ 11 _)).then_ (Turn.of_below (by go_grown))).drew).drew
    have bQ1 : Blk ((((w.setCell ⟨wb, 9, none⟩ (.int .i64 ((k : Int) + 1))).setCell ⟨wb, 11, none⟩ (.int .i64 0)).alloc (.cells #[.string x.key, .int .i64 x.at_, .int .i64 x.v] 37)).drew.drew) wb 76 (wayC j (.slice (some ad) n c) (k + 1) s.mark 0 s.ended (.slice none 0 0)) := by simpa [wayC] using (((hQ.set_ 9 (.int .i64 (k + 1))).set_ 11 (.int .i64 0)).alloc (.cells #[.string x.key, .int .i64 x.at_, .int .i64 x.v] 37)).drew.drew
    have bE1 : Blk ((((w.setCell ⟨wb, 9, none⟩ (.int .i64 ((k : Int) + 1))).setCell ⟨wb, 11, none⟩ (.int .i64 0)).alloc (.cells #[.string x.key, .int .i64 x.at_, .int .i64 x.v] 37)).drew.drew) w.heap.size 37 #[.string x.key, .int .i64 x.at_, .int .i64 x.v] := by simpa using (Blk.new ((w.setCell ⟨wb, 9, none⟩ (.int .i64 ((k : Int) + 1))).setCell ⟨wb, 11, none⟩ (.int .i64 0)) 37 #[.string x.key, .int .i64 x.at_, .int .i64 x.v]).drew.drew
    generalize (((w.setCell ⟨wb, 9, none⟩ (.int .i64 ((k : Int) + 1))).setCell ⟨wb, 11, none⟩ (.int .i64 0)).alloc (.cells #[.string x.key, .int .i64 x.at_, .int .i64 x.v] 37)).drew.drew = W at *
    have lE := bE1.lt
    have lW := bQ1.lt
    have nE : wb ≠ w.heap.size := by omega
    have e0 : W.cell? ⟨w.heap.size, 0, none⟩ = some (.string x.key) := bE1.cell 0
    have e1 : W.cell? ⟨w.heap.size, 1, none⟩ = some (.int .i64 x.at_) := bE1.cell 1
    have e2 : W.cell? ⟨w.heap.size, 2, none⟩ = some (.int .i64 x.v) := bE1.cell 2
    have r4 : W.cell? ⟨wb, 4, none⟩ = some (.int .i64 j.fuel) := bQ1.cell 4
    have r5 : W.cell? ⟨wb, 5, none⟩ = some (.int .i64 j.limit) := bQ1.cell 5
    have r6 : W.cell? ⟨wb, 6, none⟩ = some (.int .i64 j.delay) := bQ1.cell 6
    have r10 : W.cell? ⟨wb, 10, none⟩ = some (.int .i64 s.mark) := bQ1.cell 10
    have fW := bQ1.frozen
    clear q4 q5 q6 q8 q9 q10 q11 q12 fQ hQ x0 x1 x2 x0a x1a x2a
    go_region

    have hMid : Mid wb base j (.slice (some ad) n c) (k + 1) s.mark s.ended w.heap.size x (.slice none 0 0) [] w W.drew := ⟨bQ1, bE1, World.ownsRow_nil _ _ _ _, T1.drew⟩
    have HX : Hid (toldE j s.mark x = []) := Lib.hid (by unfold toldE; rw [if_neg (by omega)])
    generalize ([] : List It) = xs5 at *
    have hx5 : xs5.length ≤ 1 := by have := HX.out; rw [← this]; unfold toldE; split <;> simp
    clear bQ1 bE1 T1 e0 e1 e2 r4 r5 r6 r10 fW lE lW
    generalize W.drew = w5 at *
    generalize Value.slice none 0 0 = v5 at hMid
    have b1 : w5.cell? ⟨w.heap.size, 1, none⟩ = some (.int .i64 x.at_) := hMid.e.cell 1
    have b6 : w5.cell? ⟨wb, 6, none⟩ = some (.int .i64 j.delay) := hMid.q.cell 6
    have b10 : w5.cell? ⟨wb, 10, none⟩ = some (.int .i64 s.mark) := hMid.q.cell 10
    have fb := hMid.q.frozen
    obtain ⟨tz, htz⟩ : ∃ tz, subZ x.at_ j.delay = tz := ⟨_, rfl⟩
    have HT := Lib.hid htz
    clear htz
    by_cases h5 : s.mark < tz
    · have hmz : markZ j s.mark x = tz := by unfold markZ; rw [HT.out, if_pos h5]
      have htm : toldM j s.mark x = [markIt tz] := by unfold toldM; rw [HT.out, if_pos h5]
      have HM := Lib.hid hmz
      have HTM := Lib.hid htm
      clear hmz htm
      go_wp2_with fail
      go_quiet ((first | (go_at_call 43; refine (quiet_left (sub_any _ _ _)).mono ?_; rw [HT.out]; exact fun _ _ h => h)))
      go_wp2_with fail
      refine (mark_any wb base xs5.length j (.slice (some ad) n c) (k + 1) tz 0 tz s.ended v5 xs5 _ ?_ ?_ (by omega) rfl ?_ hqb).mono ?_
      · exact (by simpa [wayC] using (hMid.q.drewN _).set_ 10 (.int .i64 tz))
      · exact own_set (own_drewN hMid.o _) _ hqb
      · exact Nat.le_trans hb (by have := hMid.t.size; simpa using this)
      rintro e w7 ⟨rfl, hP⟩
      go_wp2
      go_ret
      refine ⟨rfl, ?_⟩
      show WPost wb base j (.slice (some ad) n c) (s.done + 1) (markZ j s.mark x) 0 false (.slice none 0 0) (toldE j s.mark x ++ toldM j s.mark x) w w7
      rw [HK.out, HM.out, HTM.out, HX.out, ← HE.out]
      exact WPost.then_ ((hMid.t.drewN _).then_ (Turn.set _ 10 _)) hP
    · have hmz : markZ j s.mark x = s.mark := by unfold markZ; rw [HT.out, if_neg h5]
      have htm : toldM j s.mark x = [] := by unfold toldM; rw [HT.out, if_neg h5]
      have HM := Lib.hid hmz
      have HTM := Lib.hid htm
      clear hmz htm
      go_wp2_with fail
      go_quiet ((first | (go_at_call 43; refine (quiet_left (sub_any _ _ _)).mono ?_; rw [HT.out]; exact fun _ _ h => h)))
      go_wp2
      go_ret
      refine ⟨rfl, ?_⟩
      show WPost wb base j (.slice (some ad) n c) (s.done + 1) (markZ j s.mark x) 0 false (.slice none 0 0) (toldE j s.mark x ++ toldM j s.mark x) w _
      rw [HK.out, HM.out, HTM.out, HX.out, ← HE.out, List.append_nil]
      exact ⟨v5, hMid.q.drewN _, own_drewN hMid.o _, hMid.t.drewN _⟩

end Go.Proofs.Ytmlejdcanlgpdaa
