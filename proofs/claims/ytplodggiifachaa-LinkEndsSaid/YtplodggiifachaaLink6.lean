/- Walk of the reference's Ack of chapter 15. -/
import Derived.Test.YtplodggiifachaaLink5
namespace Go.Proofs.Ytplodggiifachaa
open Go.RowKit
set_option linter.unusedVariables false
set_option linter.unusedSimpArgs false

theorem take_drop_succ {zs : List ByteArray} {k d : Nat} (h : k < zs.length) (hd : d ≤ k) : (zs.take (k + 1)).drop d = (zs.take k).drop d ++ [zs[k]] := by
  rw [List.take_succ_eq_append_getElem h, List.drop_append_of_le_length (by simp; omega)]
theorem take_drop_none {zs : List ByteArray} {k d : Nat} (h : k ≤ d) : (zs.take k).drop d = [] := by
  apply List.drop_eq_nil_of_le
  simp; omega

def tmZ (k d : Nat) : Int := if k ≤ d then 0 else 4

set_option maxHeartbeats 6000000 in
theorem refAck_any (ep base timer epoch want : Int) (zs : List ByteArray) (A : Option Addr) (n c : Nat) (w : World) (hr : Reads w w.heap.size 1 A n (zs.map Value.string)) (hm : n ≤ 9223372036854775807) (hs : ∀ z ∈ zs, z.size ≤ maxLen) (hc : n ≤ c) :
    Calls Try.prog 19 #[.agg #[.int .i64 ep, .int .i64 base, .slice A n c, .int .i64 timer], .int .i64 epoch, .int .i64 want] w (SndPost A (ackZ ⟨ep, base, zs, timer⟩ epoch want) w) := by
  obtain rfl := (reads_len hr).symm
  cases hR : rightB ⟨ep, base, zs, timer⟩
  · rw [show ackZ ⟨ep, base, zs, timer⟩ epoch want = (⟨0, 0, [], 0⟩, 1) from by unfold ackZ; rw [if_pos hR]]
    go_enter Try.func19, Try.ntmps19
    go_wp2_with fail
    refine (refRight_any ep base timer zs A zs.length c _ (reads_alloc (reads_alloc hr)) hm hs).mono ?_
    rw [hR]
    rintro e w1 ⟨rfl, hb1⟩
    obtain ⟨c1, f1⟩ := bcell hb1
    have y1 := hb1.size
    try simp at y1
    have z0_0_1 : w.heap.size < w1.heap.size := by omega
    have z0_1_1 : w.heap.size + 1 < w1.heap.size := by omega
    have k1 : Below w.heap.size w w1 := next_below (by go_grown) hb1
    go_wp2
    exact bodyPost_ret (v := .tuple #[.agg #[.int .i64 0, .int .i64 0, .slice none 0 0, .int .i64 0], .int .i64 1]) (by simp [results, Try.results19, go_sem, c1, f1, z0_0_1, z0_1_1, World.cell?_setCell_other]) rfl (snd_kept Reads.none_ (by first | assumption | simp) (by first | exact .inl rfl | exact .inr (fun _ h => nomatch h)) (by go_grown))
  have hR' : ¬ rightB ⟨ep, base, zs, timer⟩ = false := by rw [hR]; simp
  obtain ⟨⟨e1, e2⟩, l8, ⟨b1, b2⟩, _⟩ := rightB_iff.1 hR
  simp only at e1 e2 l8 b1 b2
  cases h1 : (epoch != ep)
  rotate_left
  · rw [show ackZ ⟨ep, base, zs, timer⟩ epoch want = (⟨0, 0, [], 0⟩, 150) from by unfold ackZ; rw [if_neg hR', if_pos (by simpa using h1)]]
    go_enter Try.func19, Try.ntmps19
    go_wp2_with fail
    refine (refRight_any ep base timer zs A zs.length c _ (reads_alloc (reads_alloc hr)) hm hs).mono ?_
    rw [hR]
    rintro e w1 ⟨rfl, hb1⟩
    obtain ⟨c1, f1⟩ := bcell hb1
    have y1 := hb1.size
    try simp at y1
    have z0_0_1 : w.heap.size < w1.heap.size := by omega
    have z0_1_1 : w.heap.size + 1 < w1.heap.size := by omega
    have k1 : Below w.heap.size w w1 := next_below (by go_grown) hb1
    go_wp2
    exact bodyPost_ret (v := .tuple #[.agg #[.int .i64 0, .int .i64 0, .slice none 0 0, .int .i64 0], .int .i64 150]) (by simp [results, Try.results19, go_sem, c1, f1, z0_0_1, z0_1_1, World.cell?_setCell_other]) rfl (snd_kept Reads.none_ (by first | assumption | simp) (by first | exact .inl rfl | exact .inr (fun _ h => nomatch h)) (by go_grown))
  have h1' : ¬ epoch ≠ ep := by simpa using h1
  by_cases h2 : base + zs.length < want
  · rw [show ackZ ⟨ep, base, zs, timer⟩ epoch want = (⟨0, 0, [], 0⟩, 1) from by unfold ackZ; rw [if_neg hR', if_neg h1', if_pos h2]]
    go_enter Try.func19, Try.ntmps19
    go_wp2_with fail
    refine (refRight_any ep base timer zs A zs.length c _ (reads_alloc (reads_alloc hr)) hm hs).mono ?_
    rw [hR]
    rintro e w1 ⟨rfl, hb1⟩
    obtain ⟨c1, f1⟩ := bcell hb1
    have y1 := hb1.size
    try simp at y1
    have z0_0_1 : w.heap.size < w1.heap.size := by omega
    have z0_1_1 : w.heap.size + 1 < w1.heap.size := by omega
    have k1 : Below w.heap.size w w1 := next_below (by go_grown) hb1
    go_wp2
    exact bodyPost_ret (v := .tuple #[.agg #[.int .i64 0, .int .i64 0, .slice none 0 0, .int .i64 0], .int .i64 1]) (by simp [results, Try.results19, go_sem, c1, f1, z0_0_1, z0_1_1, World.cell?_setCell_other]) rfl (snd_kept Reads.none_ (by first | assumption | simp) (by first | exact .inl rfl | exact .inr (fun _ h => nomatch h)) (by go_grown))
  by_cases h3 : want ≤ base
  · rw [show ackZ ⟨ep, base, zs, timer⟩ epoch want = (⟨ep, base, zs, timer⟩, 0) from by unfold ackZ; rw [if_neg hR', if_neg h1', if_neg h2, if_pos h3]]
    go_enter Try.func19, Try.ntmps19
    go_wp2_with fail
    refine (refRight_any ep base timer zs A zs.length c _ (reads_alloc (reads_alloc hr)) hm hs).mono ?_
    rw [hR]
    rintro e w1 ⟨rfl, hb1⟩
    obtain ⟨c1, f1⟩ := bcell hb1
    have y1 := hb1.size
    try simp at y1
    have z0_0_1 : w.heap.size < w1.heap.size := by omega
    have z0_1_1 : w.heap.size + 1 < w1.heap.size := by omega
    have k1 : Below w.heap.size w w1 := next_below (by go_grown) hb1
    go_wp2
    exact bodyPost_ret (v := .tuple #[.agg #[.int .i64 ep, .int .i64 base, .slice A zs.length c, .int .i64 timer], .int .i64 0]) (by simp [results, Try.results19, go_sem, c1, f1, z0_0_1, z0_1_1, World.cell?_setCell_other]) rfl (snd_kept hr (by first | assumption | simp) (by first | exact .inl rfl | exact .inr (fun _ h => nomatch h)) (by go_grown))
  obtain ⟨d, hd⟩ : ∃ d : Nat, want - base = d := ⟨(want - base).toNat, by omega⟩
  obtain rfl : want = base + d := by omega
  clear hd
  have hd1 : d ≤ zs.length := by omega
  have hd0 : 1 ≤ d := by omega
  have hdd1 : decide (zs.length < d) = false := by simp; omega
  have hdd2 : decide (base + (d : Int) ≤ base) = false := by simp; omega
  obtain ⟨i0, hi, hz0, hz1, hz2⟩ := info_parts infoStr
  rw [show ackZ ⟨ep, base, zs, timer⟩ epoch (base + d) = (⟨ep, base + d, zs.drop d, tmZ zs.length d⟩, 0) from by unfold ackZ tmZ; rw [if_neg hR', if_neg h1', if_neg h2, if_neg h3]; simp [show base + (d : Int) - base = d from by omega]]
  go_enter Try.func19, Try.ntmps19
  go_wp2_with fail
  refine (refRight_any ep base timer zs A zs.length c _ (reads_alloc (reads_alloc hr)) hm hs).mono ?_
  rw [hR]
  rintro e w1 ⟨rfl, hb1⟩
  obtain ⟨c1, f1⟩ := bcell hb1
  have y1 := hb1.size
  try simp at y1
  have z0_0_1 : w.heap.size < w1.heap.size := by omega
  have z0_1_1 : w.heap.size + 1 < w1.heap.size := by omega
  have k1 : Below w.heap.size w w1 := next_below (by go_grown) hb1
  have bS1 : Blk w1 w.heap.size 31 #[.int .i64 ep, .int .i64 base, .slice A zs.length c, .int .i64 timer] := ((Blk.new w _ _).alloc _).below hb1 (by simp; omega)
  have bR1 : Blk w1 (w.heap.size + 1) 31 #[.int .i64 0, .int .i64 0, .slice none 0 0, .int .i64 0] := ((by simpa using (Blk.new (w.alloc (.cells #[.int .i64 ep, .int .i64 base, .slice A zs.length c, .int .i64 timer] 31)) 31 #[.int .i64 0, .int .i64 0, .slice none 0 0, .int .i64 0]) : Blk _ (w.heap.size + 1) _ _)).below hb1 (by simp)
  go_wp2_with fail
  have bQ0 := Blk.new w1 31 #[.int .i64 ep, .int .i64 (base + d), .slice none 0 0, .int .i64 0]
  have bS0 := bS1.alloc (.cells #[.int .i64 ep, .int .i64 (base + d), .slice none 0 0, .int .i64 0] 31)
  have bR0 := bR1.alloc (.cells #[.int .i64 ep, .int .i64 (base + d), .slice none 0 0, .int .i64 0] 31)
  have k0 := k1.alloc k1.size (.cells #[.int .i64 ep, .int .i64 (base + d), .slice none 0 0, .int .i64 0] 31)
  have hz' : w1.heap.size + 1 ≤ (w1.alloc (.cells #[.int .i64 ep, .int .i64 (base + d), .slice none 0 0, .int .i64 0] 31)).heap.size := by simp
  clear c1 f1 hb1 bS1 bR1
  generalize w1.alloc (.cells #[.int .i64 ep, .int .i64 (base + d), .slice none 0 0, .int .i64 0] 31) = V at *
  have kk1 := k1.size
  generalize w1.heap.size = bo at *
  go_loopw [41] (fun i wr => ∃ (k : Nat) (v : Value) (tm : Int), k ≤ zs.length ∧ i = .int .i64 k ∧ Hid (tm = tmZ k d) ∧ Below w.heap.size w wr ∧ bo + 1 ≤ wr.heap.size ∧ Blk wr w.heap.size 31 #[.int .i64 ep, .int .i64 base, .slice A zs.length c, .int .i64 timer] ∧ Blk wr (w.heap.size + 1) 31 #[.int .i64 0, .int .i64 0, .slice none 0 0, .int .i64 0] ∧
    Blk wr bo 31 #[.int .i64 ep, .int .i64 (base + d), v, .int .i64 tm] ∧ wr.ownsRow (bo + 1) 9 1 v (k - d) (((zs.take k).drop d).map Value.string)) (fun i _ => zs.length - (intOf i).toNat)
  case atStart => exact ⟨0, _, 0, Nat.zero_le _, rfl, Lib.hid (by simp [tmZ]), k0, hz', bS0, bR0, bQ0, by simpa using World.ownsRow_nil _ _ _ _⟩
  case round =>
    clear bS0 bR0 bQ0 k0 hz'
    obtain ⟨k, v, tm, hk, rfl, HTM, hB, hsz, bS, bR, bQ, hown⟩ := hrel
    have lS := bS.lt
    have lR := bR.lt
    have lQ := bQ.lt
    have q0 : wr.cell? ⟨bo, 0, none⟩ = some (.int .i64 ep) := bQ.cell 0
    have q1 : wr.cell? ⟨bo, 1, none⟩ = some (.int .i64 (base + d)) := bQ.cell 1
    have q2 : wr.cell? ⟨bo, 2, none⟩ = some v := bQ.cell 2
    have q3 : wr.cell? ⟨bo, 3, none⟩ = some (.int .i64 tm) := bQ.cell 3
    have fQ := bQ.frozen
    have s1 : wr.cell? ⟨w.heap.size, 1, none⟩ = some (.int .i64 base) := bS.cell 1
    by_cases hlt : k < zs.length
    · obtain ⟨ad, hl, rfl, hc'⟩ := strs_at (hr.below hB) hlt
      by_cases hkd : d ≤ k
      · have HT := Lib.hid (take_drop_succ hl hkd)
        have hkn : k + 1 - d = (k - d) + 1 := by omega
        have HKN := Lib.hid hkn
        clear hkn
        generalize zs[k] = x at *
        go_wp2_with (at_builtin; refine wpList_append_any _ rfl (.tmp 53) (.tmp 55) 29 rfl (bo + 1) 9 i0 _ 1 16 Try.underlying29 hi hz0 hz1 hz2 rfl (by decide) _ _ _ rfl (hown.alloc _) (wr.heap.size + 1) (some ⟨wr.heap.size, 0, none⟩) 1 1 [.string x] rfl ⟨rfl, fun _ => ⟨_, rfl, by simp, fun j u hu => by cases j <;> simp_all [go_sem]⟩⟩ (by simp [Value.oneCell']) (by unfold maxLen; omega) (by omega) (by simp; omega) ?_; intro v' w3 hown' hgrow _; obtain ⟨g3, cap3, rfl⟩ := own_succ hown'; have hgs := hgrow.size; have bQ1 := blk_far (bQ.alloc _) (hown.alloc _) (by omega) hgrow; have q2' : w3.cell? ⟨bo, 2, none⟩ = some v := bQ1.cell 2; have q3' : w3.cell? ⟨bo, 3, none⟩ = some (.int .i64 tm) := bQ1.cell 3; have fQ1 := bQ1.frozen)
        simp at hgs
        go_roundw
        case rel =>
          refine ⟨k + 1, _, 4, by omega, by go_num, Lib.hid (by unfold tmZ; rw [if_neg (by omega)]), ?_, by simp; omega, ?_, ?_, (bQ1.set_ 2 _).set_ 3 _, ?_⟩
          · exact (((hB.alloc hB.size _).grown hgrow (by have := hB.size; simp; omega) (fun q hq => by have := (hown.lt q hq).1; omega)).setCell (p := ⟨bo, 2, none⟩) (by simp; omega) _).setCell (p := ⟨bo, 3, none⟩) (by simp; omega) _
          · exact ((blk_far (bS.alloc _) (hown.alloc _) (by omega) hgrow).far (show w.heap.size ≠ bo by omega) _).far (show w.heap.size ≠ bo by omega) _
          · exact ((blk_far (bR.alloc _) (hown.alloc _) (by omega) hgrow).far (show w.heap.size + 1 ≠ bo by omega) _).far (show w.heap.size + 1 ≠ bo by omega) _
          · rw [HT.out, List.map_append, HKN.out]
            exact own_setCell (own_setCell hown' _ _ _ (by omega)) _ _ _ (by omega)
        case measure => simp [intOf]; omega
      · have HT := Lib.hid (take_drop_none (zs := zs) (show k + 1 ≤ d by omega))
        have HT0 := Lib.hid (take_drop_none (zs := zs) (show k ≤ d by omega))
        generalize zs[k] = x at *
        go_wp2
        go_roundw
        case rel =>
          refine ⟨k + 1, v, tm, by omega, by go_num, Lib.hid (by rw [HTM.out]; unfold tmZ; rw [if_pos (by omega), if_pos (by omega)]), hB, hsz, bS, bR, bQ, ?_⟩
          rw [HT0.out] at hown
          rw [HT.out, show k + 1 - d = k - d by omega]
          exact hown
        case measure => simp [intOf]; omega
    · obtain rfl : k = zs.length := by omega
      rw [List.take_length] at hown
      have hTM := HTM.out
      have HTM' := Lib.hid hTM
      clear hTM
      obtain ⟨Av, cv, rfl⟩ := own_succ' hown
      have r0 : wr.cell? ⟨w.heap.size + 1, 0, none⟩ = some (.int .i64 0) := bR.cell 0
      have r1 : wr.cell? ⟨w.heap.size + 1, 1, none⟩ = some (.int .i64 0) := bR.cell 1
      have r2 : wr.cell? ⟨w.heap.size + 1, 2, none⟩ = some (.slice none 0 0) := bR.cell 2
      have r3 : wr.cell? ⟨w.heap.size + 1, 3, none⟩ = some (.int .i64 0) := bR.cell 3
      have fR := bR.frozen
      go_wp2
      refine bodyPost_ret (v := .tuple #[.agg #[.int .i64 ep, .int .i64 (base + d), .slice Av (zs.length - d) cv, .int .i64 tm], .int .i64 0]) (by simp [results, Try.results19, go_sem, r0, r1, r2, r3, World.cell?_setCell_other]) rfl ?_
      rw [← HTM'.out]
      refine snd_new (b := bo + 1) (by rw [List.length_drop]) ?_ (by omega) (by go_grown)
      exact own_setCell (own_setCell (own_setCell (own_setCell hown _ _ _ (by omega)) _ _ _ (by omega)) _ _ _ (by omega)) _ _ _ (by omega)

end Go.Proofs.Ytplodggiifachaa
