/- Walks of the references Right and Push of chapter 15. -/
import Derived.Test.YtplodggiifachaaLink4
namespace Go.Proofs.Ytplodggiifachaa
open Go.RowKit
set_option linter.unusedVariables false
set_option linter.unusedSimpArgs false

theorem alloc_cell {w : World} {a : Addr} {v : Value} (ha : a.block < w.heap.size) (h : w.cell? a = some v) : ∀ o : Obj, (w.alloc o).cell? a = some v := fun o => (World.cell?_alloc_lt w o a ha).trans h
theorem rightB_long {s : Snd} (h : longB s.bodies = true) : rightB s = false := by unfold rightB; rw [h]; simp
theorem rightB_bad {s : Snd} (h : 8 < s.bodies.length ∨ withinB s.ep 0 1073741824 = false ∨ s.base < 0 ∨ 1073741824 - (s.bodies.length : Int) < s.base) : rightB s = false := by
  cases hR : rightB s
  · rfl
  · obtain ⟨a, b, c, d, e, f⟩ := rightB_iff.1 hR
    rw [withinB_false] at h
    omega
theorem rightB_end {s : Snd} (hl : longB s.bodies = false) (h8 : s.bodies.length ≤ 8) (he : withinB s.ep 0 1073741824 = true) (hb : 0 ≤ s.base) (hb' : s.base ≤ 1073741824 - (s.bodies.length : Int)) :
    rightB s = if s.bodies.length = 0 then s.timer == 0 else withinB s.timer 1 4 := by
  have he' := withinB_true.1 he
  rw [Bool.eq_iff_iff, rightB_iff]
  split
  · rw [beq_iff_eq]; simp only [hl, and_true]; omega
  · rw [withinB_true]; simp only [hl, and_true]; omega

set_option maxHeartbeats 1000000 in
theorem refRight_any (ep base timer : Int) (zs : List ByteArray) (A : Option Addr) (n c : Nat) (w : World) (hr : Reads w w.heap.size 1 A n (zs.map Value.string)) (hm : n ≤ 9223372036854775807) (hs : ∀ z ∈ zs, z.size ≤ maxLen) :
    Calls Try.prog 18 #[.agg #[.int .i64 ep, .int .i64 base, .slice A n c, .int .i64 timer]] w fun e w' => e = .returned (.bool (rightB ⟨ep, base, zs, timer⟩)) ∧ Below w.heap.size w w' := by
  have hlen := reads_len hr
  have HL := Lib.hid hlen
  have HS := Lib.hid hs
  clear hlen hs
  go_enter Try.func18, Try.ntmps18
  go_wp2
  go_loopw [8] (fun i wr => ∃ k : Nat, k ≤ n ∧ i = .int .i64 k ∧ Below w.heap.size w wr ∧ Blk wr w.heap.size 31 #[.int .i64 ep, .int .i64 base, .slice A n c, .int .i64 timer] ∧ Hid (longB (zs.take k) = false)) (fun i _ => n - (intOf i).toNat)
  case atStart => exact ⟨0, Nat.zero_le _, rfl, by go_grown, Blk.new _ _ _, Lib.hid rfl⟩
  case round =>
    obtain ⟨k, hk, rfl, hB, bT, HB⟩ := hrel
    have t0 := bT.cell 0
    have t1 := bT.cell 1
    have t2 := bT.cell 2
    have t3 := bT.cell 3
    simp at t0 t1 t2 t3
    by_cases hlt : k < n
    · obtain ⟨ad, hl, rfl, hc⟩ := strs_at (hr.below hB) hlt
      have hs1 := HS.out zs[k] (List.getElem_mem hl)
      unfold maxLen at hs1
      have ht := longB_take zs k hl
      rw [HB.out] at ht
      by_cases h4 : 4096 < zs[k].size
      · have hL : rightB ⟨ep, base, zs, timer⟩ = false := rightB_long (longB_of_take zs (k + 1) (by rw [ht]; simp [h4]))
        have HT := Lib.hid hL
        clear ht hL
        go_wp2
        go_ret
        exact ⟨ret_bool HT.out.symm, hB⟩
      · have HT := Lib.hid (ht.trans (by simp; omega) : longB (zs.take (k + 1)) = false)
        clear ht
        go_wp2
        go_roundw
        case rel => exact ⟨k + 1, by omega, by go_num, hB, bT, HT⟩
        case measure => simp [intOf]; omega
    · obtain rfl : k = n := by omega
      have hlong := HB.out
      rw [List.take_of_length_le (by have := HL.out; omega)] at hlong
      have hbad := rightB_bad (s := ⟨ep, base, zs, timer⟩)
      simp only [HL.out] at hbad
      have hend := rightB_end (s := ⟨ep, base, zs, timer⟩) hlong
      simp only [HL.out] at hend
      by_cases h8 : 8 < k
      · have HT := Lib.hid (hbad (.inl h8))
        clear hbad hend
        go_wp2
        go_ret
        exact ⟨ret_bool HT.out.symm, hB⟩
      cases h1 : withinB ep 0 1073741824
      · have HT := Lib.hid (hbad (.inr (.inl h1)))
        have H1 := Lib.hid h1
        clear hbad hend h1
        go_wp2_with (go_at_call 25; refine (in_any _ _ _ _).mono ?_; rw [H1.out]; rintro e w' ⟨rfl, rfl⟩)
        go_ret
        exact ⟨ret_bool HT.out.symm, hB⟩
      have H1 := Lib.hid h1
      clear h1
      by_cases h2 : base < 0
      · have HT := Lib.hid (hbad (.inr (.inr (.inl h2))))
        clear hbad hend
        go_wp2_with (go_at_call 25; refine (in_any _ _ _ _).mono ?_; rw [H1.out]; rintro e w' ⟨rfl, rfl⟩)
        go_ret
        exact ⟨ret_bool HT.out.symm, hB⟩
      by_cases h3 : 1073741824 - (k : Int) < base
      · have HT := Lib.hid (hbad (.inr (.inr (.inr h3))))
        clear hbad hend
        go_wp2_with (go_at_call 25; refine (in_any _ _ _ _).mono ?_; rw [H1.out]; rintro e w' ⟨rfl, rfl⟩)
        go_ret
        exact ⟨ret_bool HT.out.symm, hB⟩
      have HE := Lib.hid (hend (by omega) H1.out (by omega) (by omega))
      clear hbad hend
      by_cases h0 : k = 0
      · have HT := Lib.hid (HE.out.trans (if_pos h0))
        have h0' : ((k : Int) == 0) = true := by simp; omega
        clear h0 HE
        go_wp2_with (go_at_call 25; refine (in_any _ _ _ _).mono ?_; rw [H1.out]; rintro e w' ⟨rfl, rfl⟩)
        go_ret
        exact ⟨ret_bool HT.out.symm, hB⟩
      · have HT := Lib.hid (HE.out.trans (if_neg h0))
        have h0' : ((k : Int) == 0) = false := by simp; omega
        clear HE
        go_wp2_with fail
        refine (in_any _ _ _ _).mono ?_
        rw [H1.out]
        rintro e w' ⟨rfl, rfl⟩
        go_wp2_with fail
        refine (in_any _ _ _ _).mono ?_
        rintro e w' ⟨rfl, rfl⟩
        go_wp2
        go_ret
        exact ⟨ret_bool HT.out.symm, hB⟩

theorem own_succ' {w : World} {base : Nat} {e : TypeId} {size n : Nat} {v : Value} {xs : List Value} (h : w.ownsRow base e size v n xs) : ∃ A c, v = .slice A n c := by
  rcases h.2 with ⟨rfl, rfl⟩ | ⟨g', cap, cur, rfl, _⟩
  · exact ⟨_, _, rfl⟩
  · exact ⟨_, _, rfl⟩
/-- A block that is no part of the row behind an append to it. -/
theorem blk_far {w w1 : World} {base g n size : Nat} {t e : TypeId} {cs : Array Value} {v : Value} {xs : List Value} (h : Blk w g t cs) (ho : w.ownsRow base e size v n xs) (hg : g < base) (hgr : w.grownBy w1 v.ownBlock) : Blk w1 g t cs :=
  h.grown hgr fun e => by have := (ho.lt _ e.symm).1; omega

set_option maxHeartbeats 6000000 in
theorem refPush_any (ep base timer : Int) (zs : List ByteArray) (A : Option Addr) (n c : Nat) (body : ByteArray) (w : World) (hr : Reads w w.heap.size 1 A n (zs.map Value.string)) (hm : n ≤ 9223372036854775807) (hs : ∀ z ∈ zs, z.size ≤ maxLen) (hbs : body.size ≤ maxLen) :
    Calls Try.prog 17 #[.agg #[.int .i64 ep, .int .i64 base, .slice A n c, .int .i64 timer], .string body] w (PushPost (pushZ ⟨ep, base, zs, timer⟩ body) w) := by
  unfold maxLen at hbs
  obtain rfl := (reads_len hr).symm
  cases hR : rightB ⟨ep, base, zs, timer⟩
  · rw [show pushZ ⟨ep, base, zs, timer⟩ body = (⟨0, 0, [], 0⟩, (0, 0, .empty), 1) from by unfold pushZ; rw [if_pos hR]]
    go_enter Try.func17, Try.ntmps17
    go_wp2_with fail
    refine (refRight_any ep base timer zs A zs.length c _ (reads_alloc (reads_alloc (reads_alloc hr))) hm hs).mono ?_
    rw [hR]
    rintro e w1 ⟨rfl, hb1⟩
    obtain ⟨c1, f1⟩ := bcell hb1
    have y1 := hb1.size
    try simp at y1
    have z0_0_1 : w.heap.size < w1.heap.size := by omega
    have z0_1_1 : w.heap.size + 1 < w1.heap.size := by omega
    have z0_2_1 : w.heap.size + 1 + 1 < w1.heap.size := by omega
    have k1 : Below w.heap.size w w1 := next_below (by go_grown) hb1
    go_wp2
    exact bodyPost_ret (v := .tuple #[.agg #[.int .i64 0, .int .i64 0, .slice none 0 0, .int .i64 0], .agg #[.int .i64 0, .int .i64 0, .string .empty], .int .i64 1]) (by simp [results, Try.results17, go_sem, c1, f1, z0_0_1, z0_1_1, z0_2_1, World.cell?_setCell_other]; rfl) rfl (push_none (by go_grown))
  have hR' : ¬ rightB ⟨ep, base, zs, timer⟩ = false := by rw [hR]; simp
  obtain ⟨⟨e1, e2⟩, l8, ⟨b1, b2⟩, _⟩ := rightB_iff.1 hR
  simp only at e1 e2 l8 b1 b2
  by_cases h1 : 4096 < body.size
  · rw [show pushZ ⟨ep, base, zs, timer⟩ body = (⟨0, 0, [], 0⟩, (0, 0, .empty), 2) from by unfold pushZ; rw [if_neg hR', if_pos h1]]
    go_enter Try.func17, Try.ntmps17
    go_wp2_with fail
    refine (refRight_any ep base timer zs A zs.length c _ (reads_alloc (reads_alloc (reads_alloc hr))) hm hs).mono ?_
    rw [hR]
    rintro e w1 ⟨rfl, hb1⟩
    obtain ⟨c1, f1⟩ := bcell hb1
    have y1 := hb1.size
    try simp at y1
    have z0_0_1 : w.heap.size < w1.heap.size := by omega
    have z0_1_1 : w.heap.size + 1 < w1.heap.size := by omega
    have z0_2_1 : w.heap.size + 1 + 1 < w1.heap.size := by omega
    have k1 : Below w.heap.size w w1 := next_below (by go_grown) hb1
    go_wp2
    exact bodyPost_ret (v := .tuple #[.agg #[.int .i64 0, .int .i64 0, .slice none 0 0, .int .i64 0], .agg #[.int .i64 0, .int .i64 0, .string .empty], .int .i64 2]) (by simp [results, Try.results17, go_sem, c1, f1, z0_0_1, z0_1_1, z0_2_1, World.cell?_setCell_other]; rfl) rfl (push_none (by go_grown))
  by_cases h2 : zs.length = 8
  · have h2' : ((zs.length : Int) == 8) = true := by simp; omega
    rw [show pushZ ⟨ep, base, zs, timer⟩ body = (⟨0, 0, [], 0⟩, (0, 0, .empty), 3) from by unfold pushZ; rw [if_neg hR', if_neg h1, if_pos (.inl (by simp only; omega))]]
    clear h2
    go_enter Try.func17, Try.ntmps17
    go_wp2_with fail
    refine (refRight_any ep base timer zs A zs.length c _ (reads_alloc (reads_alloc (reads_alloc hr))) hm hs).mono ?_
    rw [hR]
    rintro e w1 ⟨rfl, hb1⟩
    obtain ⟨c1, f1⟩ := bcell hb1
    have y1 := hb1.size
    try simp at y1
    have z0_0_1 : w.heap.size < w1.heap.size := by omega
    have z0_1_1 : w.heap.size + 1 < w1.heap.size := by omega
    have z0_2_1 : w.heap.size + 1 + 1 < w1.heap.size := by omega
    have k1 : Below w.heap.size w w1 := next_below (by go_grown) hb1
    go_wp2
    exact bodyPost_ret (v := .tuple #[.agg #[.int .i64 0, .int .i64 0, .slice none 0 0, .int .i64 0], .agg #[.int .i64 0, .int .i64 0, .string .empty], .int .i64 3]) (by simp [results, Try.results17, go_sem, c1, f1, z0_0_1, z0_1_1, z0_2_1, World.cell?_setCell_other]; rfl) rfl (push_none (by go_grown))
  have h2' : ((zs.length : Int) == 8) = false := by simp; omega
  by_cases h3 : base + zs.length = 1073741824
  · have h3' : (base + (zs.length : Int) == 1073741824) = true := by simpa using h3
    rw [show pushZ ⟨ep, base, zs, timer⟩ body = (⟨0, 0, [], 0⟩, (0, 0, .empty), 3) from by unfold pushZ; rw [if_neg hR', if_neg h1, if_pos (.inr (by simp only; omega))]]
    clear h3
    go_enter Try.func17, Try.ntmps17
    go_wp2_with fail
    refine (refRight_any ep base timer zs A zs.length c _ (reads_alloc (reads_alloc (reads_alloc hr))) hm hs).mono ?_
    rw [hR]
    rintro e w1 ⟨rfl, hb1⟩
    obtain ⟨c1, f1⟩ := bcell hb1
    have y1 := hb1.size
    try simp at y1
    have z0_0_1 : w.heap.size < w1.heap.size := by omega
    have z0_1_1 : w.heap.size + 1 < w1.heap.size := by omega
    have z0_2_1 : w.heap.size + 1 + 1 < w1.heap.size := by omega
    have k1 : Below w.heap.size w w1 := next_below (by go_grown) hb1
    go_wp2
    exact bodyPost_ret (v := .tuple #[.agg #[.int .i64 0, .int .i64 0, .slice none 0 0, .int .i64 0], .agg #[.int .i64 0, .int .i64 0, .string .empty], .int .i64 3]) (by simp [results, Try.results17, go_sem, c1, f1, z0_0_1, z0_1_1, z0_2_1, World.cell?_setCell_other]; rfl) rfl (push_none (by go_grown))
  have h3' : (base + (zs.length : Int) == 1073741824) = false := by simpa using h3
  obtain ⟨i0, hi, hz0, hz1, hz2⟩ := info_parts infoStr
  obtain ⟨U, hU⟩ : ∃ U : Int, (if zs.length = 0 then 4 else timer) = U := ⟨_, rfl⟩
  rw [show pushZ ⟨ep, base, zs, timer⟩ body = (⟨ep, base, zs ++ [body], U⟩, (ep, base + zs.length, body), 0) from by unfold pushZ; rw [if_neg hR', if_neg h1, if_neg (by simp; omega)]; simp only; rw [hU]]
  have HU := Lib.hid hU
  clear hU h3 h2
  go_enter Try.func17, Try.ntmps17
  go_wp2_with fail
  refine (refRight_any ep base timer zs A zs.length c _ (reads_alloc (reads_alloc (reads_alloc hr))) hm hs).mono ?_
  rw [hR]
  rintro e w1 ⟨rfl, hb1⟩
  obtain ⟨c1, f1⟩ := bcell hb1
  have y1 := hb1.size
  try simp at y1
  have z0_0_1 : w.heap.size < w1.heap.size := by omega
  have z0_1_1 : w.heap.size + 1 < w1.heap.size := by omega
  have z0_2_1 : w.heap.size + 1 + 1 < w1.heap.size := by omega
  have k1 : Below w.heap.size w w1 := next_below (by go_grown) hb1
  have bS1 : Blk w1 w.heap.size 31 #[.int .i64 ep, .int .i64 base, .slice A zs.length c, .int .i64 timer] := (((Blk.new w _ _).alloc _).alloc _).below hb1 (by simp; omega)
  have bR1 : Blk w1 (w.heap.size + 1) 31 #[.int .i64 0, .int .i64 0, .slice none 0 0, .int .i64 0] := ((by simpa using (Blk.new (w.alloc (.cells #[.int .i64 ep, .int .i64 base, .slice A zs.length c, .int .i64 timer] 31)) 31 #[.int .i64 0, .int .i64 0, .slice none 0 0, .int .i64 0]).alloc _ : Blk _ (w.heap.size + 1) _ _)).below hb1 (by simp)
  have bP1 : Blk w1 (w.heap.size + 1 + 1) 25 #[.int .i64 0, .int .i64 0, .string ⟨#[]⟩] := ((by simpa using (Blk.new ((w.alloc (.cells #[.int .i64 ep, .int .i64 base, .slice A zs.length c, .int .i64 timer] 31)).alloc (.cells #[.int .i64 0, .int .i64 0, .slice none 0 0, .int .i64 0] 31)) 25 #[.int .i64 0, .int .i64 0, .string ⟨#[]⟩]) : Blk _ (w.heap.size + 1 + 1) _ _)).below hb1 (by simp)
  go_wp2_with fail
  have bQ0 := Blk.new w1 31 #[.int .i64 ep, .int .i64 base, .slice none 0 0, .int .i64 timer]
  have bS0 := bS1.alloc (.cells #[.int .i64 ep, .int .i64 base, .slice none 0 0, .int .i64 timer] 31)
  have bR0 := bR1.alloc (.cells #[.int .i64 ep, .int .i64 base, .slice none 0 0, .int .i64 timer] 31)
  have bP0 := bP1.alloc (.cells #[.int .i64 ep, .int .i64 base, .slice none 0 0, .int .i64 timer] 31)
  have k0 := k1.alloc k1.size (.cells #[.int .i64 ep, .int .i64 base, .slice none 0 0, .int .i64 timer] 31)
  have hz' : w1.heap.size + 1 ≤ (w1.alloc (.cells #[.int .i64 ep, .int .i64 base, .slice none 0 0, .int .i64 timer] 31)).heap.size := by simp
  clear c1 f1 hb1 bS1 bR1 bP1
  generalize w1.alloc (.cells #[.int .i64 ep, .int .i64 base, .slice none 0 0, .int .i64 timer] 31) = V at *
  have kk1 := k1.size
  generalize w1.heap.size = bo at *
  go_loopw [47] (fun i wr => ∃ (k : Nat) (v : Value), k ≤ zs.length ∧ i = .int .i64 k ∧ Below w.heap.size w wr ∧ bo + 1 ≤ wr.heap.size ∧ Blk wr w.heap.size 31 #[.int .i64 ep, .int .i64 base, .slice A zs.length c, .int .i64 timer] ∧ Blk wr (w.heap.size + 1) 31 #[.int .i64 0, .int .i64 0, .slice none 0 0, .int .i64 0] ∧
    Blk wr (w.heap.size + 1 + 1) 25 #[.int .i64 0, .int .i64 0, .string ⟨#[]⟩] ∧ Blk wr bo 31 #[.int .i64 ep, .int .i64 base, v, .int .i64 timer] ∧ wr.ownsRow (bo + 1) 9 1 v k ((zs.take k).map Value.string)) (fun i _ => zs.length - (intOf i).toNat)
  case atStart => exact ⟨0, _, Nat.zero_le _, rfl, k0, hz', bS0, bR0, bP0, bQ0, World.ownsRow_nil _ _ _ _⟩
  case round =>
    clear bS0 bR0 bP0 bQ0 k0 hz'
    obtain ⟨k, v, hk, rfl, hB, hsz, bS, bR, bP, bQ, hown⟩ := hrel
    have lS := bS.lt
    have lR := bR.lt
    have lP := bP.lt
    have lQ := bQ.lt
    have q0 : wr.cell? ⟨bo, 0, none⟩ = some (.int .i64 ep) := bQ.cell 0
    have q1 : wr.cell? ⟨bo, 1, none⟩ = some (.int .i64 base) := bQ.cell 1
    have q2 : wr.cell? ⟨bo, 2, none⟩ = some v := bQ.cell 2
    have q3 : wr.cell? ⟨bo, 3, none⟩ = some (.int .i64 timer) := bQ.cell 3
    have fQ := bQ.frozen
    by_cases hlt : k < zs.length
    · obtain ⟨ad, hl, rfl, hc⟩ := strs_at (hr.below hB) hlt
      have HT := Lib.hid (List.take_succ_eq_append_getElem hl)
      generalize zs[k] = x at *
      go_wp2_with (at_builtin; refine wpList_append_any _ rfl (.tmp 52) (.tmp 54) 29 rfl (bo + 1) 9 i0 _ 1 16 Try.underlying29 hi hz0 hz1 hz2 rfl (by decide) _ _ _ rfl (hown.alloc _) (wr.heap.size + 1) (some ⟨wr.heap.size, 0, none⟩) 1 1 [.string x] rfl ⟨rfl, fun _ => ⟨_, rfl, by simp, fun j u hu => by cases j <;> simp_all [go_sem]⟩⟩ (by simp [Value.oneCell']) (by unfold maxLen; omega) (by omega) (by simp; omega) ?_; intro v' w3 hown' hgrow _; obtain ⟨g3, cap3, rfl⟩ := own_succ hown'; have hgs := hgrow.size; have bQ1 := blk_far (bQ.alloc _) (hown.alloc _) (by omega) hgrow; have q2' : w3.cell? ⟨bo, 2, none⟩ = some v := bQ1.cell 2; have fQ1 := bQ1.frozen)
      simp at hgs
      go_roundw
      case rel =>
        refine ⟨k + 1, _, by omega, by go_num, ?_, by simp; omega, ?_, ?_, ?_, bQ1.set_ 2 _, ?_⟩
        · exact ((hB.alloc hB.size _).grown hgrow (by have := hB.size; simp; omega) (fun q hq => by have := (hown.lt q hq).1; omega)).setCell (p := ⟨bo, 2, none⟩) (by simp; omega) _
        · exact (blk_far (bS.alloc _) (hown.alloc _) (by omega) hgrow).far (show w.heap.size ≠ bo by omega) _
        · exact (blk_far (bR.alloc _) (hown.alloc _) (by omega) hgrow).far (show w.heap.size + 1 ≠ bo by omega) _
        · exact (blk_far (bP.alloc _) (hown.alloc _) (by omega) hgrow).far (show w.heap.size + 1 + 1 ≠ bo by omega) _
        · rw [HT.out, List.map_append]
          exact own_setCell hown' _ _ _ (by omega)
      case measure => simp [intOf]; omega
    · obtain rfl : k = zs.length := by omega
      rw [List.take_length] at hown
      have hN1 : (zs ++ [body]).length = zs.length + 1 := by simp
      have hN2 : (zs ++ [body]).map Value.string = zs.map Value.string ++ [.string body] := by simp
      have HN1 := Lib.hid hN1
      have HN2 := Lib.hid hN2
      clear hN1 hN2
      cases h0 : ((zs.length : Int) == 0)
      · have hU := HU.out
        rw [if_neg (by simpa using h0)] at hU
        subst hU
        go_wp2_with (at_builtin; refine wpList_append_any _ rfl (.tmp 59) (.tmp 61) 29 rfl (bo + 1) 9 i0 _ 1 16 Try.underlying29 hi hz0 hz1 hz2 rfl (by decide) _ _ _ rfl (hown.alloc _) (wr.heap.size + 1) (some ⟨wr.heap.size, 0, none⟩) 1 1 [.string body] rfl ⟨rfl, fun _ => ⟨_, rfl, by simp, fun j u hu => by cases j <;> simp_all [go_sem]⟩⟩ (by simp [Value.oneCell']) (by unfold maxLen; omega) (by omega) (by simp; omega) ?_; intro v' w3 hown' hgrow _; obtain ⟨g3, cap3, rfl⟩ := own_succ hown'; have hgs := hgrow.size; have bQ1 := blk_far (bQ.alloc _) (hown.alloc _) (by omega) hgrow; have q2' : w3.cell? ⟨bo, 2, none⟩ = some v := bQ1.cell 2; have fQ1 := bQ1.frozen; have bS3 := blk_far (bS.alloc _) (hown.alloc _) (by omega) hgrow; have bR3 := blk_far (bR.alloc _) (hown.alloc _) (by omega) hgrow; have bP3 := blk_far (bP.alloc _) (hown.alloc _) (by omega) hgrow; have p0 : w3.cell? ⟨bo, 0, none⟩ = some (.int .i64 ep) := bQ1.cell 0; have p1 : w3.cell? ⟨bo, 1, none⟩ = some (.int .i64 base) := bQ1.cell 1; have p3 : w3.cell? ⟨bo, 3, none⟩ = some (.int .i64 timer) := bQ1.cell 3; have s0 : w3.cell? ⟨w.heap.size, 0, none⟩ = some (.int .i64 ep) := bS3.cell 0; have s2 : w3.cell? ⟨w.heap.size, 2, none⟩ = some (.slice A zs.length c) := bS3.cell 2; have r0 : w3.cell? ⟨w.heap.size + 1, 0, none⟩ = some (.int .i64 0) := bR3.cell 0; have r1 : w3.cell? ⟨w.heap.size + 1, 1, none⟩ = some (.int .i64 0) := bR3.cell 1; have r2 : w3.cell? ⟨w.heap.size + 1, 2, none⟩ = some (.slice none 0 0) := bR3.cell 2; have r3 : w3.cell? ⟨w.heap.size + 1, 3, none⟩ = some (.int .i64 0) := bR3.cell 3; have v0 : w3.cell? ⟨w.heap.size + 1 + 1, 0, none⟩ = some (.int .i64 0) := bP3.cell 0; have v1 : w3.cell? ⟨w.heap.size + 1 + 1, 1, none⟩ = some (.int .i64 0) := bP3.cell 1; have v2 : w3.cell? ⟨w.heap.size + 1 + 1, 2, none⟩ = some (.string ⟨#[]⟩) := bP3.cell 2; have fR := bR3.frozen; have fP := bP3.frozen; have kL := ((hB.alloc hB.size _).grown hgrow (by have := hB.size; simp; omega) (fun q hq => by have := (hown.lt q hq).1; omega)))
        go_region
        go_wp2
        have hno1 : w.heap.size + 1 ≠ bo := by omega
        have hno2 : w.heap.size + 1 + 1 ≠ bo := by omega
        refine bodyPost_ret (v := .tuple #[.agg #[.int .i64 ep, .int .i64 base, .slice (some ⟨g3, 0, none⟩) (zs.length + 1) cap3, .int .i64 timer], .agg #[.int .i64 ep, .int .i64 (base + zs.length), .string body], .int .i64 0]) (by simp [results, Try.results17, go_sem, r0, r1, r2, r3, v0, v1, v2, hno1, hno1.symm, hno2, hno2.symm, World.cell?_setCell_other]) rfl ?_
        refine push_new HN1.out (b := bo + 1) ?_ (by omega) (by go_grown)
        rw [HN2.out]
        refine own_drew ?_
        iterate 8
          refine own_setCell ?_ _ _ _ ?_
          rotate_left 1
          · omega
        exact hown'
      · have hU := HU.out
        rw [if_pos (by simpa using h0)] at hU
        subst hU
        go_wp2_with (at_builtin; refine wpList_append_any _ rfl (.tmp 59) (.tmp 61) 29 rfl (bo + 1) 9 i0 _ 1 16 Try.underlying29 hi hz0 hz1 hz2 rfl (by decide) _ _ _ rfl (hown.alloc _) (wr.heap.size + 1) (some ⟨wr.heap.size, 0, none⟩) 1 1 [.string body] rfl ⟨rfl, fun _ => ⟨_, rfl, by simp, fun j u hu => by cases j <;> simp_all [go_sem]⟩⟩ (by simp [Value.oneCell']) (by unfold maxLen; omega) (by omega) (by simp; omega) ?_; intro v' w3 hown' hgrow _; obtain ⟨g3, cap3, rfl⟩ := own_succ hown'; have hgs := hgrow.size; have bQ1 := blk_far (bQ.alloc _) (hown.alloc _) (by omega) hgrow; have q2' : w3.cell? ⟨bo, 2, none⟩ = some v := bQ1.cell 2; have fQ1 := bQ1.frozen; have bS3 := blk_far (bS.alloc _) (hown.alloc _) (by omega) hgrow; have bR3 := blk_far (bR.alloc _) (hown.alloc _) (by omega) hgrow; have bP3 := blk_far (bP.alloc _) (hown.alloc _) (by omega) hgrow; have p0 : w3.cell? ⟨bo, 0, none⟩ = some (.int .i64 ep) := bQ1.cell 0; have p1 : w3.cell? ⟨bo, 1, none⟩ = some (.int .i64 base) := bQ1.cell 1; have p3 : w3.cell? ⟨bo, 3, none⟩ = some (.int .i64 timer) := bQ1.cell 3; have s0 : w3.cell? ⟨w.heap.size, 0, none⟩ = some (.int .i64 ep) := bS3.cell 0; have s2 : w3.cell? ⟨w.heap.size, 2, none⟩ = some (.slice A zs.length c) := bS3.cell 2; have r0 : w3.cell? ⟨w.heap.size + 1, 0, none⟩ = some (.int .i64 0) := bR3.cell 0; have r1 : w3.cell? ⟨w.heap.size + 1, 1, none⟩ = some (.int .i64 0) := bR3.cell 1; have r2 : w3.cell? ⟨w.heap.size + 1, 2, none⟩ = some (.slice none 0 0) := bR3.cell 2; have r3 : w3.cell? ⟨w.heap.size + 1, 3, none⟩ = some (.int .i64 0) := bR3.cell 3; have v0 : w3.cell? ⟨w.heap.size + 1 + 1, 0, none⟩ = some (.int .i64 0) := bP3.cell 0; have v1 : w3.cell? ⟨w.heap.size + 1 + 1, 1, none⟩ = some (.int .i64 0) := bP3.cell 1; have v2 : w3.cell? ⟨w.heap.size + 1 + 1, 2, none⟩ = some (.string ⟨#[]⟩) := bP3.cell 2; have fR := bR3.frozen; have fP := bP3.frozen; have kL := ((hB.alloc hB.size _).grown hgrow (by have := hB.size; simp; omega) (fun q hq => by have := (hown.lt q hq).1; omega)))
        go_region
        go_wp2
        have hno1 : w.heap.size + 1 ≠ bo := by omega
        have hno2 : w.heap.size + 1 + 1 ≠ bo := by omega
        refine bodyPost_ret (v := .tuple #[.agg #[.int .i64 ep, .int .i64 base, .slice (some ⟨g3, 0, none⟩) (zs.length + 1) cap3, .int .i64 4], .agg #[.int .i64 ep, .int .i64 (base + zs.length), .string body], .int .i64 0]) (by simp [results, Try.results17, go_sem, r0, r1, r2, r3, v0, v1, v2, hno1, hno1.symm, hno2, hno2.symm, World.cell?_setCell_other]) rfl ?_
        refine push_new HN1.out (b := bo + 1) ?_ (by omega) (by go_grown)
        rw [HN2.out]
        refine own_drew ?_
        iterate 9
          refine own_setCell ?_ _ _ _ ?_
          rotate_left 1
          · omega
        exact hown'

end Go.Proofs.Ytplodggiifachaa
