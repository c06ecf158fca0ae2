/- Walk of SourceTells. -/
import Derived.Test.YtmlejdcanlgpdaaKept2
import Derived.Test.YtmlejdcanlgpdaaRunT
import Derived.Test.YtmlejdcanlgpdaaSrcL
import Derived.Deep.CutRange
namespace Go.Proofs.Ytmlejdcanlgpdaa
open Go.RowKit
set_option linter.unusedVariables false
set_option linter.unusedSimpArgs false

theorem newZ_check (j : Jb) (l : List Ev) : (newZ j l 0).2 = checkZ j l := by
  unfold newZ checkZ
  by_cases hJ : jobB j = false
  · rw [if_pos hJ, if_pos hJ]
  · rw [if_neg hJ, if_neg hJ]
    by_cases hB : inB l = false
    · rw [if_pos (.inl hB), if_pos hB]
    · rw [if_neg (by rintro (h | h | h); exact hB h; omega; omega), if_neg hB]
theorem okT_at {m : Int} {l : List It} {k : Nat} (hk : k < l.length) (h : okT m (l.drop k)) :
    (l[k].kind = 1 ∧ m ≤ l[k].ev.at_ ∧ okT m (l.drop (k + 1))) ∨ (l[k].kind = 2 ∧ m < l[k].mark ∧ (l[k].mark = 1099511627776 ↔ k + 1 = l.length) ∧ okT l[k].mark (l.drop (k + 1))) := by
  rw [List.drop_eq_getElem_cons hk] at h
  rcases h with ⟨h1, h2, h3⟩ | ⟨h1, h2, h3, h4⟩
  · exact .inl ⟨h1, h2, h3⟩
  · refine .inr ⟨h1, h2, h3.trans ?_, h4⟩
    rw [List.drop_eq_nil_iff]
    omega
theorem mkOf_snoc (x : It) : ∀ (l : List It) (m : Int), mkOf m (l ++ [x]) = if x.kind = 1 then mkOf m l else x.mark
  | [], m => rfl
  | y :: l, m => mkOf_snoc x l _
theorem evsOf_snoc (x : It) : ∀ (l : List It), evsOf (l ++ [x]) = if x.kind = 1 then evsOf l ++ [x.ev] else evsOf l
  | [] => by by_cases h : x.kind = 1 <;> simp [evsOf, h]
  | y :: l => by
    have e := evsOf_snoc x l
    by_cases h : x.kind = 1
    · rw [if_pos h] at e ⊢
      by_cases g : y.kind = 1 <;> simp [evsOf, e, g]
    · rw [if_neg h] at e ⊢
      by_cases g : y.kind = 1 <;> simp [evsOf, e, g]

theorem evsOf_len : ∀ (l : List It), (evsOf l).length ≤ l.length
  | [] => Nat.le_refl _
  | x :: l => by
    have := evsOf_len l
    unfold evsOf
    split <;> simp <;> omega

set_option maxRecDepth 100000 in
set_option maxHeartbeats 4000000 in
theorem walkTells (j : Jb) (ls : List Ev) (nn : Int) (A : Option Addr) (n c : Nat) (w : World) (hj : j.Wf) (hr : Reads w w.heap.size 3 A n (evs ls)) (hm : n ≤ 9223372036854775807) (hcm : n ≤ c) (hs : ∀ z ∈ ls, z.key.size ≤ maxLen) (hv : ∀ z ∈ ls, -9223372036854775808 ≤ z.v ∧ z.v ≤ 9223372036854775807) (hnn : -9223372036854775808 ≤ nn ∧ nn ≤ 9223372036854775807) :
    Calls Try.prog 8 #[.agg #[.int .i64 j.groups, .int .i64 j.size, .int .i64 j.slide, .int .i64 j.fold, .int .i64 j.fuel, .int .i64 j.limit, .int .i64 j.delay, .int .i64 j.idle], .slice A n c, .int .i64 nn] w fun e w' => e = .returned (.bool true) ∧ Below w.heap.size w w' := by
  have hmx : ∀ x y : Int, (if x < y then y else x) = max x y := fun x y => by split <;> omega
  have hmn : ∀ x y : Int, (if x < y then x else y) = min y x := fun x y => by split <;> omega
  obtain ⟨T, hT, hT3⟩ : ∃ v : Nat, min (max nn 0) 3 = v ∧ v ≤ 3 := ⟨(min (max nn 0) 3).toNat, by omega, by omega⟩
  by_cases h1 : n ≤ 40
  · have hc1 : (n : Int) ≤ 40 := by omega
    have hm40 := h1
    have hd1 : decide ((40 : Int) < n) = false := by simp; omega
    go_enter Try.func8, Try.ntmps8
    go_upto_region 3 with fail
    have hs' : ∀ z ∈ ls, z.key.size ≤ maxLen := fun z hz => hs z (hz)
    have hv' : ∀ z ∈ ls, -9223372036854775808 ≤ z.v ∧ z.v ≤ 9223372036854775807 := fun z hz => hv z (hz)
    have hLl : (ls).length = n := by have := evs_len hr; first | omega | (rw [List.length_take]; omega)
    have HLl := Lib.hid hLl
    clear hLl
    have bJ0 : Blk (w.alloc (.cells #[.int .i64 j.groups, .int .i64 j.size, .int .i64 j.slide, .int .i64 j.fold, .int .i64 j.fuel, .int .i64 j.limit, .int .i64 j.delay, .int .i64 j.idle] 23)) w.heap.size 23 #[.int .i64 j.groups, .int .i64 j.size, .int .i64 j.slide, .int .i64 j.fold, .int .i64 j.fuel, .int .i64 j.limit, .int .i64 j.delay, .int .i64 j.idle] := Blk.new w _ _
    have kV0 : Below w.heap.size w (w.alloc (.cells #[.int .i64 j.groups, .int .i64 j.size, .int .i64 j.slide, .int .i64 j.fold, .int .i64 j.fuel, .int .i64 j.limit, .int .i64 j.delay, .int .i64 j.idle] 23)) := by go_grown
    have hrd0 := reads_alloc (o := .cells #[.int .i64 j.groups, .int .i64 j.size, .int .i64 j.slide, .int .i64 j.fold, .int .i64 j.fuel, .int .i64 j.limit, .int .i64 j.delay, .int .i64 j.idle] 23) hr
    generalize w.alloc (.cells #[.int .i64 j.groups, .int .i64 j.size, .int .i64 j.slide, .int .i64 j.fold, .int .i64 j.fuel, .int .i64 j.limit, .int .i64 j.delay, .int .i64 j.idle] 23) = V0 at *
    have lJ0 := bJ0.lt
    have j0 : V0.cell? ⟨w.heap.size, 0, none⟩ = some (.int .i64 j.groups) := bJ0.cell 0
    have j1 : V0.cell? ⟨w.heap.size, 1, none⟩ = some (.int .i64 j.size) := bJ0.cell 1
    have j2 : V0.cell? ⟨w.heap.size, 2, none⟩ = some (.int .i64 j.slide) := bJ0.cell 2
    have j3 : V0.cell? ⟨w.heap.size, 3, none⟩ = some (.int .i64 j.fold) := bJ0.cell 3
    have j4 : V0.cell? ⟨w.heap.size, 4, none⟩ = some (.int .i64 j.fuel) := bJ0.cell 4
    have j5 : V0.cell? ⟨w.heap.size, 5, none⟩ = some (.int .i64 j.limit) := bJ0.cell 5
    have j6 : V0.cell? ⟨w.heap.size, 6, none⟩ = some (.int .i64 j.delay) := bJ0.cell 6
    have j7 : V0.cell? ⟨w.heap.size, 7, none⟩ = some (.int .i64 j.idle) := bJ0.cell 7
    go_wp2_with fail
    refine (kept_any j A n c (ls) _ hj hrd0 (by omega) hs' hv').mono ?_
    rintro e w1 ⟨vk, rfl, ho1, hb1⟩
    obtain ⟨Ak, ck, rfl⟩ := own_form ho1
    have rk1 := Reads.of_own ho1
    have hrd1 := reads_below hrd0 hb1
    have bJ1 := bJ0.below hb1 lJ0
    have k1 : Below w.heap.size w w1 := kV0.trans (hb1.mono kV0.size)
    clear j0 j1 j2 j3 j4 j5 j6 j7
    generalize hKZ : keptZ j (ls) = KK at *
    have j0 : w1.cell? ⟨w.heap.size, 0, none⟩ = some (.int .i64 j.groups) := bJ1.cell 0
    have j1 : w1.cell? ⟨w.heap.size, 1, none⟩ = some (.int .i64 j.size) := bJ1.cell 1
    have j2 : w1.cell? ⟨w.heap.size, 2, none⟩ = some (.int .i64 j.slide) := bJ1.cell 2
    have j3 : w1.cell? ⟨w.heap.size, 3, none⟩ = some (.int .i64 j.fold) := bJ1.cell 3
    have j4 : w1.cell? ⟨w.heap.size, 4, none⟩ = some (.int .i64 j.fuel) := bJ1.cell 4
    have j5 : w1.cell? ⟨w.heap.size, 5, none⟩ = some (.int .i64 j.limit) := bJ1.cell 5
    have j6 : w1.cell? ⟨w.heap.size, 6, none⟩ = some (.int .i64 j.delay) := bJ1.cell 6
    have j7 : w1.cell? ⟨w.heap.size, 7, none⟩ = some (.int .i64 j.idle) := bJ1.cell 7
    have hNC := newZ_check j (ls)
    obtain ⟨r, hR⟩ : ∃ r, newZ j (ls) 0 = r := ⟨_, rfl⟩
    rw [hR] at hNC
    have HNC := Lib.hid hNC
    clear hNC
    obtain ⟨z, hz⟩ : ∃ z, checkZ j (ls) = z := ⟨_, rfl⟩
    have HC := Lib.hid hz
    rw [hz] at HNC
    rw [hz]
    clear hz
    go_wp2_with fail
    refine (new_any j (ls) 0 A n c _ hj hrd1 hm hcm hs' hv').mono ?_
    rw [hR]
    rintro e w2 ⟨hb2, h2⟩
    have k2 := k1.trans (hb2.mono k1.size)
    have bJ2 := bJ1.below hb2 bJ1.lt
    clear j0 j1 j2 j3 j4 j5 j6 j7
    have j0 : w2.cell? ⟨w.heap.size, 0, none⟩ = some (.int .i64 j.groups) := bJ2.cell 0
    have j1 : w2.cell? ⟨w.heap.size, 1, none⟩ = some (.int .i64 j.size) := bJ2.cell 1
    have j2 : w2.cell? ⟨w.heap.size, 2, none⟩ = some (.int .i64 j.slide) := bJ2.cell 2
    have j3 : w2.cell? ⟨w.heap.size, 3, none⟩ = some (.int .i64 j.fold) := bJ2.cell 3
    have j4 : w2.cell? ⟨w.heap.size, 4, none⟩ = some (.int .i64 j.fuel) := bJ2.cell 4
    have j5 : w2.cell? ⟨w.heap.size, 5, none⟩ = some (.int .i64 j.limit) := bJ2.cell 5
    have j6 : w2.cell? ⟨w.heap.size, 6, none⟩ = some (.int .i64 j.delay) := bJ2.cell 6
    have j7 : w2.cell? ⟨w.heap.size, 7, none⟩ = some (.int .i64 j.idle) := bJ2.cell 7
    by_cases h0 : z = 0
    rotate_left
    · have hne : (z != 0) = true := by simpa using h0
      rcases h2 with ⟨hz, _⟩ | ⟨_, rfl⟩
      · exact absurd (HNC.out.symm.trans hz) h0
      rw [HNC.out]
      clear h0
      go_wp2_with fail
      refine (alive_any _).mono ?_
      rintro e w3 ⟨rfl, hb3⟩
      have k3 : Below w.heap.size w w3 := next_below (k2.alloc k2.size _) hb3
      go_wp2
      go_ret
      exact ⟨by simp, k3⟩
    subst h0
    obtain ⟨hJ, hI, hZ⟩ := newZ_ok (hR ▸ HNC.out)
    have hR2 := hR.symm.trans hZ
    subst hR2
    have HJ := Lib.hid hJ
    have HI := Lib.hid hI
    rcases h2 with ⟨_, rfl⟩ | ⟨hz, _⟩
    rotate_left
    · exact absurd rfl hz
    have hrd2 := reads_below hrd1 hb2
    have rk2 := reads_below rk1 hb2
    have hkk : KK = keptF j 0 (ls) := by rw [← hKZ]; exact if_pos HC.out
    have HKK := Lib.hid hkk
    clear hJ hI hZ hkk hKZ
    go_upto_region 7 with fail
    have bJ3 := bJ2.alloc (.cells #[.slice A n c, .int .i64 0, .int .i64 (markL j []), .int .i64 0, .bool false] 26)
    have bS3 : Blk (w2.alloc (.cells #[.slice A n c, .int .i64 0, .int .i64 (markL j []), .int .i64 0, .bool false] 26)) w2.heap.size 26 #[.slice A n c, .int .i64 0, .int .i64 (markL j []), .int .i64 0, .bool false] := Blk.new w2 _ _
    have k3 := k2.alloc k2.size (.cells #[.slice A n c, .int .i64 0, .int .i64 (markL j []), .int .i64 0, .bool false] 26)
    have hrd3 := reads_alloc (o := .cells #[.slice A n c, .int .i64 0, .int .i64 (markL j []), .int .i64 0, .bool false] 26) hrd2
    have rk3 := reads_alloc (o := .cells #[.slice A n c, .int .i64 0, .int .i64 (markL j []), .int .i64 0, .bool false] 26) rk2
    clear bJ2 k2 hrd2 rk2 hb2 bJ0 kV0 hrd0 lJ0 rk1 hrd1 bJ1 k1 ho1 hb1
    clear j0 j1 j2 j3 j4 j5 j6 j7
    generalize w2.alloc (.cells #[.slice A n c, .int .i64 0, .int .i64 (markL j []), .int .i64 0, .bool false] 26) = V3 at *
    generalize w2.heap.size = sb at *
    have j0 : V3.cell? ⟨w.heap.size, 0, none⟩ = some (.int .i64 j.groups) := bJ3.cell 0
    have j1 : V3.cell? ⟨w.heap.size, 1, none⟩ = some (.int .i64 j.size) := bJ3.cell 1
    have j2 : V3.cell? ⟨w.heap.size, 2, none⟩ = some (.int .i64 j.slide) := bJ3.cell 2
    have j3 : V3.cell? ⟨w.heap.size, 3, none⟩ = some (.int .i64 j.fold) := bJ3.cell 3
    have j4 : V3.cell? ⟨w.heap.size, 4, none⟩ = some (.int .i64 j.fuel) := bJ3.cell 4
    have j5 : V3.cell? ⟨w.heap.size, 5, none⟩ = some (.int .i64 j.limit) := bJ3.cell 5
    have j6 : V3.cell? ⟨w.heap.size, 6, none⟩ = some (.int .i64 j.delay) := bJ3.cell 6
    have j7 : V3.cell? ⟨w.heap.size, 7, none⟩ = some (.int .i64 j.idle) := bJ3.cell 7
    have s0 : V3.cell? ⟨sb, 0, none⟩ = some (.slice A n c) := bS3.cell 0
    have s1 : V3.cell? ⟨sb, 1, none⟩ = some (.int .i64 0) := bS3.cell 1
    have s2 : V3.cell? ⟨sb, 2, none⟩ = some (.int .i64 (markL j [])) := bS3.cell 2
    have s3 : V3.cell? ⟨sb, 3, none⟩ = some (.int .i64 0) := bS3.cell 3
    have s4 : V3.cell? ⟨sb, 4, none⟩ = some (.bool false) := bS3.cell 4
    have hrun := runT_any j (ls) A n c 0 V3 hj hs' hv' hrd3 T hT3 (by omega) (Nat.zero_le _) HJ HI
    rw [List.take_zero] at hrun
    go_wp2_with fail
    refine hrun.mono ?_
    have hAW := accI_whole (j := j) (L := ls) HJ.out HI.out
    rw [HLl.out] at hAW
    rw [show n - 0 + 1 = n + 1 by omega, hAW]
    have hal := accI_len j (ls) 0 (n + 1)
    rw [hAW] at hal
    obtain ⟨hok, hev, hmk⟩ := tellF_ok j (ls) 0 (by omega) (fun e he => by have h := (inB_iff.1 HI.out).2 e he; simp [evB] at h; exact h.2)
    clear hrun hAW
    generalize tellF j 0 (ls) = L1 at *
    rintro e w4 ⟨A4, c4, rfl, rd4, hb4⟩
    have k4 := k3.trans (hb4.mono k3.size)
    have rk4 := reads_below rk3 hb4
    have HOK := Lib.hid hok
    have HEV := Lib.hid hev
    have HMK := Lib.hid hmk
    have hmn' : ((n + 1 : Nat) : Int) = (n : Int) + 1 := by omega
    have hw1 : IntKind.i64.wrap ((n : Int) + 1) = (n : Int) + 1 := IntWalk.i64_in _ (by omega)
    clear j0 j1 j2 j3 j4 j5 j6 j7 s0 s1 s2 s3 s4
    clear hok hev hmk bJ3 bS3 k3 hrd3 rk3 hb4
    obtain ⟨ii, hi0, hz0, hz1, hz2⟩ := info_parts infoEv
    have hL1b : L1.length ≤ 3 * n + 6 := by omega
    have hpos : 0 < L1.length := by
      rcases Nat.eq_zero_or_pos L1.length with h | h
      · have := List.eq_nil_of_length_eq_zero h
        subst this
        have := HMK.out
        simp [mkOf] at this
      · exact h
    have hsz4 := k4.size
    go_wp2_with fail
    go_loopw [14, 15, 68] (fun told mk i wr => ∃ (q : Nat) (v : Value), told = v ∧ i = .int .i64 q ∧ mk = .int .i64 (mkOf 0 (L1.take q)) ∧ q ≤ L1.length ∧ Below w.heap.size w wr ∧ w4.heap.size ≤ wr.heap.size ∧ Reads wr w4.heap.size 11 A4 L1.length (itms L1) ∧ Reads wr w4.heap.size 3 Ak KK.length (evs KK) ∧ wr.ownsRow w4.heap.size 37 3 v (evsOf (L1.take q)).length (evs (evsOf (L1.take q))) ∧ Hid (okT (mkOf 0 (L1.take q)) (L1.drop q))) (fun _ _ i _ => L1.length - (intOf i).toNat)
    case atStart => exact ⟨0, _, rfl, rfl, rfl, Nat.zero_le _, k4, Nat.le_refl _, rd4, rk4, World.ownsRow_nil _ _ _ _, HOK⟩
    case round =>
      clear rd4 rk4 HOK k4
      obtain ⟨q, v, hov, rfl, rfl, hq, hB, hsz, rd, rk, ho, HOK⟩ := hrel
      subst hov
      by_cases hlt : q < L1.length
      · obtain ⟨ad, hl, rfl, _, d0, d1, d2, d3, d4, d5, d6, d7, d8, d9, d10⟩ := itms_get rd hlt
        have hok := okT_at hl HOK.out
        have h1s := mkOf_snoc L1[q] (L1.take q) 0
        have h2s := evsOf_snoc L1[q] (L1.take q)
        rw [← List.take_succ_eq_append_getElem hl] at h1s h2s
        generalize L1[q] = x at *
        obtain ⟨mq, hmq⟩ : ∃ mq, mkOf 0 (L1.take q) = mq := ⟨_, rfl⟩
        have hwq : IntKind.i64.wrap ((q : Int) + 1) = (q : Int) + 1 := IntWalk.i64_in _ (by omega)
        have hqL : (q : Int) < (L1.length : Int) := by omega
        rw [hmq] at hok h1s
        rw [hmq]
        obtain ⟨A0, c0, hov⟩ := own_form ho
        subst hov
        have hel := evsOf_len (L1.take q)
        rw [List.length_take] at hel
        have IT := True.intro
        have kI : Below w4.heap.size wr (wr.alloc (.cells #[.int .i64 x.kind, .string x.ev.key, .int .i64 x.ev.at_, .int .i64 x.ev.v, .int .i64 x.mark, .int .i64 0, .int .i64 0, .int .i64 0, .string ⟨#[]⟩, .int .i64 0, .int .i64 0] 43)) := (Below.refl _ wr).alloc hsz _
        have bI : Blk (wr.alloc (.cells #[.int .i64 x.kind, .string x.ev.key, .int .i64 x.ev.at_, .int .i64 x.ev.v, .int .i64 x.mark, .int .i64 0, .int .i64 0, .int .i64 0, .string ⟨#[]⟩, .int .i64 0, .int .i64 0] 43)) wr.heap.size 43 #[.int .i64 x.kind, .string x.ev.key, .int .i64 x.ev.at_, .int .i64 x.ev.v, .int .i64 x.mark, .int .i64 0, .int .i64 0, .int .i64 0, .string ⟨#[]⟩, .int .i64 0, .int .i64 0] := Blk.new wr _ _
        rcases hok with ⟨g1, g2, g3⟩ | ⟨g1, g2, g3, g4⟩
        · rw [if_pos g1] at h1s h2s
          have HN : Hid (okT (mkOf 0 (L1.take (q + 1))) (L1.drop (q + 1))) := Lib.hid (by rw [h1s]; exact g3)
          have H1S := Lib.hid h1s
          have H2S := Lib.hid h2s
          have hk1 : (x.kind == 1) = true := by simpa using g1
          have hd2 : decide (x.ev.at_ < mq) = false := by simp; omega
          clear g1 g2 g3 HOK h1s h2s hmq
          go_wp2_with (at_builtin; refine wpList_append_any _ rfl (.tmp 82) (.tmp 85) 24 rfl w4.heap.size 37 ii _ 3 32 Try.underlying24 hi0 hz0 hz1 hz2 rfl (by decide) _ _ _ rfl ((ho.alloc (.cells #[.int .i64 x.kind, .string x.ev.key, .int .i64 x.ev.at_, .int .i64 x.ev.v, .int .i64 x.mark, .int .i64 0, .int .i64 0, .int .i64 0, .string ⟨#[]⟩, .int .i64 0, .int .i64 0] 43)).alloc _) (wr.heap.size + 1 + 1) (some ⟨wr.heap.size + 1, 0, none⟩) 1 1 [.string x.ev.key, .int .i64 x.ev.at_, .int .i64 x.ev.v] rfl ⟨rfl, fun _ => ⟨_, rfl, by simp, by simpa using cell_new (wr.alloc (.cells #[.int .i64 x.kind, .string x.ev.key, .int .i64 x.ev.at_, .int .i64 x.ev.v, .int .i64 x.mark, .int .i64 0, .int .i64 0, .int .i64 0, .string ⟨#[]⟩, .int .i64 0, .int .i64 0] 43)) 37 #[.string x.ev.key, .int .i64 x.ev.at_, .int .i64 x.ev.v]⟩⟩ (by simp [Value.oneCell']) (by unfold maxLen; omega) (by omega) (by simp; omega) ?_; intro v3 w5 hown hgrow _)
          have k5 : Below w4.heap.size wr w5 := (kI.alloc (by simp; omega) _).grown hgrow (by simp; omega) (fun g hg => (ho.lt g hg).1)
          have e5 := k5.size
          go_roundw
          case rel =>
            refine ⟨q + 1, v3, rfl, by go_num, by rw [H1S.out], by omega, hB.trans (k5.mono hsz4), by omega, rd.below k5, rk.below k5, ?_, HN⟩
            rw [H2S.out, evs_snoc, List.length_append]
            exact hown
          case measure => simp [intOf]; omega
        · have hne : ¬ x.kind = 1 := by omega
          rw [if_neg hne] at h1s h2s
          have HN : Hid (okT (mkOf 0 (L1.take (q + 1))) (L1.drop (q + 1))) := Lib.hid (by rw [h1s]; exact g4)
          have H1S := Lib.hid h1s
          have H2S := Lib.hid h2s
          have hk1 : (x.kind == 1) = false := by simpa using hne
          have hk2 : (x.kind == 2) = true := by simpa using g1
          have hd2 : decide (x.mark ≤ mq) = false := by simp; omega
          have hwl : IntKind.i64.wrap ((L1.length : Int) - 1) = (L1.length : Int) - 1 := IntWalk.i64_in _ (by omega)
          have k5 := kI
          have e5 := k5.size
          by_cases hq1 : q + 1 = L1.length
          all_goals
            have hm1 : (x.mark == 1099511627776) = decide (q + 1 = L1.length) := by
              rw [Bool.eq_iff_iff, beq_iff_eq, decide_eq_true_iff]
              exact g3
            have hm2 : ((q : Int) == (L1.length : Int) - 1) = decide (q + 1 = L1.length) := by
              rw [Bool.eq_iff_iff, beq_iff_eq, decide_eq_true_iff]
              omega
            first
              | rw [decide_eq_true hq1] at hm1 hm2
              | rw [decide_eq_false hq1] at hm1 hm2
          · clear g1 g2 g3 g4 HOK h1s h2s hmq hne hq1
            go_wp2
            go_roundw
            case rel =>
              refine ⟨q + 1, _, rfl, by go_num, by rw [H1S.out], by omega, hB.trans (k5.mono hsz4), by omega, rd.below k5, rk.below k5, ?_, HN⟩
              rw [H2S.out]
              exact ho.alloc _
            case measure => simp [intOf]; omega
          · clear g1 g2 g3 g4 HOK h1s h2s hmq hne hq1
            go_wp2
            go_roundw
            case rel =>
              refine ⟨q + 1, _, rfl, by go_num, by rw [H1S.out], by omega, hB.trans (k5.mono hsz4), by omega, rd.below k5, rk.below k5, ?_, HN⟩
              rw [H2S.out]
              exact ho.alloc _
            case measure => simp [intOf]; omega
      · obtain rfl : q = L1.length := by omega
        rw [List.take_length] at ho
        rw [List.take_length, HMK.out]
        rw [HEV.out, ← HKK.out] at ho
        obtain ⟨A0, c0, hov⟩ := own_form ho
        subst hov
        have ro := Reads.of_own ho
        go_wp2_with fail
        refine (alive_any _).mono ?_
        rintro e w5 ⟨rfl, hb5⟩
        have k5 := hB.trans (hb5.mono hB.size)
        go_wp2_with fail
        refine (likeEvs_same KK A0 Ak KK.length c0 ck _ (reads_below ro hb5) (reads_below (rk.more hsz) hb5) (by have := (keptF_len j (ls) 0); have := HLl.out; rw [HKK.out]; omega)).mono ?_
        rintro e w6 ⟨rfl, hb6⟩
        have k6 := k5.trans (hb6.mono k5.size)
        go_wp2
        go_ret
        exact ⟨by simp, k6⟩

  · have hc1 : (40 : Int) < n := by omega
    have hd1 : decide ((40 : Int) < n) = true := by simp; omega
    have hrt := reads_take3 hr (show 40 ≤ n by omega)
    have hcc : 40 ≤ c := by omega
    have hn40 : 40 ≤ n := by omega
    obtain ⟨L, hL⟩ : ∃ L, ls.take 40 = L := ⟨_, rfl⟩
    rw [hL] at hrt
    have hmem : ∀ z ∈ L, z ∈ ls := fun z hz => List.mem_of_mem_take (by rw [hL]; exact hz)
    have hll : L.length = 40 := evs_len hrt
    clear hL
    have hm : 40 ≤ 9223372036854775807 := by omega
    have hm40 : 40 ≤ 40 := Nat.le_refl _
    have hcm : 40 ≤ c := by omega
    clear h1
    go_enter Try.func8, Try.ntmps8
    go_upto_region 3 with fail
    have hs' : ∀ z ∈ L, z.key.size ≤ maxLen := fun z hz => hs z (hmem z hz)
    have hv' : ∀ z ∈ L, -9223372036854775808 ≤ z.v ∧ z.v ≤ 9223372036854775807 := fun z hz => hv z (hmem z hz)
    have hLl : (L).length = 40 := by have := evs_len hr; first | omega | (rw [List.length_take]; omega)
    have HLl := Lib.hid hLl
    clear hLl
    have bJ0 : Blk (w.alloc (.cells #[.int .i64 j.groups, .int .i64 j.size, .int .i64 j.slide, .int .i64 j.fold, .int .i64 j.fuel, .int .i64 j.limit, .int .i64 j.delay, .int .i64 j.idle] 23)) w.heap.size 23 #[.int .i64 j.groups, .int .i64 j.size, .int .i64 j.slide, .int .i64 j.fold, .int .i64 j.fuel, .int .i64 j.limit, .int .i64 j.delay, .int .i64 j.idle] := Blk.new w _ _
    have kV0 : Below w.heap.size w (w.alloc (.cells #[.int .i64 j.groups, .int .i64 j.size, .int .i64 j.slide, .int .i64 j.fold, .int .i64 j.fuel, .int .i64 j.limit, .int .i64 j.delay, .int .i64 j.idle] 23)) := by go_grown
    have hrd0 := reads_alloc (o := .cells #[.int .i64 j.groups, .int .i64 j.size, .int .i64 j.slide, .int .i64 j.fold, .int .i64 j.fuel, .int .i64 j.limit, .int .i64 j.delay, .int .i64 j.idle] 23) hrt
    generalize w.alloc (.cells #[.int .i64 j.groups, .int .i64 j.size, .int .i64 j.slide, .int .i64 j.fold, .int .i64 j.fuel, .int .i64 j.limit, .int .i64 j.delay, .int .i64 j.idle] 23) = V0 at *
    have lJ0 := bJ0.lt
    have j0 : V0.cell? ⟨w.heap.size, 0, none⟩ = some (.int .i64 j.groups) := bJ0.cell 0
    have j1 : V0.cell? ⟨w.heap.size, 1, none⟩ = some (.int .i64 j.size) := bJ0.cell 1
    have j2 : V0.cell? ⟨w.heap.size, 2, none⟩ = some (.int .i64 j.slide) := bJ0.cell 2
    have j3 : V0.cell? ⟨w.heap.size, 3, none⟩ = some (.int .i64 j.fold) := bJ0.cell 3
    have j4 : V0.cell? ⟨w.heap.size, 4, none⟩ = some (.int .i64 j.fuel) := bJ0.cell 4
    have j5 : V0.cell? ⟨w.heap.size, 5, none⟩ = some (.int .i64 j.limit) := bJ0.cell 5
    have j6 : V0.cell? ⟨w.heap.size, 6, none⟩ = some (.int .i64 j.delay) := bJ0.cell 6
    have j7 : V0.cell? ⟨w.heap.size, 7, none⟩ = some (.int .i64 j.idle) := bJ0.cell 7
    go_wp2_with fail
    refine (kept_any j A 40 c (L) _ hj hrd0 (by omega) hs' hv').mono ?_
    rintro e w1 ⟨vk, rfl, ho1, hb1⟩
    obtain ⟨Ak, ck, rfl⟩ := own_form ho1
    have rk1 := Reads.of_own ho1
    have hrd1 := reads_below hrd0 hb1
    have bJ1 := bJ0.below hb1 lJ0
    have k1 : Below w.heap.size w w1 := kV0.trans (hb1.mono kV0.size)
    clear j0 j1 j2 j3 j4 j5 j6 j7
    generalize hKZ : keptZ j (L) = KK at *
    have j0 : w1.cell? ⟨w.heap.size, 0, none⟩ = some (.int .i64 j.groups) := bJ1.cell 0
    have j1 : w1.cell? ⟨w.heap.size, 1, none⟩ = some (.int .i64 j.size) := bJ1.cell 1
    have j2 : w1.cell? ⟨w.heap.size, 2, none⟩ = some (.int .i64 j.slide) := bJ1.cell 2
    have j3 : w1.cell? ⟨w.heap.size, 3, none⟩ = some (.int .i64 j.fold) := bJ1.cell 3
    have j4 : w1.cell? ⟨w.heap.size, 4, none⟩ = some (.int .i64 j.fuel) := bJ1.cell 4
    have j5 : w1.cell? ⟨w.heap.size, 5, none⟩ = some (.int .i64 j.limit) := bJ1.cell 5
    have j6 : w1.cell? ⟨w.heap.size, 6, none⟩ = some (.int .i64 j.delay) := bJ1.cell 6
    have j7 : w1.cell? ⟨w.heap.size, 7, none⟩ = some (.int .i64 j.idle) := bJ1.cell 7
    have hNC := newZ_check j (L)
    obtain ⟨r, hR⟩ : ∃ r, newZ j (L) 0 = r := ⟨_, rfl⟩
    rw [hR] at hNC
    have HNC := Lib.hid hNC
    clear hNC
    obtain ⟨z, hz⟩ : ∃ z, checkZ j (L) = z := ⟨_, rfl⟩
    have HC := Lib.hid hz
    rw [hz] at HNC
    rw [hz]
    clear hz
    go_wp2_with fail
    refine (new_any j (L) 0 A 40 c _ hj hrd1 hm hcm hs' hv').mono ?_
    rw [hR]
    rintro e w2 ⟨hb2, h2⟩
    have k2 := k1.trans (hb2.mono k1.size)
    have bJ2 := bJ1.below hb2 bJ1.lt
    clear j0 j1 j2 j3 j4 j5 j6 j7
    have j0 : w2.cell? ⟨w.heap.size, 0, none⟩ = some (.int .i64 j.groups) := bJ2.cell 0
    have j1 : w2.cell? ⟨w.heap.size, 1, none⟩ = some (.int .i64 j.size) := bJ2.cell 1
    have j2 : w2.cell? ⟨w.heap.size, 2, none⟩ = some (.int .i64 j.slide) := bJ2.cell 2
    have j3 : w2.cell? ⟨w.heap.size, 3, none⟩ = some (.int .i64 j.fold) := bJ2.cell 3
    have j4 : w2.cell? ⟨w.heap.size, 4, none⟩ = some (.int .i64 j.fuel) := bJ2.cell 4
    have j5 : w2.cell? ⟨w.heap.size, 5, none⟩ = some (.int .i64 j.limit) := bJ2.cell 5
    have j6 : w2.cell? ⟨w.heap.size, 6, none⟩ = some (.int .i64 j.delay) := bJ2.cell 6
    have j7 : w2.cell? ⟨w.heap.size, 7, none⟩ = some (.int .i64 j.idle) := bJ2.cell 7
    by_cases h0 : z = 0
    rotate_left
    · have hne : (z != 0) = true := by simpa using h0
      rcases h2 with ⟨hz, _⟩ | ⟨_, rfl⟩
      · exact absurd (HNC.out.symm.trans hz) h0
      rw [HNC.out]
      clear h0
      go_wp2_with fail
      refine (alive_any _).mono ?_
      rintro e w3 ⟨rfl, hb3⟩
      have k3 : Below w.heap.size w w3 := next_below (k2.alloc k2.size _) hb3
      go_wp2
      go_ret
      exact ⟨by simp, k3⟩
    subst h0
    obtain ⟨hJ, hI, hZ⟩ := newZ_ok (hR ▸ HNC.out)
    have hR2 := hR.symm.trans hZ
    subst hR2
    have HJ := Lib.hid hJ
    have HI := Lib.hid hI
    rcases h2 with ⟨_, rfl⟩ | ⟨hz, _⟩
    rotate_left
    · exact absurd rfl hz
    have hrd2 := reads_below hrd1 hb2
    have rk2 := reads_below rk1 hb2
    have hkk : KK = keptF j 0 (L) := by rw [← hKZ]; exact if_pos HC.out
    have HKK := Lib.hid hkk
    clear hJ hI hZ hkk hKZ
    go_upto_region 7 with fail
    have bJ3 := bJ2.alloc (.cells #[.slice A 40 c, .int .i64 0, .int .i64 (markL j []), .int .i64 0, .bool false] 26)
    have bS3 : Blk (w2.alloc (.cells #[.slice A 40 c, .int .i64 0, .int .i64 (markL j []), .int .i64 0, .bool false] 26)) w2.heap.size 26 #[.slice A 40 c, .int .i64 0, .int .i64 (markL j []), .int .i64 0, .bool false] := Blk.new w2 _ _
    have k3 := k2.alloc k2.size (.cells #[.slice A 40 c, .int .i64 0, .int .i64 (markL j []), .int .i64 0, .bool false] 26)
    have hrd3 := reads_alloc (o := .cells #[.slice A 40 c, .int .i64 0, .int .i64 (markL j []), .int .i64 0, .bool false] 26) hrd2
    have rk3 := reads_alloc (o := .cells #[.slice A 40 c, .int .i64 0, .int .i64 (markL j []), .int .i64 0, .bool false] 26) rk2
    clear bJ2 k2 hrd2 rk2 hb2 bJ0 kV0 hrd0 lJ0 rk1 hrd1 bJ1 k1 ho1 hb1
    clear j0 j1 j2 j3 j4 j5 j6 j7
    generalize w2.alloc (.cells #[.slice A 40 c, .int .i64 0, .int .i64 (markL j []), .int .i64 0, .bool false] 26) = V3 at *
    generalize w2.heap.size = sb at *
    have j0 : V3.cell? ⟨w.heap.size, 0, none⟩ = some (.int .i64 j.groups) := bJ3.cell 0
    have j1 : V3.cell? ⟨w.heap.size, 1, none⟩ = some (.int .i64 j.size) := bJ3.cell 1
    have j2 : V3.cell? ⟨w.heap.size, 2, none⟩ = some (.int .i64 j.slide) := bJ3.cell 2
    have j3 : V3.cell? ⟨w.heap.size, 3, none⟩ = some (.int .i64 j.fold) := bJ3.cell 3
    have j4 : V3.cell? ⟨w.heap.size, 4, none⟩ = some (.int .i64 j.fuel) := bJ3.cell 4
    have j5 : V3.cell? ⟨w.heap.size, 5, none⟩ = some (.int .i64 j.limit) := bJ3.cell 5
    have j6 : V3.cell? ⟨w.heap.size, 6, none⟩ = some (.int .i64 j.delay) := bJ3.cell 6
    have j7 : V3.cell? ⟨w.heap.size, 7, none⟩ = some (.int .i64 j.idle) := bJ3.cell 7
    have s0 : V3.cell? ⟨sb, 0, none⟩ = some (.slice A 40 c) := bS3.cell 0
    have s1 : V3.cell? ⟨sb, 1, none⟩ = some (.int .i64 0) := bS3.cell 1
    have s2 : V3.cell? ⟨sb, 2, none⟩ = some (.int .i64 (markL j [])) := bS3.cell 2
    have s3 : V3.cell? ⟨sb, 3, none⟩ = some (.int .i64 0) := bS3.cell 3
    have s4 : V3.cell? ⟨sb, 4, none⟩ = some (.bool false) := bS3.cell 4
    have hrun := runT_any j (L) A 40 c 0 V3 hj hs' hv' hrd3 T hT3 (by omega) (Nat.zero_le _) HJ HI
    rw [List.take_zero] at hrun
    go_wp2_with fail
    refine hrun.mono ?_
    have hAW := accI_whole (j := j) (L := L) HJ.out HI.out
    rw [HLl.out] at hAW
    rw [show 40 - 0 + 1 = 40 + 1 by omega, hAW]
    have hal := accI_len j (L) 0 (40 + 1)
    rw [hAW] at hal
    obtain ⟨hok, hev, hmk⟩ := tellF_ok j (L) 0 (by omega) (fun e he => by have h := (inB_iff.1 HI.out).2 e he; simp [evB] at h; exact h.2)
    clear hrun hAW
    generalize tellF j 0 (L) = L1 at *
    rintro e w4 ⟨A4, c4, rfl, rd4, hb4⟩
    have k4 := k3.trans (hb4.mono k3.size)
    have rk4 := reads_below rk3 hb4
    have HOK := Lib.hid hok
    have HEV := Lib.hid hev
    have HMK := Lib.hid hmk
    have hmn' : ((40 + 1 : Nat) : Int) = (40 : Int) + 1 := by omega
    have hw1 : IntKind.i64.wrap ((40 : Int) + 1) = (40 : Int) + 1 := IntWalk.i64_in _ (by omega)
    clear j0 j1 j2 j3 j4 j5 j6 j7 s0 s1 s2 s3 s4
    clear hok hev hmk bJ3 bS3 k3 hrd3 rk3 hb4
    obtain ⟨ii, hi0, hz0, hz1, hz2⟩ := info_parts infoEv
    have hL1b : L1.length ≤ 3 * 40 + 6 := by omega
    have hpos : 0 < L1.length := by
      rcases Nat.eq_zero_or_pos L1.length with h | h
      · have := List.eq_nil_of_length_eq_zero h
        subst this
        have := HMK.out
        simp [mkOf] at this
      · exact h
    have hsz4 := k4.size
    go_wp2_with fail
    go_loopw [14, 15, 68] (fun told mk i wr => ∃ (q : Nat) (v : Value), told = v ∧ i = .int .i64 q ∧ mk = .int .i64 (mkOf 0 (L1.take q)) ∧ q ≤ L1.length ∧ Below w.heap.size w wr ∧ w4.heap.size ≤ wr.heap.size ∧ Reads wr w4.heap.size 11 A4 L1.length (itms L1) ∧ Reads wr w4.heap.size 3 Ak KK.length (evs KK) ∧ wr.ownsRow w4.heap.size 37 3 v (evsOf (L1.take q)).length (evs (evsOf (L1.take q))) ∧ Hid (okT (mkOf 0 (L1.take q)) (L1.drop q))) (fun _ _ i _ => L1.length - (intOf i).toNat)
    case atStart => exact ⟨0, _, rfl, rfl, rfl, Nat.zero_le _, k4, Nat.le_refl _, rd4, rk4, World.ownsRow_nil _ _ _ _, HOK⟩
    case round =>
      clear rd4 rk4 HOK k4
      obtain ⟨q, v, hov, rfl, rfl, hq, hB, hsz, rd, rk, ho, HOK⟩ := hrel
      subst hov
      by_cases hlt : q < L1.length
      · obtain ⟨ad, hl, rfl, _, d0, d1, d2, d3, d4, d5, d6, d7, d8, d9, d10⟩ := itms_get rd hlt
        have hok := okT_at hl HOK.out
        have h1s := mkOf_snoc L1[q] (L1.take q) 0
        have h2s := evsOf_snoc L1[q] (L1.take q)
        rw [← List.take_succ_eq_append_getElem hl] at h1s h2s
        generalize L1[q] = x at *
        obtain ⟨mq, hmq⟩ : ∃ mq, mkOf 0 (L1.take q) = mq := ⟨_, rfl⟩
        have hwq : IntKind.i64.wrap ((q : Int) + 1) = (q : Int) + 1 := IntWalk.i64_in _ (by omega)
        have hqL : (q : Int) < (L1.length : Int) := by omega
        rw [hmq] at hok h1s
        rw [hmq]
        obtain ⟨A0, c0, hov⟩ := own_form ho
        subst hov
        have hel := evsOf_len (L1.take q)
        rw [List.length_take] at hel
        have IT := True.intro
        have kI : Below w4.heap.size wr (wr.alloc (.cells #[.int .i64 x.kind, .string x.ev.key, .int .i64 x.ev.at_, .int .i64 x.ev.v, .int .i64 x.mark, .int .i64 0, .int .i64 0, .int .i64 0, .string ⟨#[]⟩, .int .i64 0, .int .i64 0] 43)) := (Below.refl _ wr).alloc hsz _
        have bI : Blk (wr.alloc (.cells #[.int .i64 x.kind, .string x.ev.key, .int .i64 x.ev.at_, .int .i64 x.ev.v, .int .i64 x.mark, .int .i64 0, .int .i64 0, .int .i64 0, .string ⟨#[]⟩, .int .i64 0, .int .i64 0] 43)) wr.heap.size 43 #[.int .i64 x.kind, .string x.ev.key, .int .i64 x.ev.at_, .int .i64 x.ev.v, .int .i64 x.mark, .int .i64 0, .int .i64 0, .int .i64 0, .string ⟨#[]⟩, .int .i64 0, .int .i64 0] := Blk.new wr _ _
        rcases hok with ⟨g1, g2, g3⟩ | ⟨g1, g2, g3, g4⟩
        · rw [if_pos g1] at h1s h2s
          have HN : Hid (okT (mkOf 0 (L1.take (q + 1))) (L1.drop (q + 1))) := Lib.hid (by rw [h1s]; exact g3)
          have H1S := Lib.hid h1s
          have H2S := Lib.hid h2s
          have hk1 : (x.kind == 1) = true := by simpa using g1
          have hd2 : decide (x.ev.at_ < mq) = false := by simp; omega
          clear g1 g2 g3 HOK h1s h2s hmq
          go_wp2_with (at_builtin; refine wpList_append_any _ rfl (.tmp 82) (.tmp 85) 24 rfl w4.heap.size 37 ii _ 3 32 Try.underlying24 hi0 hz0 hz1 hz2 rfl (by decide) _ _ _ rfl ((ho.alloc (.cells #[.int .i64 x.kind, .string x.ev.key, .int .i64 x.ev.at_, .int .i64 x.ev.v, .int .i64 x.mark, .int .i64 0, .int .i64 0, .int .i64 0, .string ⟨#[]⟩, .int .i64 0, .int .i64 0] 43)).alloc _) (wr.heap.size + 1 + 1) (some ⟨wr.heap.size + 1, 0, none⟩) 1 1 [.string x.ev.key, .int .i64 x.ev.at_, .int .i64 x.ev.v] rfl ⟨rfl, fun _ => ⟨_, rfl, by simp, by simpa using cell_new (wr.alloc (.cells #[.int .i64 x.kind, .string x.ev.key, .int .i64 x.ev.at_, .int .i64 x.ev.v, .int .i64 x.mark, .int .i64 0, .int .i64 0, .int .i64 0, .string ⟨#[]⟩, .int .i64 0, .int .i64 0] 43)) 37 #[.string x.ev.key, .int .i64 x.ev.at_, .int .i64 x.ev.v]⟩⟩ (by simp [Value.oneCell']) (by unfold maxLen; omega) (by omega) (by simp; omega) ?_; intro v3 w5 hown hgrow _)
          have k5 : Below w4.heap.size wr w5 := (kI.alloc (by simp; omega) _).grown hgrow (by simp; omega) (fun g hg => (ho.lt g hg).1)
          have e5 := k5.size
          go_roundw
          case rel =>
            refine ⟨q + 1, v3, rfl, by go_num, by rw [H1S.out], by omega, hB.trans (k5.mono hsz4), by omega, rd.below k5, rk.below k5, ?_, HN⟩
            rw [H2S.out, evs_snoc, List.length_append]
            exact hown
          case measure => simp [intOf]; omega
        · have hne : ¬ x.kind = 1 := by omega
          rw [if_neg hne] at h1s h2s
          have HN : Hid (okT (mkOf 0 (L1.take (q + 1))) (L1.drop (q + 1))) := Lib.hid (by rw [h1s]; exact g4)
          have H1S := Lib.hid h1s
          have H2S := Lib.hid h2s
          have hk1 : (x.kind == 1) = false := by simpa using hne
          have hk2 : (x.kind == 2) = true := by simpa using g1
          have hd2 : decide (x.mark ≤ mq) = false := by simp; omega
          have hwl : IntKind.i64.wrap ((L1.length : Int) - 1) = (L1.length : Int) - 1 := IntWalk.i64_in _ (by omega)
          have k5 := kI
          have e5 := k5.size
          by_cases hq1 : q + 1 = L1.length
          all_goals
            have hm1 : (x.mark == 1099511627776) = decide (q + 1 = L1.length) := by
              rw [Bool.eq_iff_iff, beq_iff_eq, decide_eq_true_iff]
              exact g3
            have hm2 : ((q : Int) == (L1.length : Int) - 1) = decide (q + 1 = L1.length) := by
              rw [Bool.eq_iff_iff, beq_iff_eq, decide_eq_true_iff]
              omega
            first
              | rw [decide_eq_true hq1] at hm1 hm2
              | rw [decide_eq_false hq1] at hm1 hm2
          · clear g1 g2 g3 g4 HOK h1s h2s hmq hne hq1
            go_wp2
            go_roundw
            case rel =>
              refine ⟨q + 1, _, rfl, by go_num, by rw [H1S.out], by omega, hB.trans (k5.mono hsz4), by omega, rd.below k5, rk.below k5, ?_, HN⟩
              rw [H2S.out]
              exact ho.alloc _
            case measure => simp [intOf]; omega
          · clear g1 g2 g3 g4 HOK h1s h2s hmq hne hq1
            go_wp2
            go_roundw
            case rel =>
              refine ⟨q + 1, _, rfl, by go_num, by rw [H1S.out], by omega, hB.trans (k5.mono hsz4), by omega, rd.below k5, rk.below k5, ?_, HN⟩
              rw [H2S.out]
              exact ho.alloc _
            case measure => simp [intOf]; omega
      · obtain rfl : q = L1.length := by omega
        rw [List.take_length] at ho
        rw [List.take_length, HMK.out]
        rw [HEV.out, ← HKK.out] at ho
        obtain ⟨A0, c0, hov⟩ := own_form ho
        subst hov
        have ro := Reads.of_own ho
        go_wp2_with fail
        refine (alive_any _).mono ?_
        rintro e w5 ⟨rfl, hb5⟩
        have k5 := hB.trans (hb5.mono hB.size)
        go_wp2_with fail
        refine (likeEvs_same KK A0 Ak KK.length c0 ck _ (reads_below ro hb5) (reads_below (rk.more hsz) hb5) (by have := (keptF_len j (L) 0); have := HLl.out; rw [HKK.out]; omega)).mono ?_
        rintro e w6 ⟨rfl, hb6⟩
        have k6 := k5.trans (hb6.mono k5.size)
        go_wp2
        go_ret
        exact ⟨by simp, k6⟩


end Go.Proofs.Ytmlejdcanlgpdaa
