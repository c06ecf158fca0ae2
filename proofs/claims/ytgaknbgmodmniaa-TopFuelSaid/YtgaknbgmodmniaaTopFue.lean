/- Walk of the law TopFuel. -/
import Derived.Test.YtgaknbgmodmniaaTopAli
namespace Go.Proofs.Ytgaknbgmodmniaa
open Go.RowKit
set_option linter.unusedVariables false
set_option linter.unusedSimpArgs false

set_option maxRecDepth 100000 in
set_option maxHeartbeats 4000000 in
theorem walkFuel (j : Jb) (ls : List Ev) (A : Option Addr) (n c : Nat) (w : World) (hj : j.Wf) (hr : Reads w w.heap.size 3 A n (evs ls)) (hm : n ≤ 9223372036854775807) (hcm : n ≤ c) (hs : ∀ z ∈ ls, z.key.size ≤ maxLen) (hv : ∀ z ∈ ls, -9223372036854775808 ≤ z.v ∧ z.v ≤ 9223372036854775807) :
    Calls Try.prog 3 #[.agg #[.int .i64 j.groups, .int .i64 j.size, .int .i64 j.slide, .int .i64 j.fold, .int .i64 j.fuel, .int .i64 j.limit, .int .i64 j.delay, .int .i64 j.idle], .slice A n c] w fun e w' => e = .returned (.bool true) ∧ Below w.heap.size w w' := by
  obtain ⟨m, hP, hmn, hm40⟩ : ∃ m : Nat, min (n : Int) 40 = m ∧ m ≤ n ∧ m ≤ 40 := ⟨min n 40, by omega, by omega, by omega⟩
  have hmn' : ∀ x y : Int, (if x < y then x else y) = min y x := fun x y => by split <;> omega
  have hmn2 : ∀ x y : Int, (if x < y then x else y) = min x y := fun x y => by split <;> omega
  have hrt := reads_take3 hr hmn
  have hsL : ∀ z ∈ ls.take m, z.key.size ≤ maxLen := fun z hz => hs z (List.mem_of_mem_take hz)
  have hvL : ∀ z ∈ ls.take m, -9223372036854775808 ≤ z.v ∧ z.v ≤ 9223372036854775807 := fun z hz => hv z (List.mem_of_mem_take hz)
  generalize ls.take m = L at *
  have hmc : (m : Int) ≤ (c : Int) := by omega
  have hm0 : (0 : Int) ≤ (m : Int) := by omega
  have HS := Lib.hid hsL
  have HV := Lib.hid hvL
  clear hs hv hr hsL hvL
  go_enter Try.func3, Try.ntmps3
  go_upto_region 3 with fail
  have hKp := fun (V : World) (h : Reads V V.heap.size 3 A m (evs L)) => kept_any (⟨j.groups, j.size, j.slide, j.fold, j.fuel, j.limit, 1099511627776, j.idle⟩ : Jb) A m c L V ⟨hj.size, hj.slide, hj.limit⟩ h (by omega) HS.out HV.out
  obtain ⟨z, hz⟩ : ∃ z, checkZ (⟨j.groups, j.size, j.slide, j.fold, j.fuel, j.limit, 1099511627776, j.idle⟩ : Jb) L = z := ⟨_, rfl⟩
  obtain ⟨K, hK⟩ : ∃ K, keptZ (⟨j.groups, j.size, j.slide, j.fold, j.fuel, j.limit, 1099511627776, j.idle⟩ : Jb) L = K := ⟨_, rfl⟩
  unfold KeptPost at hKp
  rw [hz, hK] at hKp
  simp only at hKp
  have HP := Lib.hid hKp
  have HZ : Hid (z = 0 → K = L.map (runE (⟨j.groups, j.size, j.slide, j.fold, j.fuel, j.limit, 1099511627776, j.idle⟩ : Jb)) ∧ (0 ≤ j.fuel ∧ j.fuel ≤ 40) ∧ 0 ≤ j.limit) := Lib.hid (fun h => by
    have := kept_fuel (j := ⟨j.groups, j.size, j.slide, j.fold, j.fuel, j.limit, 1099511627776, j.idle⟩) (l := L) rfl (hz.trans h)
    rw [hK] at this
    exact this)
  have HN : Hid (z ≠ 0 → K = []) := Lib.hid (fun h => by
    rw [← hK]
    unfold keptZ
    rw [if_neg (by rw [hz]; exact h)])
  clear hKp hz hK
  have bJ := Blk.new w 23 #[.int .i64 j.groups, .int .i64 j.size, .int .i64 j.slide, .int .i64 j.fold, .int .i64 j.fuel, .int .i64 j.limit, .int .i64 1099511627776, .int .i64 j.idle]
  have k0 : Below w.heap.size w (w.alloc (.cells #[.int .i64 j.groups, .int .i64 j.size, .int .i64 j.slide, .int .i64 j.fold, .int .i64 j.fuel, .int .i64 j.limit, .int .i64 1099511627776, .int .i64 j.idle] 23)) := by go_grown
  have hrV := reads_alloc (o := .cells #[.int .i64 j.groups, .int .i64 j.size, .int .i64 j.slide, .int .i64 j.fold, .int .i64 j.fuel, .int .i64 j.limit, .int .i64 1099511627776, .int .i64 j.idle] 23) hrt
  have hLl := evs_len hrt
  generalize w.alloc (.cells #[.int .i64 j.groups, .int .i64 j.size, .int .i64 j.slide, .int .i64 j.fold, .int .i64 j.fuel, .int .i64 j.limit, .int .i64 1099511627776, .int .i64 j.idle] 23) = V0 at *
  have lJ := bJ.lt
  have j0 : V0.cell? ⟨w.heap.size, 0, none⟩ = some (.int .i64 j.groups) := bJ.cell 0
  have j1 : V0.cell? ⟨w.heap.size, 1, none⟩ = some (.int .i64 j.size) := bJ.cell 1
  have j2 : V0.cell? ⟨w.heap.size, 2, none⟩ = some (.int .i64 j.slide) := bJ.cell 2
  have j3 : V0.cell? ⟨w.heap.size, 3, none⟩ = some (.int .i64 j.fold) := bJ.cell 3
  have j4 : V0.cell? ⟨w.heap.size, 4, none⟩ = some (.int .i64 j.fuel) := bJ.cell 4
  have j5 : V0.cell? ⟨w.heap.size, 5, none⟩ = some (.int .i64 j.limit) := bJ.cell 5
  have j6 : V0.cell? ⟨w.heap.size, 6, none⟩ = some (.int .i64 1099511627776) := bJ.cell 6
  have j7 : V0.cell? ⟨w.heap.size, 7, none⟩ = some (.int .i64 j.idle) := bJ.cell 7
  clear hrt
  go_wp2_with fail
  refine (HP.out V0 hrV).mono ?_
  rintro e w1 ⟨v, rfl, ho, hb1⟩
  obtain ⟨B, d, rfl⟩ := own_form ho
  clear j0 j1 j2 j3 j4 j5 j6 j7 HP
  have bJ1 := bJ.below hb1 lJ
  have k1 := next_below k0 hb1
  have hrL := reads_below hrV hb1
  clear bJ k0 hrV
  by_cases h0 : z = 0
  · obtain ⟨hKm, hf, hl⟩ := HZ.out h0
    subst h0
    have hKl : K.length = m := by rw [hKm, List.length_map]; exact hLl
    rw [hKl] at ho ⊢
    have hrK := Reads.of_own ho
    have HKM := Lib.hid hKm
    have HLl := Lib.hid hLl
    clear ho HZ HN hKm hKl hLl
    go_wp2
    go_loopw [39] (fun i wr => ∃ q : Nat, i = .int .i64 q ∧ q ≤ m ∧ Below w1.heap.size w1 wr) (fun i _ => m - (intOf i).toNat)
    case atStart => exact ⟨0, rfl, Nat.zero_le _, Below.refl _ _⟩
    case round =>
      obtain ⟨q, rfl, hq, hB⟩ := hrel
      have lJ1 := bJ1.lt
      by_cases hlt : q < m
      · obtain ⟨ad, hql, rfl, hab, x0, x1, x2⟩ := evs_get (reads_below hrL hB) hlt
        obtain ⟨bd, hqk, rfl, hbb, y0, y1, y2⟩ := evs_get (reads_below hrK hB) hlt
        have hv1 := HV.out L[q] (List.getElem_mem hql)
        have hKq : K[q] = runE (⟨j.groups, j.size, j.slide, j.fold, j.fuel, j.limit, 1099511627776, j.idle⟩ : Jb) L[q] := by
          have e : K[q]? = (L.map (runE (⟨j.groups, j.size, j.slide, j.fold, j.fuel, j.limit, 1099511627776, j.idle⟩ : Jb)))[q]? := by rw [HKM.out]
          rw [List.getElem?_map, List.getElem?_eq_getElem hqk, List.getElem?_eq_getElem hql] at e
          simpa using e
        rw [hKq] at y0 y1 y2
        generalize L[q] = x at *
        obtain ⟨rv, rn, hrn⟩ : ∃ rv rn, runZ (maxZ j.limit) (fuelZ j.fuel).toNat x.v = (rv, rn) := ⟨_, _, rfl⟩
        have hfz : fuelZ j.fuel = j.fuel := by unfold fuelZ; rw [if_neg (by omega), if_neg (by omega)]
        have hmz : maxZ j.limit = j.limit := by unfold maxZ; rw [if_neg (by omega)]
        have hrf := runZ_facts (maxZ j.limit) (fuelZ j.fuel).toNat x.v
        rw [hrn, hmz, hfz] at hrf
        simp only at hrf
        obtain ⟨hr1, hr2, hr3⟩ := hrf
        have hR1 : (rn : Int) ≤ j.fuel := by omega
        have HR2 : Hid ((rn : Int) < j.fuel → rv ≤ j.limit ∧ -j.limit ≤ rv) := Lib.hid (fun h => hr2 (by omega))
        have HR3 := Lib.hid hr3
        have HRN := Lib.hid hrn
        simp only [runE] at y0 y1 y2
        rw [hrn] at y2
        clear hr1 hr2 hr3 hKq hfz hmz hrn
        go_upto_region 11 with fail
        have b8 := Blk.new wr 30 #[.string x.key, .int .i64 x.at_, .int .i64 rv]
        have lad0 : (ad.add (q * 3)).block < wr.heap.size := by rw [block_of_add]; exact hab
        have k8 : Below wr.heap.size wr (wr.alloc (.cells #[.string x.key, .int .i64 x.at_, .int .i64 rv] 30)) := by go_grown
        have lw := hB.size
        have hB8 : Below w1.heap.size w1 (wr.alloc (.cells #[.string x.key, .int .i64 x.at_, .int .i64 rv] 30)) := hB.alloc lw _
        replace x0 := (k8.cell lad0).trans x0
        replace x1 := (k8.cell (p := ⟨(ad.add (q * 3)).block, (ad.add (q * 3)).off + 1, none⟩) lad0).trans x1
        replace x2 := (k8.cell (p := ⟨(ad.add (q * 3)).block, (ad.add (q * 3)).off + 2, none⟩) lad0).trans x2
        generalize wr.alloc (.cells #[.string x.key, .int .i64 x.at_, .int .i64 rv] 30) = V at *
        have lV := b8.lt
        have lad : (ad.add (q * 3)).block < V.heap.size := Nat.lt_trans lad0 lV
        have bJ8 := bJ1.below hB8 lJ1
        have lJ8 := bJ8.lt
        have j4 : V.cell? ⟨w.heap.size, 4, none⟩ = some (.int .i64 j.fuel) := bJ8.cell 4
        have j5 : V.cell? ⟨w.heap.size, 5, none⟩ = some (.int .i64 j.limit) := bJ8.cell 5
        clear y0 y1 y2 k8
        go_region_held3 (fun y => y.cell? (ad.add (q * 3)) = some (.string x.key) ∧ y.cell? ⟨(ad.add (q * 3)).block, (ad.add (q * 3)).off + 1, none⟩ = some (.int .i64 x.at_) ∧ y.cell? ⟨(ad.add (q * 3)).block, (ad.add (q * 3)).off + 2, none⟩ = some (.int .i64 x.v) ∧ y.cell? ⟨w.heap.size, 4, none⟩ = some (.int .i64 j.fuel) ∧ y.cell? ⟨w.heap.size, 5, none⟩ = some (.int .i64 j.limit))
          (first | with_reducible exact ⟨x0, x1, x2, j4, j5⟩ | with_reducible exact ⟨e0, e1, e2, e4, e5⟩ | with_reducible exact ⟨f0, f1, f2, f4, f5⟩ | go_keep)
          (first | (go_at_call 6; refine (run_any x.key x.at_ x.v j.limit j.fuel _ hv1 hj.limit.2).mono ?_; rw [HRN.out]; rintro e w3 ⟨rfl, hb3⟩; first
            | (have k3 : Below V.heap.size V w3 := ⟨hb3.os, hb3.tape, hb3.output, hb3.size, hb3.block⟩; have ordA := True.intro; have e0 : w3.cell? (ad.add (q * 3)) = some (.string x.key) := (k3.cell lad).trans x0; have e1 : w3.cell? ⟨(ad.add (q * 3)).block, (ad.add (q * 3)).off + 1, none⟩ = some (.int .i64 x.at_) := (k3.cell (p := ⟨(ad.add (q * 3)).block, (ad.add (q * 3)).off + 1, none⟩) lad).trans x1; have e2 : w3.cell? ⟨(ad.add (q * 3)).block, (ad.add (q * 3)).off + 2, none⟩ = some (.int .i64 x.v) := (k3.cell (p := ⟨(ad.add (q * 3)).block, (ad.add (q * 3)).off + 2, none⟩) lad).trans x2; have e4 : w3.cell? ⟨w.heap.size, 4, none⟩ = some (.int .i64 j.fuel) := (bJ8.below k3 lJ8).cell 4; have e5 : w3.cell? ⟨w.heap.size, 5, none⟩ = some (.int .i64 j.limit) := (bJ8.below k3 lJ8).cell 5)
            | (have k3 : Below V.heap.size V w3 := next_below (by go_grown) hb3; have ordB := True.intro; have bN3 : Blk w3 V.heap.size 30 #[.string ⟨#[]⟩, .int .i64 0, .int .i64 0] := (Blk.new V.drew 30 #[.string ⟨#[]⟩, .int .i64 0, .int .i64 0]).below hb3 (by simp); have fN := bN3.frozen; have nn0 : w3.cell? ⟨V.heap.size, 0, none⟩ = some (.string ⟨#[]⟩) := bN3.cell 0; have nn1 : w3.cell? ⟨V.heap.size, 1, none⟩ = some (.int .i64 0) := bN3.cell 1; have nn2 : w3.cell? ⟨V.heap.size, 2, none⟩ = some (.int .i64 0) := bN3.cell 2; have kS := ((k3.setCell (p := ⟨V.heap.size, 0, none⟩) (Nat.le_refl _) (.string x.key)).setCell (p := ⟨V.heap.size, 1, none⟩) (Nat.le_refl _) (.int .i64 x.at_)).setCell (p := ⟨V.heap.size, 2, none⟩) (Nat.le_refl _) (.int .i64 rv); have e0 : w3.cell? (ad.add (q * 3)) = some (.string x.key) := (k3.cell lad).trans x0; have e1 : w3.cell? ⟨(ad.add (q * 3)).block, (ad.add (q * 3)).off + 1, none⟩ = some (.int .i64 x.at_) := (k3.cell (p := ⟨(ad.add (q * 3)).block, (ad.add (q * 3)).off + 1, none⟩) lad).trans x1; have e2 : w3.cell? ⟨(ad.add (q * 3)).block, (ad.add (q * 3)).off + 2, none⟩ = some (.int .i64 x.v) := (k3.cell (p := ⟨(ad.add (q * 3)).block, (ad.add (q * 3)).off + 2, none⟩) lad).trans x2; have e4 : w3.cell? ⟨w.heap.size, 4, none⟩ = some (.int .i64 j.fuel) := (bJ8.below k3 lJ8).cell 4; have e5 : w3.cell? ⟨w.heap.size, 5, none⟩ = some (.int .i64 j.limit) := (bJ8.below k3 lJ8).cell 5; have f0 := (kS.cell lad).trans x0; have f1 := (kS.cell (p := ⟨(ad.add (q * 3)).block, (ad.add (q * 3)).off + 1, none⟩) lad).trans x1; have f2 := (kS.cell (p := ⟨(ad.add (q * 3)).block, (ad.add (q * 3)).off + 2, none⟩) lad).trans x2; have f4 := (bJ8.below kS lJ8).cell 4; have f5 := (bJ8.below kS lJ8).cell 5; simp at f4 f5)))
        all_goals
          first
            | (have := ordA; have kU := k3.alloc k3.size (.cells #[.string x.key, .int .i64 x.at_, .int .i64 rv] 30); have bN := Blk.new w3 30 #[.string x.key, .int .i64 x.at_, .int .i64 rv]; generalize w3.alloc (.cells #[.string x.key, .int .i64 x.at_, .int .i64 rv] 30) = U at *; generalize w3.heap.size = p at *)
            | (have := ordB; have kU := kS; have bN := ((bN3.set_ 0 (.string x.key)).set_ 1 (.int .i64 x.at_)).set_ 2 (.int .i64 rv); clear nn0 nn1 nn2 f0 f1 f2 f4 f5 kS bN3 fN; generalize ((w3.setCell ⟨V.heap.size, 0, none⟩ (.string x.key)).setCell ⟨V.heap.size, 1, none⟩ (.int .i64 x.at_)).setCell ⟨V.heap.size, 2, none⟩ (.int .i64 rv) = U at *; generalize hVp : V.heap.size = p at *)
          try simp at bN
          have hBU : Below w1.heap.size w1 U := hB8.trans (kU.mono (by have := hB8.size; omega))
          have b8U := b8.below kU lV
          have bJU := bJ8.below kU lJ8
          have c0 : U.cell? (ad.add (q * 3)) = some (.string x.key) := (kU.cell lad).trans x0
          have c1 : U.cell? ⟨(ad.add (q * 3)).block, (ad.add (q * 3)).off + 1, none⟩ = some (.int .i64 x.at_) := (kU.cell (p := ⟨(ad.add (q * 3)).block, (ad.add (q * 3)).off + 1, none⟩) lad).trans x1
          have c2 : U.cell? ⟨(ad.add (q * 3)).block, (ad.add (q * 3)).off + 2, none⟩ = some (.int .i64 x.v) := (kU.cell (p := ⟨(ad.add (q * 3)).block, (ad.add (q * 3)).off + 2, none⟩) lad).trans x2
          clear x0 x1 x2 e0 e1 e2 e4 e5 j4 j5 b8 bJ8 kU k3
          have j4 : U.cell? ⟨w.heap.size, 4, none⟩ = some (.int .i64 j.fuel) := bJU.cell 4
          have j5 : U.cell? ⟨w.heap.size, 5, none⟩ = some (.int .i64 j.limit) := bJU.cell 5
          have z0 : U.cell? ⟨wr.heap.size, 0, none⟩ = some (.string x.key) := b8U.cell 0
          have z1 : U.cell? ⟨wr.heap.size, 1, none⟩ = some (.int .i64 x.at_) := b8U.cell 1
          have z2 : U.cell? ⟨wr.heap.size, 2, none⟩ = some (.int .i64 rv) := b8U.cell 2
          have n0 : U.cell? ⟨p, 0, none⟩ = some (.string x.key) := bN.cell 0
          have n1 : U.cell? ⟨p, 1, none⟩ = some (.int .i64 x.at_) := bN.cell 1
          have n2 : U.cell? ⟨p, 2, none⟩ = some (.int .i64 rv) := bN.cell 2
          have d1 : decide (j.fuel < (rn : Int)) = false := by simp; omega
          have hwn : IntKind.i64.wrap (-j.limit) = -j.limit := IntWalk.i64_in _ (by have := hj.limit; omega)
          have hwq : IntKind.i64.wrap ((q : Int) + 1) = (q : Int) + 1 := IntWalk.i64_in _ (by omega)
          by_cases hlf : (rn : Int) < j.fuel
          · have hb := HR2.out hlf
            have d2 : decide (j.limit < rv) = false := by simp; omega
            have d3 : decide (rv < -j.limit) = false := by simp; omega
            have dl : decide ((rn : Int) < j.fuel) = true := by simp; omega
            go_wp2
            try clear d1
            try clear d2 d3
            try clear dl hwn
            go_loopw [11, 92] (fun u i wx => ∃ t : Nat, i = .int .i64 t ∧ u = .int .i64 (halfN t x.v) ∧ t ≤ rn ∧ U = wx) (fun _ i _ => rn - (intOf i).toNat)
            case atStart => exact ⟨0, rfl, rfl, Nat.zero_le _, rfl⟩
            case round =>
              obtain ⟨t, rfl, rfl, ht, rfl⟩ := hrel
              by_cases htn : t < rn
              · have hwt : IntKind.i64.wrap ((t : Int) + 1) = (t : Int) + 1 := IntWalk.i64_in _ (by omega)
                have hvb := halfN_bd t hv1
                go_wp2_with (go_at_call 7; refine (half_any _ _ hvb).mono ?_; rintro e w' ⟨rfl, rfl⟩)
                go_roundw
                case rel => exact ⟨t + 1, by go_num, rfl, by omega, by first | trivial | rfl⟩
                case measure => simp [intOf]; omega
              · have htt : t = rn := by omega
                have h3 := HR3.out
                rw [← htt] at h3
                rw [h3]
                clear h3 htt
                go_wp2
                go_roundw
                case rel => exact ⟨q + 1, by go_num, by omega, hBU⟩
                case measure => simp [intOf]; omega
          · have dl : decide ((rn : Int) < j.fuel) = false := by simp; omega
            go_wp2
            try clear d1
            try clear d2 d3
            try clear dl hwn
            go_loopw [11, 92] (fun u i wx => ∃ t : Nat, i = .int .i64 t ∧ u = .int .i64 (halfN t x.v) ∧ t ≤ rn ∧ U = wx) (fun _ i _ => rn - (intOf i).toNat)
            case atStart => exact ⟨0, rfl, rfl, Nat.zero_le _, rfl⟩
            case round =>
              obtain ⟨t, rfl, rfl, ht, rfl⟩ := hrel
              by_cases htn : t < rn
              · have hwt : IntKind.i64.wrap ((t : Int) + 1) = (t : Int) + 1 := IntWalk.i64_in _ (by omega)
                have hvb := halfN_bd t hv1
                go_wp2_with (go_at_call 7; refine (half_any _ _ hvb).mono ?_; rintro e w' ⟨rfl, rfl⟩)
                go_roundw
                case rel => exact ⟨t + 1, by go_num, rfl, by omega, by first | trivial | rfl⟩
                case measure => simp [intOf]; omega
              · have htt : t = rn := by omega
                have h3 := HR3.out
                rw [← htt] at h3
                rw [h3]
                clear h3 htt
                go_wp2
                go_roundw
                case rel => exact ⟨q + 1, by go_num, by omega, hBU⟩
                case measure => simp [intOf]; omega
      · obtain rfl : q = m := by omega
        go_wp2_with fail
        refine (alive_any _).mono ?_
        rintro e w2 ⟨rfl, hb2⟩
        go_wp2
        go_ret
        exact ⟨rfl, next_below (k1.trans (hB.mono k1.size)) hb2⟩
  · have hK0 := HN.out h0
    subst hK0
    have hz0 : (z != 0) = true := by simpa using h0
    clear HZ HN ho h0
    go_wp2_with fail
    refine (alive_any _).mono ?_
    rintro e w2 ⟨rfl, hb2⟩
    have k2 := next_below k1 hb2
    go_wp2
    go_ret
    exact ⟨rfl, k2⟩

end Go.Proofs.Ytgaknbgmodmniaa
