/- The walk of chapter 12's law LoopPlays. -/
import Derived.Test.YtplfimaopegpmaaPlay
namespace Go.Proofs.Ytplfimaopegpmaa
open Go.RowKit
set_option linter.unusedVariables false
set_option linter.unusedSimpArgs false

set_option maxRecDepth 100000 in
set_option maxHeartbeats 8000000 in
theorem walkPlays (limit fuel : Int) (A : Option Addr) (n c : Nat) (l : List Rnd) (B : Option Addr) (m d : Nat) (bs : List Bool) (w : World) (hL : -9223372036854775808 ≤ limit ∧ limit ≤ 9223372036854775807)
    (hr : Reads w w.heap.size 3 A n (evs l)) (hlv : ∀ r ∈ l, -9223372036854775808 ≤ r.v ∧ r.v ≤ 9223372036854775807) (hn : n ≤ 9223372036854775807) (hb : Reads w w.heap.size 1 B m (bs.map Value.bool)) (hm : m ≤ 9223372036854775807) :
    Calls Try.prog 6 #[.int .i64 limit, .int .i64 fuel, .slice A n c, .slice B m d] w fun e w' => e = .returned (.bool true) ∧ Below w.heap.size w w' := by
  have hLm := maxZ_bd hL.2
  have hFm := fuelZ_bd fuel
  obtain ⟨j0, hj, hjz0, hjz1, hjz2⟩ := info_parts infoEvt
  obtain ⟨k0, hk0, hkz0, hkz1, hkz2⟩ := info_parts infoInt
  go_enter Try.func6, Try.ntmps6
  go_wp2_with (go_at_call 13; refine (newQ_any _ _ _).mono ?_; rintro e w1 ⟨qb, rfl, hqb, bQ, hb1⟩)
  have y1 := hb1.size
  have st0 : PlaySt qb w1.heap.size (w1.heap.size + 1) (maxZ limit) (fuelZ fuel) (.slice none 0 0) (.slice none 0 0) (.slice none 0 0) [] [] [] w (w1.alloc (.cells #[.slice none 0 0, .slice none 0 0] 36)) :=
    ⟨bQ.alloc _, Blk.new _ _ _, World.ownsRow_nil _ _ _ _, OwnO.nil _ _ _ _, OwnO.nil _ _ _ _, hb1.alloc y1 _, by simp, hqb, y1, by have := bQ.lt; omega, by omega⟩
  generalize w1.alloc (.cells #[.slice none 0 0, .slice none 0 0] 36) = W1 at *
  obtain ⟨rb, hrb⟩ : ∃ rb, w1.heap.size = rb := ⟨_, rfl⟩
  rw [hrb] at st0 ⊢
  obtain ⟨base, hbase⟩ : ∃ b, rb + 1 = b := ⟨_, rfl⟩
  rw [hbase] at st0
  clear bQ hb1 y1 hrb hbase hqb
  go_loopw [11, 31] (fun kk i wr => ∃ (j k : Nat) (xs : List Rnd) (v ve vr : Value), kk = .int .i64 k ∧ i = .int .i64 j ∧ j ≤ m ∧ j ≤ 300 ∧ k ≤ j ∧ okQ (fuelZ fuel) xs ∧ PlaySt qb rb base (maxZ limit) (fuelZ fuel) v ve vr xs xs xs w wr)
    (fun _ i _ => m - (intOf i).toNat)
  case atStart => exact ⟨0, 0, [], _, _, _, rfl, rfl, by omega, by omega, by omega, okQ.nil _, st0⟩
  case round =>
    clear st0
    obtain ⟨j, k, xs, v, ve, vr, rfl, rfl, hjm, hj3, hkj, hok, st⟩ := hrel
    have kB := st.below
    have y1 := kB.size
    by_cases hjm' : j < m
    · obtain ⟨bd, u, rfl, hbd, hbu, hcell⟩ := (hb.below kB).at_ hjm'
      obtain ⟨bit, rfl⟩ : ∃ b, u = .bool b := by
        rw [List.getElem?_map] at hbu
        rcases hbs : bs[j]? with _ | b
        · rw [hbs] at hbu; cases hbu
        · rw [hbs] at hbu; simp at hbu; exact ⟨b, hbu.symm⟩
      clear hbu
      by_cases hout : j < 300
      · have hwj : IntKind.i64.wrap ((j : Int) + 1) = (j : Int) + 1 := IntWalk.i64_in _ (by omega)
        have hwk : IntKind.i64.wrap ((k : Int) + 1) = (k : Int) + 1 := IntWalk.i64_in _ (by omega)
        have okl := hok.1
        by_cases hput : bit = true ∧ k < n
        · obtain ⟨rfl, hk⟩ := hput
          obtain ⟨ad, hkl, rfl, had, p0, p1, p2⟩ := evs_get (hr.below kB) hk
          have hlv' := hlv l[k] (List.getElem_mem hkl)
          by_cases hfull : xs.length < 16
          · obtain ⟨Ae, ce, rfl⟩ := st.oe.form
            obtain ⟨Ai, ci, rfl⟩ := st.oi.form
            have r0 : wr.cell? ⟨rb, 0, none⟩ = some (.slice Ae xs.length ce) := st.r.cell 0
            have fR := st.r.frozen
            have r0a := alloc_cell (a := ⟨rb, 0, none⟩) st.r.lt r0
            have hX := evt_new wr (.string l[k].key) (.int .i64 l[k].at_) (.int .i64 l[k].v) 23
            have stA := st.to (w' := wr.alloc (.cells #[.string l[k].key, .int .i64 l[k].at_, .int .i64 l[k].v] 23)) (by go_grown)
            have hbd1 : base ≤ (wr.alloc (.cells #[.string l[k].key, .int .i64 l[k].at_, .int .i64 l[k].v] 23)).drew.heap.size := stA.size
            have hEd : OwnO (wr.alloc (.cells #[.string l[k].key, .int .i64 l[k].at_, .int .i64 l[k].v] 23)).drew base 23 3 (.slice Ae xs.length ce) xs.length (evs xs) := stA.oe
            go_upto_region 14 with fail
            go_cut [] from 32 to 113 (fun wx => ∃ ve', PlaySt qb rb base (maxZ limit) (fuelZ fuel) v ve' (.slice Ai xs.length ci) xs (xs ++ [⟨l[k].key, l[k].at_, l[k].v, 0⟩]) xs w wx)
            case first =>
              go_region_law (go_loud (refine step_append_O _ rfl (.tmp 55) (.tmp 60) 29 rfl base 23 j0 _ 3 32 Try.underlying29 hj hjz0 hjz1 hjz2 rfl ?_ (.slice Ae xs.length ce) xs.length (evs xs) ?_ ?_ ⟨wr.heap.size, 0, none⟩ 1 1 [.string l[k].key, .int .i64 l[k].at_, .int .i64 l[k].v] ?_ ?_ ?_ ?_ ?_ ?_ ?_ ?_; (first | decide); (first | rfl | simp [Act.eval, Act.put]); (first | exact hEd); (first | rfl | simp [Act.eval, Act.put]); (first | rfl); (first | exact hX); (first | simp [Value.oneCell']); (first | (unfold maxLen; omega)); (first | omega); (first | exact hbd1); intro v' w4 hown' hgrow hnb; obtain ⟨g3, o3, c3, rfl, _⟩ := hown'.succ; have bR4 := (stA.r.drew.grown hgrow (fun e => by have := (stA.oe.lt _ e.symm).1; have := stA.rhi; omega)); have q0 : w4.cell? ⟨rb, 0, none⟩ = some (.slice Ae xs.length ce) := bR4.cell 0; have fR4 := bR4.frozen))
              all_goals
                go_wp2_with fail
                go_meet
                exact ⟨_, PlaySt.app_e (stA.to (below_drew' (Below.refl _ _))) hgrow hown' rfl hnb⟩
            case rest =>
            obtain ⟨ve', st2⟩ := hcut
            clear hX hEd hbd1 stA r0 r0a fR
            have q1 : wc.cell? ⟨rb, 1, none⟩ = some (.slice Ai xs.length ci) := st2.r.cell 1
            have fR5 := st2.r.frozen
            have stB := st2.to (w' := wc.alloc (.cells #[.int .i64 0] 3)) (by go_grown)
            have q1a : (wc.alloc (.cells #[.int .i64 0] 3)).cell? ⟨rb, 1, none⟩ = some (.slice Ai xs.length ci) := stB.r.cell 1
            have hI5 := stB.oi
            have hbd5 := stB.size
            go_upto_region 15 with fail
            go_cut [] from 32 to 113 (fun wx => ∃ vr', PlaySt qb rb base (maxZ limit) (fuelZ fuel) v ve' vr' xs (xs ++ [⟨l[k].key, l[k].at_, l[k].v, 0⟩]) (xs ++ [⟨l[k].key, l[k].at_, l[k].v, 0⟩]) w wx)
            case first =>
              go_wp2_with (at_builtin; go_loud (refine wpList_append_O _ rfl (.tmp 68) (.tmp 69) 34 rfl base 3 k0 _ 1 8 Try.underlying34 hk0 hkz0 hkz1 hkz2 rfl (by decide) (.slice Ai xs.length ci) xs.length (nums xs) rfl hI5 ⟨wc.heap.size, 0, none⟩ 1 1 [.int .i64 0] rfl rfl (cell_one_new _ _ _) (by simp [Value.oneCell']) (by unfold maxLen; omega) (by omega) hbd5 ?_; intro v'' w6 hown6 hgrow6 hnb6; obtain ⟨g6, o6, c6, rfl, _⟩ := hown6.succ; have bR6 := stB.r.grown hgrow6 (fun e => by have := (stB.oi.lt _ e.symm).1; have := stB.rhi; omega); have u1 : w6.cell? ⟨rb, 1, none⟩ = some (.slice Ai xs.length ci) := bR6.cell 1; have fR6 := bR6.frozen))
              go_meet
              exact ⟨_, PlaySt.app_i stB hgrow6 hown6 rfl hnb6⟩
            case rest =>
            obtain ⟨vr', st3⟩ := hcut
            clear q1 q1a fR5 hI5 hbd5 stB st2
            obtain ⟨ad', hkl', ead, had', p0, p1, p2⟩ := evs_get (hr.below st3.below) hk
            obtain rfl := Option.some.inj ead
            go_wp2_with (go_at_call 14; refine (putq_any qb base xs.length (maxZ limit) (fuelZ fuel) v xs _ _ _ wc st3.q st3.oq hfull rfl st3.size st3.qhi).mono ?_; rintro e w5 ⟨rfl, hP⟩)
            obtain ⟨v5, st5⟩ := st3.turn hP
            go_roundw
            case rel => exact ⟨j + 1, k + 1, _, _, _, _, by go_num, by go_num, by omega, by omega, by omega, hok.put (r := ⟨l[k].key, l[k].at_, l[k].v, 0⟩) hfull ⟨hlv', (show (0 : Int) ≤ 0 by omega), (show (0 : Int) ≤ 40 by omega)⟩, st5⟩
            case measure => simp [intOf]; omega
          · obtain ⟨Ae, ce, rfl⟩ := st.oe.form
            obtain ⟨Aq, cq, hv⟩ := own_form st.oq
            subst hv
            have r0 : wr.cell? ⟨rb, 0, none⟩ = some (.slice Ae xs.length ce) := st.r.cell 0
            go_wp2_with (go_at_call 14; refine (putq_full qb xs.length cq Aq _ _ _ wr (st.q.cell 2) (by omega) st.q.lt).mono ?_; rintro e w5 ⟨rfl, hb5⟩)
            go_roundw
            case rel => exact ⟨j + 1, k + 1, _, _, _, _, by go_num, by go_num, by omega, by omega, by omega, hok, st.to hb5⟩
            case measure => simp [intOf]; omega
        · have hpf : bit = false ∨ (bit = true ∧ n ≤ k) := by
            cases bit
            · exact .inl rfl
            · exact .inr ⟨rfl, by rcases Nat.lt_or_ge k n with h | h; exact absurd ⟨rfl, h⟩ hput; exact h⟩
          clear hput
          have hwide := hok.wide
          have hokr := hok.rest (lim := maxZ limit) hFm.2
          have okr := hokr.1
          have hl20 : xs.length ≤ 20 := by omega
          rcases hpf with rfl | ⟨rfl, hk⟩
          · go_upto_region 21 with (first
              | (go_at_call 15; refine (stepq_any qb base (maxZ limit) (fuelZ fuel) v xs wr st.q st.oq hl20 st.size st.qhi hLm hwide).mono ?_; rintro e w2 ⟨rfl, hP⟩; obtain ⟨v2, st2⟩ := st.turn hP)
              | (go_at_call 16; have st3 := st2.to (w' := w2.alloc (.cells #[.string (outR (maxZ limit) (fuelZ fuel) xs).key, .int .i64 (outR (maxZ limit) (fuelZ fuel) xs).at_, .int .i64 (outR (maxZ limit) (fuelZ fuel) xs).v] 23)) (by go_grown); refine (rstep_all rb base limit fuel ve vr xs _ st3.r st3.oe st3.oi hl20 st3.size st3.rhi hL hwide).mono ?_; rintro e w3 ⟨rfl, hP3⟩; have bA := (hP3.blk (Blk.new w2 _ _) (by have := st2.r.lt; omega) (fun e => by have := (st2.oe.lt _ e).2; omega) (fun e => by have := (st2.oi.lt _ e).2; omega)); obtain ⟨ve3, vr3, st4⟩ := st3.rturn hP3))
            generalize hO : outR (maxZ limit) (fuelZ fuel) xs = O at *
            generalize hG : goesB (maxZ limit) (fuelZ fuel) xs = G at *
            generalize hY : restQ (maxZ limit) (fuelZ fuel) xs = ys at *
            have st5 := st4.to (w' := w3.alloc (.cells #[.string O.key, .int .i64 O.at_, .int .i64 O.v] 23)) (by go_grown)
            have bA5 := bA.alloc (.cells #[.string O.key, .int .i64 O.at_, .int .i64 O.v] 23)
            have bB5 := Blk.new w3 23 #[.string O.key, .int .i64 O.at_, .int .i64 O.v]
            generalize w3.alloc (.cells #[.string O.key, .int .i64 O.at_, .int .i64 O.v] 23) = W5 at *
            obtain ⟨Ae, ce, rfl⟩ := st5.oe.form
            obtain ⟨Aq, cq, hv⟩ := own_form st5.oq
            subst hv
            have a0 : W5.cell? ⟨w2.heap.size, 0, none⟩ = some (.string O.key) := bA5.cell 0
            have a1 : W5.cell? ⟨w2.heap.size, 1, none⟩ = some (.int .i64 O.at_) := bA5.cell 1
            have a2 : W5.cell? ⟨w2.heap.size, 2, none⟩ = some (.int .i64 O.v) := bA5.cell 2
            have b0 : W5.cell? ⟨w3.heap.size, 0, none⟩ = some (.string O.key) := bB5.cell 0
            have b1 : W5.cell? ⟨w3.heap.size, 1, none⟩ = some (.int .i64 O.at_) := bB5.cell 1
            have b2 : W5.cell? ⟨w3.heap.size, 2, none⟩ = some (.int .i64 O.v) := bB5.cell 2
            have r0 : W5.cell? ⟨rb, 0, none⟩ = some (.slice Ae ys.length ce) := st5.r.cell 0
            have q2 : W5.cell? ⟨qb, 2, none⟩ = some (.slice Aq ys.length cq) := st5.q.cell 2
            go_quiet (exact quiet_left (lenQ_any qb ys.length cq Aq _ q2))
            go_wp2_with fail
            go_roundw
            case rel => exact ⟨j + 1, k, ys, _, _, _, by go_num, by go_num, by omega, by omega, by omega, hokr, st5.to ⟨rfl, rfl, rfl, Nat.le_refl _, fun _ _ => rfl⟩⟩
            case measure => simp [intOf]; omega
          · go_upto_region 21 with (first
              | (go_at_call 15; refine (stepq_any qb base (maxZ limit) (fuelZ fuel) v xs wr st.q st.oq hl20 st.size st.qhi hLm hwide).mono ?_; rintro e w2 ⟨rfl, hP⟩; obtain ⟨v2, st2⟩ := st.turn hP)
              | (go_at_call 16; have st3 := st2.to (w' := w2.alloc (.cells #[.string (outR (maxZ limit) (fuelZ fuel) xs).key, .int .i64 (outR (maxZ limit) (fuelZ fuel) xs).at_, .int .i64 (outR (maxZ limit) (fuelZ fuel) xs).v] 23)) (by go_grown); refine (rstep_all rb base limit fuel ve vr xs _ st3.r st3.oe st3.oi hl20 st3.size st3.rhi hL hwide).mono ?_; rintro e w3 ⟨rfl, hP3⟩; have bA := (hP3.blk (Blk.new w2 _ _) (by have := st2.r.lt; omega) (fun e => by have := (st2.oe.lt _ e).2; omega) (fun e => by have := (st2.oi.lt _ e).2; omega)); obtain ⟨ve3, vr3, st4⟩ := st3.rturn hP3))
            generalize hO : outR (maxZ limit) (fuelZ fuel) xs = O at *
            generalize hG : goesB (maxZ limit) (fuelZ fuel) xs = G at *
            generalize hY : restQ (maxZ limit) (fuelZ fuel) xs = ys at *
            have st5 := st4.to (w' := w3.alloc (.cells #[.string O.key, .int .i64 O.at_, .int .i64 O.v] 23)) (by go_grown)
            have bA5 := bA.alloc (.cells #[.string O.key, .int .i64 O.at_, .int .i64 O.v] 23)
            have bB5 := Blk.new w3 23 #[.string O.key, .int .i64 O.at_, .int .i64 O.v]
            generalize w3.alloc (.cells #[.string O.key, .int .i64 O.at_, .int .i64 O.v] 23) = W5 at *
            obtain ⟨Ae, ce, rfl⟩ := st5.oe.form
            obtain ⟨Aq, cq, hv⟩ := own_form st5.oq
            subst hv
            have a0 : W5.cell? ⟨w2.heap.size, 0, none⟩ = some (.string O.key) := bA5.cell 0
            have a1 : W5.cell? ⟨w2.heap.size, 1, none⟩ = some (.int .i64 O.at_) := bA5.cell 1
            have a2 : W5.cell? ⟨w2.heap.size, 2, none⟩ = some (.int .i64 O.v) := bA5.cell 2
            have b0 : W5.cell? ⟨w3.heap.size, 0, none⟩ = some (.string O.key) := bB5.cell 0
            have b1 : W5.cell? ⟨w3.heap.size, 1, none⟩ = some (.int .i64 O.at_) := bB5.cell 1
            have b2 : W5.cell? ⟨w3.heap.size, 2, none⟩ = some (.int .i64 O.v) := bB5.cell 2
            have r0 : W5.cell? ⟨rb, 0, none⟩ = some (.slice Ae ys.length ce) := st5.r.cell 0
            have q2 : W5.cell? ⟨qb, 2, none⟩ = some (.slice Aq ys.length cq) := st5.q.cell 2
            go_quiet (exact quiet_left (lenQ_any qb ys.length cq Aq _ q2))
            go_wp2_with fail
            go_roundw
            case rel => exact ⟨j + 1, k, ys, _, _, _, by go_num, by go_num, by omega, by omega, by omega, hokr, st5.to ⟨rfl, rfl, rfl, Nat.le_refl _, fun _ _ => rfl⟩⟩
            case measure => simp [intOf]; omega
      · go_wp2_with (first
          | (go_at_call 15; refine (stepq_nil _).mono ?_; rintro e w2 ⟨rfl, hb2⟩; have y2 := hb2.size)
          | (go_at_call 11; refine (half_any _ _ (by omega)).mono ?_; rw [show halfZ 6 = 3 from rfl]; rintro e w3 ⟨rfl, rfl⟩)
          | (go_at_call 14; refine (putq_nil _ _ _ _).mono ?_; rintro e w4 ⟨rfl, hb4⟩)
          | (go_at_call 17; refine (lenQ_nil _).mono ?_; rintro e w5 ⟨rfl, rfl⟩))
        go_ret
        exact ⟨rfl, next_below ((next_below kB hb2).alloc (Nat.le_trans y1 y2) _) hb4⟩
    · have hx : j = m := by omega
      go_wp2_with (first
        | (go_at_call 15; refine (stepq_nil _).mono ?_; rintro e w2 ⟨rfl, hb2⟩; have y2 := hb2.size)
        | (go_at_call 11; refine (half_any _ _ (by omega)).mono ?_; rw [show halfZ 6 = 3 from rfl]; rintro e w3 ⟨rfl, rfl⟩)
        | (go_at_call 14; refine (putq_nil _ _ _ _).mono ?_; rintro e w4 ⟨rfl, hb4⟩)
        | (go_at_call 17; refine (lenQ_nil _).mono ?_; rintro e w5 ⟨rfl, rfl⟩))
      go_ret
      exact ⟨rfl, next_below ((next_below kB hb2).alloc (Nat.le_trans y1 y2) _) hb4⟩
end Go.Proofs.Ytplfimaopegpmaa
