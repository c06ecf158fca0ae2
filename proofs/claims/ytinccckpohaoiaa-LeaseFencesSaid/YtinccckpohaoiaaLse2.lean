/- Walk of the reference's Right of chapter 16. -/
import Derived.Test.YtinccckpohaoiaaLse1
namespace Go.Proofs.Ytinccckpohaoiaa
open Go.RowKit
set_option linter.unusedVariables false
set_option linter.unusedSimpArgs false

def withinB (n lo hi : Int) : Bool := decide (lo ≤ n) && decide (n ≤ hi)
theorem withinB_true {n lo hi : Int} : withinB n lo hi = true ↔ lo ≤ n ∧ n ≤ hi := by simp [withinB]
theorem withinB_false {n lo hi : Int} : withinB n lo hi = false ↔ n < lo ∨ hi < n := by
  simp only [withinB, Bool.and_eq_false_iff, decide_eq_false_iff_not]; omega
set_option maxHeartbeats 400000 in
theorem in_any (n lo hi : Int) (w : World) : Calls Try.prog 29 #[.int .i64 n, .int .i64 lo, .int .i64 hi] w fun e w' => e = .returned (.bool (withinB n lo hi)) ∧ w = w' := by
  by_cases h : lo ≤ n
  all_goals
    go_enter Try.func29, Try.ntmps29
    go_wp2
    go_ret
    exact ⟨ret_bool (by simp [withinB, h]; try omega), rfl⟩

theorem hasB_mono {t : Int} {ls : List Lse} {j k : Nat} (h : hasB t (ls.take j) = true) (hjk : j ≤ k) : hasB t (ls.take k) = true := by
  have e : ls.take j = (ls.take k).take j := by rw [List.take_take, Nat.min_eq_left hjk]
  rw [e] at h
  exact hasB_of_take (k := j) h
theorem rightT_eq (ls : List Lse) (last : Int) : rightT ls last = (withinB ls.length 1 32 && withinB last 0 1073741824 && goodTo last ls ls.length) := by
  unfold rightT withinB
  rw [Bool.eq_iff_iff]
  simp only [Bool.and_eq_true, decide_eq_true_iff]
  constructor
  · rintro ⟨⟨⟨⟨a, b⟩, c⟩, d⟩, e⟩
    exact ⟨⟨⟨by omega, by omega⟩, c, d⟩, e⟩
  · rintro ⟨⟨⟨a, b⟩, c, d⟩, e⟩
    exact ⟨⟨⟨⟨by omega, by omega⟩, c⟩, d⟩, e⟩

set_option maxRecDepth 100000 in
set_option maxHeartbeats 4000000 in
theorem refRight_any (A : Option Addr) (n c : Nat) (last : Int) (ls : List Lse) (w : World) (hr : Reads w w.heap.size 3 A n (flat ls)) (hm : n ≤ 9223372036854775807) (hc : n ≤ c) :
    Calls Try.prog 14 #[.agg #[.slice A n c, .int .i64 last]] w fun e w' => e = .returned (.bool (rightT ls last)) ∧ Below w.heap.size w w' := by
  have hlen := lse_len hr
  have hR := rightT_eq ls last
  rw [hlen] at hR
  have HL := Lib.hid hlen
  have HR := Lib.hid hR
  clear hlen hR
  go_enter Try.func14, Try.ntmps14
  go_wp2
  go_loopw [9] (fun i wr => ∃ k : Nat, k ≤ n ∧ i = .int .i64 k ∧ Below w.heap.size w wr ∧ Blk wr w.heap.size 24 #[.slice A n c, .int .i64 last] ∧ Hid (goodTo last ls k = true)) (fun i _ => n - (intOf i).toNat)
  case atStart => exact ⟨0, Nat.zero_le _, rfl, by go_grown, Blk.new _ _ _, Lib.hid rfl⟩
  case round =>
    obtain ⟨k, hk, rfl, hB, bT, HG⟩ := hrel
    have t0 := bT.cell 0
    have t1 := bT.cell 1
    have tl := bT.lt
    simp at t0 t1
    by_cases hlt : k < n
    · obtain ⟨ad, hl, rfl, hb, d0, d1, d2⟩ := lse_at (hr.below hB) hlt
      have hga : goodAt last ls k = (!badB last ls[k] && !(!(ls[k].tok == 0) && hasB ls[k].tok (ls.take k))) := goodAt_eq hl
      generalize ls[k] = x at *
      obtain ⟨ow, tk, ti⟩ := x
      simp only at d0 d1 d2 hga
      cases hbad : badB last ⟨ow, tk, ti⟩
      · have hg := badB_false.1 hbad
        simp only at hg
        obtain ⟨g1, g2, g3, g4, g5, g6, g7, g8⟩ := hg
        have a1 : withinB ow 0 99 = true := withinB_true.2 ⟨g1, g2⟩
        have a2 : withinB tk 0 last = true := withinB_true.2 ⟨g3, g4⟩
        have HA1 := Lib.hid a1
        have HA2 := Lib.hid a2
        have HGA := Lib.hid hga
        have HBD := Lib.hid hbad
        clear hga hbad a1 a2
        rcases (show (ow = 0 ∧ ti = 0) ∨ (0 < ow ∧ tk ≠ 0) by omega) with ⟨o1, o2⟩ | ⟨o1, o2⟩
        · have ho1 : (ow == 0) = true := by simpa using o1
          have ho2 : ow ≤ 0 := by omega
          have hti : (ti != 0) = false := by simpa using o2
          clear g7 g8 o1 o2
          go_wp2_with (first
            | (go_at_call 29; refine (in_any _ _ _ _).mono ?_; rw [HA1.out]; rintro e w' ⟨rfl, rfl⟩)
            | (go_at_call 29; refine (in_any _ _ _ _).mono ?_; rw [HA2.out]; rintro e w' ⟨rfl, rfl⟩))
          have bL := Blk.new wr 40 #[.int .i64 ow, .int .i64 tk, .int .i64 ti]
          have bT2 := bT.alloc (.cells #[.int .i64 ow, .int .i64 tk, .int .i64 ti] 40)
          have hB2 := hB.alloc hB.size (.cells #[.int .i64 ow, .int .i64 tk, .int .i64 ti] 40)
          clear t0 t1 d0 d1 d2 bT
          generalize wr.alloc (.cells #[.int .i64 ow, .int .i64 tk, .int .i64 ti] 40) = V at *
          generalize wr.heap.size = g at *
          go_loopw [5] (fun j wj => ∃ m : Nat, m ≤ k ∧ j = .int .i64 m ∧ Below w.heap.size w wj ∧ Blk wj w.heap.size 24 #[.slice (some ad) n c, .int .i64 last] ∧ Blk wj g 40 #[.int .i64 ow, .int .i64 tk, .int .i64 ti] ∧ Hid (0 < tk → hasB tk (ls.take m) = false)) (fun j _ => k - (intOf j).toNat)
          case atStart => exact ⟨0, Nat.zero_le _, rfl, hB2, bT2, bL, Lib.hid fun _ => rfl⟩
          case round =>
            obtain ⟨m, hmk, rfl, hB3, bT3, bL3, HM⟩ := hrel
            by_cases hmlt : m < k
            · obtain ⟨ad', hl', ea, hb', x0, x1, x2⟩ := lse_at (hr.below hB3) (Nat.lt_trans hmlt hlt)
              obtain rfl := Option.some.inj ea
              have t0 := bT3.cell 0
              have q1 := bL3.cell 1
              simp at t0 q1
              have htk := hasB_take (t := tk) hl'
              generalize ls[m].tok = mt at *
              by_cases hp : 0 < tk
              · have hpd : decide (0 < tk) = true := by simpa using hp
                cases hc : (mt == tk)
                · have HS := Lib.hid (show 0 < tk → hasB tk (ls.take (m + 1)) = false from fun h => by rw [htk, HM.out h, hc]; rfl)
                  clear htk
                  go_wp2_with fail
                  go_quiet (fail)
                  go_wp2
                  go_roundw
                  case rel => exact ⟨m + 1, by omega, by go_num, below_drewN hB3 nq, bT3.drewN nq, bL3.drewN nq, HS⟩
                  case measure => simp [intOf]; omega
                · have HF := Lib.hid (show goodTo last ls n = false from goodTo_false hlt (by
                    rw [HGA.out, HBD.out, hasB_mono (j := m + 1) (by rw [htk, hc]; simp) (by omega)]
                    have : (tk == 0) = false := by simp; omega
                    rw [this]; rfl))
                  clear htk
                  go_wp2_with fail
                  go_quiet (fail)
                  go_wp2
                  go_ret
                  exact ⟨ret_bool (by rw [HR.out, HF.out, Bool.and_false]), below_drewN hB3 nq⟩
              · have hpd : decide (0 < tk) = false := by simpa using hp
                have HS := Lib.hid (show 0 < tk → hasB tk (ls.take (m + 1)) = false from fun h => absurd h hp)
                clear htk
                go_wp2_with fail
                go_quiet (fail)
                go_wp2
                go_roundw
                case rel => exact ⟨m + 1, by omega, by go_num, below_drewN hB3 nq, bT3.drewN nq, bL3.drewN nq, HS⟩
                case measure => simp [intOf]; omega
            · obtain rfl : m = k := by omega
              have HS := Lib.hid (show goodTo last ls (m + 1) = true from by
                rw [goodTo_succ, HG.out, HGA.out, HBD.out]
                by_cases hp : 0 < tk
                · rw [HM.out hp]; simp
                · have : (tk == 0) = true := by simp; omega
                  rw [this]; rfl)
              go_wp2
              go_roundw
              case rel => exact ⟨m + 1, by omega, by go_num, hB3, bT3, HS⟩
              case measure => simp [intOf]; omega
        · have ho1 : (ow == 0) = false := by simp; omega
          have ht1 : (tk == 0) = false := by simpa using o2
          clear g7 g8 o2
          go_wp2_with (first
            | (go_at_call 29; refine (in_any _ _ _ _).mono ?_; rw [HA1.out]; rintro e w' ⟨rfl, rfl⟩)
            | (go_at_call 29; refine (in_any _ _ _ _).mono ?_; rw [HA2.out]; rintro e w' ⟨rfl, rfl⟩))
          have bL := Blk.new wr 40 #[.int .i64 ow, .int .i64 tk, .int .i64 ti]
          have bT2 := bT.alloc (.cells #[.int .i64 ow, .int .i64 tk, .int .i64 ti] 40)
          have hB2 := hB.alloc hB.size (.cells #[.int .i64 ow, .int .i64 tk, .int .i64 ti] 40)
          clear t0 t1 d0 d1 d2 bT
          generalize wr.alloc (.cells #[.int .i64 ow, .int .i64 tk, .int .i64 ti] 40) = V at *
          generalize wr.heap.size = g at *
          go_loopw [5] (fun j wj => ∃ m : Nat, m ≤ k ∧ j = .int .i64 m ∧ Below w.heap.size w wj ∧ Blk wj w.heap.size 24 #[.slice (some ad) n c, .int .i64 last] ∧ Blk wj g 40 #[.int .i64 ow, .int .i64 tk, .int .i64 ti] ∧ Hid (0 < tk → hasB tk (ls.take m) = false)) (fun j _ => k - (intOf j).toNat)
          case atStart => exact ⟨0, Nat.zero_le _, rfl, hB2, bT2, bL, Lib.hid fun _ => rfl⟩
          case round =>
            obtain ⟨m, hmk, rfl, hB3, bT3, bL3, HM⟩ := hrel
            by_cases hmlt : m < k
            · obtain ⟨ad', hl', ea, hb', x0, x1, x2⟩ := lse_at (hr.below hB3) (Nat.lt_trans hmlt hlt)
              obtain rfl := Option.some.inj ea
              have t0 := bT3.cell 0
              have q1 := bL3.cell 1
              simp at t0 q1
              have htk := hasB_take (t := tk) hl'
              generalize ls[m].tok = mt at *
              by_cases hp : 0 < tk
              · have hpd : decide (0 < tk) = true := by simpa using hp
                cases hc : (mt == tk)
                · have HS := Lib.hid (show 0 < tk → hasB tk (ls.take (m + 1)) = false from fun h => by rw [htk, HM.out h, hc]; rfl)
                  clear htk
                  go_wp2_with fail
                  go_quiet (fail)
                  go_wp2
                  go_roundw
                  case rel => exact ⟨m + 1, by omega, by go_num, below_drewN hB3 nq, bT3.drewN nq, bL3.drewN nq, HS⟩
                  case measure => simp [intOf]; omega
                · have HF := Lib.hid (show goodTo last ls n = false from goodTo_false hlt (by
                    rw [HGA.out, HBD.out, hasB_mono (j := m + 1) (by rw [htk, hc]; simp) (by omega)]
                    have : (tk == 0) = false := by simp; omega
                    rw [this]; rfl))
                  clear htk
                  go_wp2_with fail
                  go_quiet (fail)
                  go_wp2
                  go_ret
                  exact ⟨ret_bool (by rw [HR.out, HF.out, Bool.and_false]), below_drewN hB3 nq⟩
              · have hpd : decide (0 < tk) = false := by simpa using hp
                have HS := Lib.hid (show 0 < tk → hasB tk (ls.take (m + 1)) = false from fun h => absurd h hp)
                clear htk
                go_wp2_with fail
                go_quiet (fail)
                go_wp2
                go_roundw
                case rel => exact ⟨m + 1, by omega, by go_num, below_drewN hB3 nq, bT3.drewN nq, bL3.drewN nq, HS⟩
                case measure => simp [intOf]; omega
            · obtain rfl : m = k := by omega
              have HS := Lib.hid (show goodTo last ls (m + 1) = true from by
                rw [goodTo_succ, HG.out, HGA.out, HBD.out]
                by_cases hp : 0 < tk
                · rw [HM.out hp]; simp
                · have : (tk == 0) = true := by simp; omega
                  rw [this]; rfl)
              go_wp2
              go_roundw
              case rel => exact ⟨m + 1, by omega, by go_num, hB3, bT3, HS⟩
              case measure => simp [intOf]; omega
      · have hF : goodTo last ls n = false := goodTo_false hlt (by rw [hga, hbad]; rfl)
        have HF := Lib.hid hF
        have hbb := badB_true.1 hbad
        simp only at hbb
        clear hF hbad hga
        cases a1 : withinB ow 0 99
        · have HA1 := Lib.hid a1
          clear a1 hbb
          go_wp2_with (go_at_call 29; refine (in_any _ _ _ _).mono ?_; rw [HA1.out]; rintro e w' ⟨rfl, rfl⟩)
          go_ret
          exact ⟨ret_bool (by rw [HR.out, HF.out, Bool.and_false]), hB.alloc hB.size _⟩
        cases a2 : withinB tk 0 last
        · have HA1 := Lib.hid a1
          have HA2 := Lib.hid a2
          clear a1 a2 hbb
          go_wp2_with (first
            | (go_at_call 29; refine (in_any _ _ _ _).mono ?_; rw [HA1.out]; rintro e w' ⟨rfl, rfl⟩)
            | (go_at_call 29; refine (in_any _ _ _ _).mono ?_; rw [HA2.out]; rintro e w' ⟨rfl, rfl⟩))
          go_ret
          exact ⟨ret_bool (by rw [HR.out, HF.out, Bool.and_false]), hB.alloc hB.size _⟩
        have b1 := withinB_true.1 a1
        have b2 := withinB_true.1 a2
        have HA1 := Lib.hid a1
        have HA2 := Lib.hid a2
        clear a1 a2
        rcases (show ti < 0 ∨ 1099511627776 < ti ∨ (ow = 0 ∧ ti ≠ 0 ∧ 0 ≤ ti ∧ ti ≤ 1099511627776) ∨ (0 < ow ∧ tk = 0 ∧ 0 ≤ ti ∧ ti ≤ 1099511627776) by omega) with h | h | ⟨h1, h2, h3, h4⟩ | ⟨h1, h2, h3, h4⟩
        · clear hbb
          go_wp2_with (first
            | (go_at_call 29; refine (in_any _ _ _ _).mono ?_; rw [HA1.out]; rintro e w' ⟨rfl, rfl⟩)
            | (go_at_call 29; refine (in_any _ _ _ _).mono ?_; rw [HA2.out]; rintro e w' ⟨rfl, rfl⟩))
          go_ret
          exact ⟨ret_bool (by rw [HR.out, HF.out, Bool.and_false]), hB.alloc hB.size _⟩
        · clear hbb
          go_wp2_with (first
            | (go_at_call 29; refine (in_any _ _ _ _).mono ?_; rw [HA1.out]; rintro e w' ⟨rfl, rfl⟩)
            | (go_at_call 29; refine (in_any _ _ _ _).mono ?_; rw [HA2.out]; rintro e w' ⟨rfl, rfl⟩))
          go_ret
          exact ⟨ret_bool (by rw [HR.out, HF.out, Bool.and_false]), hB.alloc hB.size _⟩
        · have e1 : (ow == 0) = true := by simpa using h1
          have e2 : (ti != 0) = true := by simpa using h2
          clear hbb h1 h2
          go_wp2_with (first
            | (go_at_call 29; refine (in_any _ _ _ _).mono ?_; rw [HA1.out]; rintro e w' ⟨rfl, rfl⟩)
            | (go_at_call 29; refine (in_any _ _ _ _).mono ?_; rw [HA2.out]; rintro e w' ⟨rfl, rfl⟩))
          go_ret
          exact ⟨ret_bool (by rw [HR.out, HF.out, Bool.and_false]), hB.alloc hB.size _⟩
        · have e1 : (ow == 0) = false := by simp; omega
          have e2 : (tk == 0) = true := by simpa using h2
          clear hbb h2
          go_wp2_with (first
            | (go_at_call 29; refine (in_any _ _ _ _).mono ?_; rw [HA1.out]; rintro e w' ⟨rfl, rfl⟩)
            | (go_at_call 29; refine (in_any _ _ _ _).mono ?_; rw [HA2.out]; rintro e w' ⟨rfl, rfl⟩))
          go_ret
          exact ⟨ret_bool (by rw [HR.out, HF.out, Bool.and_false]), hB.alloc hB.size _⟩
    · obtain rfl : k = n := by omega
      have hR := HR.out
      rw [HG.out, Bool.and_true] at hR
      have HR2 := Lib.hid hR
      clear hR
      cases a1 : withinB (k : Int) 1 32
      · have HA1 := Lib.hid a1
        clear a1
        go_wp2_with (go_at_call 29; refine (in_any _ _ _ _).mono ?_; rw [HA1.out]; rintro e w' ⟨rfl, rfl⟩)
        go_ret
        exact ⟨ret_bool (by rw [HR2.out, HA1.out]; rfl), hB⟩
      · have HA1 := Lib.hid a1
        clear a1
        go_wp2_with (first
          | (go_at_call 29; refine (in_any _ _ _ _).mono ?_; rw [HA1.out]; rintro e w' ⟨rfl, rfl⟩)
          | (go_at_call 29; refine (in_any _ _ _ _).mono ?_; rintro e w' ⟨rfl, rfl⟩))
        go_ret
        exact ⟨ret_bool (by rw [HR2.out, HA1.out]; simp), hB⟩
end Go.Proofs.Ytinccckpohaoiaa
