/- The walk of LinkAcks. -/
import Derived.Test.YtplodggiifachaaLink3
namespace Go.Proofs.Ytplodggiifachaa
open Go.RowKit
set_option linter.unusedVariables false
set_option linter.unusedSimpArgs false

theorem reads_alloc {w : World} {size n : Nat} {A : Option Addr} {xs : List Value} {o : Obj} (h : Reads w w.heap.size size A n xs) : Reads (w.alloc o) (w.alloc o).heap.size size A n xs := (h.alloc (Nat.le_refl _) o).more (by simp)
theorem reads_below {w w' : World} {size n : Nat} {A : Option Addr} {xs : List Value} (h : Reads w w.heap.size size A n xs) (hb : Below w.heap.size w w') : Reads w' w'.heap.size size A n xs := (h.below hb).more hb.size
/-- A sender of which x bodies are acknowledged. -/
def ackS (s : Snd) (x : Nat) : Snd := if x = 0 then s else ⟨s.ep, s.base + x, s.bodies.drop x, if s.bodies.length ≤ x then 0 else 4⟩
theorem ackS_ep (s : Snd) (x : Nat) : (ackS s x).ep = s.ep := by unfold ackS; split <;> rfl
theorem ackS_base (s : Snd) (x : Nat) : (ackS s x).base = s.base + x := by unfold ackS; split <;> simp_all
theorem ackS_bodies (s : Snd) (x : Nat) : (ackS s x).bodies = s.bodies.drop x := by unfold ackS; split <;> simp_all
theorem ackS_len (s : Snd) (x : Nat) : (ackS s x).bodies.length = s.bodies.length - x := by rw [ackS_bodies, List.length_drop]
theorem ackS_right {s : Snd} (h : rightB s = true) (x : Nat) (hx : x ≤ s.bodies.length) : rightB (ackS s x) = true := by
  rw [rightB_iff] at h ⊢
  obtain ⟨h1, h2, h3, h4, h5, h6⟩ := h
  rw [ackS_ep, ackS_base, ackS_len, ackS_bodies]
  refine ⟨h1, by omega, by omega, ?_, ?_, ?_⟩
  · unfold ackS
    split
    · exact h4
    · simp only; split <;> omega
  · unfold ackS
    split
    · rename_i e; subst e; simpa using h5
    · simp only; split <;> omega
  · unfold longB at *
    rw [List.any_eq_false] at *
    exact fun b hb => h6 b (List.mem_of_mem_drop hb)
theorem ackZ_ok {s : Snd} (h : rightB s = true) (x : Nat) (hx : x ≤ s.bodies.length) : ackZ s s.ep (s.base + x) = (ackS s x, 0) := by
  unfold ackZ ackS
  rw [if_neg (by simp [h]), if_neg (by simp), if_neg (by omega)]
  by_cases h0 : x = 0
  · subst h0
    rw [if_pos (by omega)]; simp
  · rw [if_neg (by omega), if_neg h0]
    simp [show s.base + (x : Int) - s.base = x from by omega]
theorem ackZ_old {s : Snd} (h : rightB s = true) (want : Int) (hw : want ≤ s.base) : ackZ s s.ep want = (s, 0) := by
  unfold ackZ
  rw [if_neg (by simp [h]), if_neg (by simp), if_neg (by omega), if_pos hw]
theorem ackS_ackS (s : Snd) (x y : Nat) (hxy : x ≤ y) : ackS (ackS s x) (y - x) = ackS s y := by
  by_cases h0 : x = 0
  · subst h0
    simp [ackS]
  · by_cases h1 : y - x = 0
    · obtain rfl : x = y := by omega
      simp [ackS]
    · unfold ackS
      simp only [if_neg h1, if_neg h0, if_neg (show ¬ y = 0 by omega)]
      simp only [List.drop_drop, List.length_drop, Snd.mk.injEq, true_and]
      refine ⟨by omega, by rw [show x + (y - x) = y from by omega], ?_⟩
      by_cases h : s.bodies.length ≤ y
      · rw [if_pos h, if_pos (by omega)]
      · rw [if_neg h, if_neg (by omega)]

set_option maxRecDepth 100000 in
set_option maxHeartbeats 2000000 in
theorem walkAcks1 (ep base timer a b : Int) (zs : List ByteArray) (A : Option Addr) (n c : Nat) (w : World) (hr : Reads w w.heap.size 1 A n (zs.map Value.string)) (hm : n ≤ 9223372036854775807) (hs : ∀ z ∈ zs, z.size ≤ maxLen) (hc : n ≤ c) (hR : rightB ⟨ep, base, zs, timer⟩ = true) :
    Calls Try.prog 4 #[.agg #[.int .i64 ep, .int .i64 base, .slice A n c, .int .i64 timer], .int .i64 a, .int .i64 b] w fun e w' => e = .returned (.bool true) ∧ Below w.heap.size w w' := by
  obtain rfl := (reads_len hr).symm
  obtain ⟨⟨e1, e2⟩, l8, ⟨b1, b2⟩, _⟩ := rightB_iff.1 hR
  simp only at e1 e2 l8 b1 b2
  have hr1 : ∀ o, Reads (w.alloc o) (w.alloc o).heap.size 1 A zs.length (zs.map Value.string) := fun o => (hr.alloc (Nat.le_refl _) o).more (by simp)
  have hN0 : ((zs.length : Int) + 1 == 0) = false := by simp; omega
  have hN1 : (0 : Int) < (zs.length : Int) + 1 := by omega
  have ta0 := Int.tmod_lt_of_pos a hN1
  have ta1 := Int.lt_tmod_of_pos a hN1
  have tb0 := Int.tmod_lt_of_pos b hN1
  have tb1 := Int.lt_tmod_of_pos b hN1
  have wa : IntKind.i64.wrap (a.tmod ((zs.length : Int) + 1) + ((zs.length : Int) + 1)) = a.tmod ((zs.length : Int) + 1) + ((zs.length : Int) + 1) := IntWalk.i64_in _ (by omega)
  have wb : IntKind.i64.wrap (b.tmod ((zs.length : Int) + 1) + ((zs.length : Int) + 1)) = b.tmod ((zs.length : Int) + 1) + ((zs.length : Int) + 1) := IntWalk.i64_in _ (by omega)
  have key : ∀ t : Int, -((zs.length : Int) + 1) < t → ∃ x : Nat, (t + ((zs.length : Int) + 1)).tmod ((zs.length : Int) + 1) = x ∧ x ≤ zs.length := by
    intro t h
    refine ⟨((t + ((zs.length : Int) + 1)).tmod ((zs.length : Int) + 1)).toNat, ?_, ?_⟩
    · rw [Int.tmod_eq_emod_of_nonneg (by omega)]
      have := Int.emod_nonneg (t + ((zs.length : Int) + 1)) (b := (zs.length : Int) + 1) (by omega)
      omega
    · have := Int.tmod_lt_of_pos (t + ((zs.length : Int) + 1)) hN1
      omega
  obtain ⟨xa, ea, la⟩ := key _ ta1
  obtain ⟨xb, eb, lb⟩ := key _ tb1
  clear key ta0 ta1 tb0 tb1
  have wA : IntKind.i64.wrap (base + (xa : Int)) = base + xa := IntWalk.i64_in _ (by omega)
  have wB : IntKind.i64.wrap (base + (xb : Int)) = base + xb := IntWalk.i64_in _ (by omega)
  have hd20 : decide ((20 : Int) < (zs.length : Int)) = false := by simp; omega
  go_enter Try.func4, Try.ntmps4
  go_wp2_with fail
  refine (right_any ep base timer zs A zs.length c _ (hr1 _) hm hs).mono ?_
  rw [hR]
  rintro e w1 ⟨rfl, hb1⟩
  obtain ⟨c1, f1⟩ := bcell hb1
  have y1 := hb1.size
  try simp at y1
  have z0_0_1 : w.heap.size < w1.heap.size := by omega
  have k1 : Below w.heap.size w w1 := next_below (by go_grown) hb1

  go_wp2_with fail
  refine (alive_any _).mono ?_
  rintro e w2 ⟨rfl, hb2⟩
  obtain ⟨c2, f2⟩ := bcell hb2
  have y2 := hb2.size
  try simp at y2
  have z0_0_2 : w.heap.size < w2.heap.size := by omega
  have k2 : Below w.heap.size w w2 := next_below (by go_grown) hb2

  go_wp2_with fail
  go_quiet (fail)
  obtain ⟨V, hV⟩ : ∃ V, w2.drewN nq = V := ⟨_, rfl⟩
  have c2V : ∀ b o, b < w1.heap.size → V.cell? ⟨b, o, none⟩ = w1.cell? ⟨b, o, none⟩ := by subst hV; exact c2
  have f2V : ∀ b o, b < w1.heap.size → V.frozen? ⟨b, o, none⟩ = w1.frozen? ⟨b, o, none⟩ := by subst hV; exact f2
  have kV : Below w.heap.size w V := by subst hV; exact below_drewN k2 nq
  have zV : w.heap.size < V.heap.size := by subst hV; exact z0_0_2
  rw [hV]
  have hrW := (hr.below kV).more kV.size
  clear hV c2 f2
  rcases Nat.lt_trichotomy xa xb with h | rfl | h
  · have lx : xa ≤ zs.length := la
    have ly : xb ≤ zs.length := lb
    have hxy : xa ≤ xb := by omega
    have q1 : ackZ ⟨ep, base, zs, timer⟩ ep (base + (xa : Int)) = (ackS ⟨ep, base, zs, timer⟩ xa, 0) := ackZ_ok hR xa lx
    have q3 : ackZ ⟨ep, base, zs, timer⟩ ep (base + (xb : Int)) = (ackS ⟨ep, base, zs, timer⟩ xb, 0) := ackZ_ok hR xb ly
    have rX := ackS_right hR xa lx
    have rY := ackS_right hR xb ly
    have q2 : ackZ (ackS ⟨ep, base, zs, timer⟩ xa) ep (base + (xb : Int)) = (ackS ⟨ep, base, zs, timer⟩ xb, 0) := by
      have h := ackZ_ok rX (xb - xa) (by rw [ackS_len]; simp only; omega)
      rw [ackS_ackS _ _ _ hxy, ackS_ep, ackS_base] at h
      simp only at h
      rw [show base + (xa : Int) + ((xb - xa : Nat) : Int) = base + xb from by omega] at h
      exact h
    have q4 : ackZ (ackS ⟨ep, base, zs, timer⟩ xb) ep (base + (xa : Int)) = (ackS ⟨ep, base, zs, timer⟩ xb, 0) := by
      have h := ackZ_old rY (base + (xa : Int)) (by rw [ackS_base]; simp only; omega)
      rw [ackS_ep] at h
      exact h
    have lY := ackS_len ⟨ep, base, zs, timer⟩ xb
    have mX : ∀ z ∈ (ackS ⟨ep, base, zs, timer⟩ xa).bodies, z.size ≤ maxLen := by rw [ackS_bodies]; exact fun z hz => hs z (List.mem_of_mem_drop hz)
    have mY : ∀ z ∈ (ackS ⟨ep, base, zs, timer⟩ xb).bodies, z.size ≤ maxLen := by rw [ackS_bodies]; exact fun z hz => hs z (List.mem_of_mem_drop hz)
    have lX8 := ackS_len ⟨ep, base, zs, timer⟩ xa
    generalize hX : ackS ⟨ep, base, zs, timer⟩ xa = X at *
    generalize hY : ackS ⟨ep, base, zs, timer⟩ xb = Y at *
    obtain ⟨xe, xbs, xz, xt⟩ := X
    obtain ⟨ye, ybs, yz, yt⟩ := Y
    simp only at lY lX8 mX mY
    have LX := Lib.hid lX8
    have LY := Lib.hid lY
    have Q1 := Lib.hid q1
    have Q2 := Lib.hid q2
    have Q3 := Lib.hid q3
    have Q4 := Lib.hid q4
    have M8 : xz.length ≤ 8 := by omega
    have M9 : yz.length ≤ 8 := by omega
    clear q1 q2 q3 q4 hX hY lX8 lY
    go_wp2_with fail
    refine (ack_any _ _ _ _ _ zs A zs.length c _ hrW hm hs hc).mono ?_
    rw [Q1.out]
    rintro e w3 ⟨A3, c3', rfl, hr3, hc3, _, hb3⟩
    obtain ⟨c3, f3⟩ := bcell hb3
    have y3 := hb3.size
    try simp at y3
    have z0_0_3 : w.heap.size < w3.heap.size := by omega
    have k3 : Below w.heap.size w w3 := next_below (by go_grown) hb3
    simp only at hr3 hc3
    go_wp2_with fail
    refine (ack_any _ _ _ _ _ xz A3 xz.length c3' _ (reads_alloc hr3) (by omega) mX hc3).mono ?_
    rw [Q2.out]
    rintro e w4 ⟨A4, c4', rfl, hr4, hc4, _, hb4⟩
    obtain ⟨c4, f4⟩ := bcell hb4
    have y4 := hb4.size
    try simp at y4
    have z0_0_4 : w.heap.size < w4.heap.size := by omega
    have zz0_0_4 : w.heap.size < w3.heap.size + 1 := by omega
    have z3_0_4 : w3.heap.size < w4.heap.size := by omega
    have k4 : Below w.heap.size w w4 := next_below (by go_grown) hb4
    go_wp2_with fail
    refine (ack_any _ _ _ _ _ zs A zs.length c _ (reads_alloc ((hr.below k4).more k4.size)) hm hs hc).mono ?_
    rw [Q3.out]
    rintro e w5 ⟨A5, c5', rfl, hr5, hc5, _, hb5⟩
    obtain ⟨c5, f5⟩ := bcell hb5
    have y5 := hb5.size
    try simp at y5
    have z0_0_5 : w.heap.size < w5.heap.size := by omega
    have zz0_0_5 : w.heap.size < w4.heap.size + 1 := by omega
    have z3_0_5 : w3.heap.size < w5.heap.size := by omega
    have zz3_0_5 : w3.heap.size < w4.heap.size + 1 := by omega
    have z4_0_5 : w4.heap.size < w5.heap.size := by omega
    have k5 : Below w.heap.size w w5 := next_below (by go_grown) hb5
    simp only at hr4 hr5 hc4 hc5
    have hr45 := reads_below (reads_alloc hr4) hb5
    go_wp2_with fail
    refine (ack_any _ _ _ _ _ yz A5 yz.length c5' _ (reads_alloc hr5) (by omega) mY hc5).mono ?_
    rw [Q4.out]
    rintro e w6 ⟨A6, c6', rfl, hr6, hc6, _, hb6⟩
    obtain ⟨c6, f6⟩ := bcell hb6
    have y6 := hb6.size
    try simp at y6
    have z0_0_6 : w.heap.size < w6.heap.size := by omega
    have zz0_0_6 : w.heap.size < w5.heap.size + 1 := by omega
    have z3_0_6 : w3.heap.size < w6.heap.size := by omega
    have zz3_0_6 : w3.heap.size < w5.heap.size + 1 := by omega
    have z4_0_6 : w4.heap.size < w6.heap.size := by omega
    have zz4_0_6 : w4.heap.size < w5.heap.size + 1 := by omega
    have z5_0_6 : w5.heap.size < w6.heap.size := by omega
    have k6 : Below w.heap.size w w6 := next_below (by go_grown) hb6
    simp only at hr6 hc6
    have hr46 := reads_below (reads_alloc hr45) hb6
    have hr56 := reads_below (reads_alloc hr5) hb6
    go_wp2_with fail
    refine (like_same _ _ _ yz A4 A5 yz.length c4' c5' _ (reads_alloc hr46) (reads_alloc hr56) (by omega)).mono ?_
    rintro e w7 ⟨rfl, hb7⟩
    obtain ⟨c7, f7⟩ := bcell hb7
    have y7 := hb7.size
    try simp at y7
    have z0_0_7 : w.heap.size < w7.heap.size := by omega
    have zz0_0_7 : w.heap.size < w6.heap.size + 1 := by omega
    have z3_0_7 : w3.heap.size < w7.heap.size := by omega
    have zz3_0_7 : w3.heap.size < w6.heap.size + 1 := by omega
    have z4_0_7 : w4.heap.size < w7.heap.size := by omega
    have zz4_0_7 : w4.heap.size < w6.heap.size + 1 := by omega
    have z5_0_7 : w5.heap.size < w7.heap.size := by omega
    have zz5_0_7 : w5.heap.size < w6.heap.size + 1 := by omega
    have z6_0_7 : w6.heap.size < w7.heap.size := by omega
    have k7 : Below w.heap.size w w7 := next_below (by go_grown) hb7
    have hr57 := reads_below (reads_alloc hr56) hb7
    have hr67 := reads_below (reads_alloc hr6) hb7
    go_wp2_with fail
    refine (like_same _ _ _ yz A5 A6 yz.length c5' c6' _ hr57 hr67 (by omega)).mono ?_
    rintro e w8 ⟨rfl, hb8⟩
    obtain ⟨c8, f8⟩ := bcell hb8
    have y8 := hb8.size
    try simp at y8
    have z0_0_8 : w.heap.size < w8.heap.size := by omega
    have z3_0_8 : w3.heap.size < w8.heap.size := by omega
    have z4_0_8 : w4.heap.size < w8.heap.size := by omega
    have z5_0_8 : w5.heap.size < w8.heap.size := by omega
    have z6_0_8 : w6.heap.size < w8.heap.size := by omega
    have k8 : Below w.heap.size w w8 := next_below (by go_grown) hb8
    have hfin : (((yz.length : Nat) : Int) == base + (zs.length : Int) - (base + (xb : Int))) = true := by
      have := LY.out
      rw [beq_iff_eq]
      omega
    go_wp2
    go_ret
    exact ⟨by simp, by go_grown⟩
    
  · have lx : xa ≤ zs.length := la
    have ly : xa ≤ zs.length := la
    have hxy : xa ≤ xa := by omega
    have q1 : ackZ ⟨ep, base, zs, timer⟩ ep (base + (xa : Int)) = (ackS ⟨ep, base, zs, timer⟩ xa, 0) := ackZ_ok hR xa lx
    have q3 : ackZ ⟨ep, base, zs, timer⟩ ep (base + (xa : Int)) = (ackS ⟨ep, base, zs, timer⟩ xa, 0) := ackZ_ok hR xa ly
    have rX := ackS_right hR xa lx
    have rY := ackS_right hR xa ly
    have q2 : ackZ (ackS ⟨ep, base, zs, timer⟩ xa) ep (base + (xa : Int)) = (ackS ⟨ep, base, zs, timer⟩ xa, 0) := by
      have h := ackZ_ok rX (xa - xa) (by rw [ackS_len]; simp only; omega)
      rw [ackS_ackS _ _ _ hxy, ackS_ep, ackS_base] at h
      simp only at h
      rw [show base + (xa : Int) + ((xa - xa : Nat) : Int) = base + xa from by omega] at h
      exact h
    have q4 : ackZ (ackS ⟨ep, base, zs, timer⟩ xa) ep (base + (xa : Int)) = (ackS ⟨ep, base, zs, timer⟩ xa, 0) := by
      have h := ackZ_old rY (base + (xa : Int)) (by rw [ackS_base]; simp only; omega)
      rw [ackS_ep] at h
      exact h
    have lY := ackS_len ⟨ep, base, zs, timer⟩ xa
    have mX : ∀ z ∈ (ackS ⟨ep, base, zs, timer⟩ xa).bodies, z.size ≤ maxLen := by rw [ackS_bodies]; exact fun z hz => hs z (List.mem_of_mem_drop hz)
    have mY : ∀ z ∈ (ackS ⟨ep, base, zs, timer⟩ xa).bodies, z.size ≤ maxLen := by rw [ackS_bodies]; exact fun z hz => hs z (List.mem_of_mem_drop hz)
    have lX8 := ackS_len ⟨ep, base, zs, timer⟩ xa
    generalize hX : ackS ⟨ep, base, zs, timer⟩ xa = X at *
    obtain ⟨xe, xbs, xz, xt⟩ := X
    simp only at lY lX8 mX mY
    have LX := Lib.hid lX8
    have LY := Lib.hid lY
    have Q1 := Lib.hid q1
    have Q2 := Lib.hid q2
    have Q3 := Lib.hid q3
    have Q4 := Lib.hid q4
    have M8 : xz.length ≤ 8 := by omega
    have M9 : xz.length ≤ 8 := by omega
    clear q1 q2 q3 q4 hX  lX8 lY
    go_wp2_with fail
    refine (ack_any _ _ _ _ _ zs A zs.length c _ hrW hm hs hc).mono ?_
    rw [Q1.out]
    rintro e w3 ⟨A3, c3', rfl, hr3, hc3, _, hb3⟩
    obtain ⟨c3, f3⟩ := bcell hb3
    have y3 := hb3.size
    try simp at y3
    have z0_0_3 : w.heap.size < w3.heap.size := by omega
    have k3 : Below w.heap.size w w3 := next_below (by go_grown) hb3
    simp only at hr3 hc3
    go_wp2_with fail
    refine (ack_any _ _ _ _ _ xz A3 xz.length c3' _ (reads_alloc hr3) (by omega) mX hc3).mono ?_
    rw [Q2.out]
    rintro e w4 ⟨A4, c4', rfl, hr4, hc4, _, hb4⟩
    obtain ⟨c4, f4⟩ := bcell hb4
    have y4 := hb4.size
    try simp at y4
    have z0_0_4 : w.heap.size < w4.heap.size := by omega
    have zz0_0_4 : w.heap.size < w3.heap.size + 1 := by omega
    have z3_0_4 : w3.heap.size < w4.heap.size := by omega
    have k4 : Below w.heap.size w w4 := next_below (by go_grown) hb4
    go_wp2_with fail
    refine (ack_any _ _ _ _ _ zs A zs.length c _ (reads_alloc ((hr.below k4).more k4.size)) hm hs hc).mono ?_
    rw [Q3.out]
    rintro e w5 ⟨A5, c5', rfl, hr5, hc5, _, hb5⟩
    obtain ⟨c5, f5⟩ := bcell hb5
    have y5 := hb5.size
    try simp at y5
    have z0_0_5 : w.heap.size < w5.heap.size := by omega
    have zz0_0_5 : w.heap.size < w4.heap.size + 1 := by omega
    have z3_0_5 : w3.heap.size < w5.heap.size := by omega
    have zz3_0_5 : w3.heap.size < w4.heap.size + 1 := by omega
    have z4_0_5 : w4.heap.size < w5.heap.size := by omega
    have k5 : Below w.heap.size w w5 := next_below (by go_grown) hb5
    simp only at hr4 hr5 hc4 hc5
    have hr45 := reads_below (reads_alloc hr4) hb5
    go_wp2_with fail
    refine (ack_any _ _ _ _ _ xz A5 xz.length c5' _ (reads_alloc hr5) (by omega) mY hc5).mono ?_
    rw [Q4.out]
    rintro e w6 ⟨A6, c6', rfl, hr6, hc6, _, hb6⟩
    obtain ⟨c6, f6⟩ := bcell hb6
    have y6 := hb6.size
    try simp at y6
    have z0_0_6 : w.heap.size < w6.heap.size := by omega
    have zz0_0_6 : w.heap.size < w5.heap.size + 1 := by omega
    have z3_0_6 : w3.heap.size < w6.heap.size := by omega
    have zz3_0_6 : w3.heap.size < w5.heap.size + 1 := by omega
    have z4_0_6 : w4.heap.size < w6.heap.size := by omega
    have zz4_0_6 : w4.heap.size < w5.heap.size + 1 := by omega
    have z5_0_6 : w5.heap.size < w6.heap.size := by omega
    have k6 : Below w.heap.size w w6 := next_below (by go_grown) hb6
    simp only at hr6 hc6
    have hr46 := reads_below (reads_alloc hr45) hb6
    have hr56 := reads_below (reads_alloc hr5) hb6
    go_wp2_with fail
    refine (like_same _ _ _ xz A4 A5 xz.length c4' c5' _ (reads_alloc hr46) (reads_alloc hr56) (by omega)).mono ?_
    rintro e w7 ⟨rfl, hb7⟩
    obtain ⟨c7, f7⟩ := bcell hb7
    have y7 := hb7.size
    try simp at y7
    have z0_0_7 : w.heap.size < w7.heap.size := by omega
    have zz0_0_7 : w.heap.size < w6.heap.size + 1 := by omega
    have z3_0_7 : w3.heap.size < w7.heap.size := by omega
    have zz3_0_7 : w3.heap.size < w6.heap.size + 1 := by omega
    have z4_0_7 : w4.heap.size < w7.heap.size := by omega
    have zz4_0_7 : w4.heap.size < w6.heap.size + 1 := by omega
    have z5_0_7 : w5.heap.size < w7.heap.size := by omega
    have zz5_0_7 : w5.heap.size < w6.heap.size + 1 := by omega
    have z6_0_7 : w6.heap.size < w7.heap.size := by omega
    have k7 : Below w.heap.size w w7 := next_below (by go_grown) hb7
    have hr57 := reads_below (reads_alloc hr56) hb7
    have hr67 := reads_below (reads_alloc hr6) hb7
    go_wp2_with fail
    refine (like_same _ _ _ xz A5 A6 xz.length c5' c6' _ hr57 hr67 (by omega)).mono ?_
    rintro e w8 ⟨rfl, hb8⟩
    obtain ⟨c8, f8⟩ := bcell hb8
    have y8 := hb8.size
    try simp at y8
    have z0_0_8 : w.heap.size < w8.heap.size := by omega
    have z3_0_8 : w3.heap.size < w8.heap.size := by omega
    have z4_0_8 : w4.heap.size < w8.heap.size := by omega
    have z5_0_8 : w5.heap.size < w8.heap.size := by omega
    have z6_0_8 : w6.heap.size < w8.heap.size := by omega
    have k8 : Below w.heap.size w w8 := next_below (by go_grown) hb8
    have hfin : (((xz.length : Nat) : Int) == base + (zs.length : Int) - (base + (xa : Int))) = true := by
      have := LY.out
      rw [beq_iff_eq]
      omega
    go_wp2
    go_ret
    exact ⟨by simp, by go_grown⟩
    
  · have lx : xb ≤ zs.length := lb
    have ly : xa ≤ zs.length := la
    have hxy : xb ≤ xa := by omega
    have q1 : ackZ ⟨ep, base, zs, timer⟩ ep (base + (xb : Int)) = (ackS ⟨ep, base, zs, timer⟩ xb, 0) := ackZ_ok hR xb lx
    have q3 : ackZ ⟨ep, base, zs, timer⟩ ep (base + (xa : Int)) = (ackS ⟨ep, base, zs, timer⟩ xa, 0) := ackZ_ok hR xa ly
    have rX := ackS_right hR xb lx
    have rY := ackS_right hR xa ly
    have q2 : ackZ (ackS ⟨ep, base, zs, timer⟩ xb) ep (base + (xa : Int)) = (ackS ⟨ep, base, zs, timer⟩ xa, 0) := by
      have h := ackZ_ok rX (xa - xb) (by rw [ackS_len]; simp only; omega)
      rw [ackS_ackS _ _ _ hxy, ackS_ep, ackS_base] at h
      simp only at h
      rw [show base + (xb : Int) + ((xa - xb : Nat) : Int) = base + xa from by omega] at h
      exact h
    have q4 : ackZ (ackS ⟨ep, base, zs, timer⟩ xa) ep (base + (xb : Int)) = (ackS ⟨ep, base, zs, timer⟩ xa, 0) := by
      have h := ackZ_old rY (base + (xb : Int)) (by rw [ackS_base]; simp only; omega)
      rw [ackS_ep] at h
      exact h
    have lY := ackS_len ⟨ep, base, zs, timer⟩ xa
    have mX : ∀ z ∈ (ackS ⟨ep, base, zs, timer⟩ xb).bodies, z.size ≤ maxLen := by rw [ackS_bodies]; exact fun z hz => hs z (List.mem_of_mem_drop hz)
    have mY : ∀ z ∈ (ackS ⟨ep, base, zs, timer⟩ xa).bodies, z.size ≤ maxLen := by rw [ackS_bodies]; exact fun z hz => hs z (List.mem_of_mem_drop hz)
    have lX8 := ackS_len ⟨ep, base, zs, timer⟩ xb
    generalize hX : ackS ⟨ep, base, zs, timer⟩ xb = X at *
    generalize hY : ackS ⟨ep, base, zs, timer⟩ xa = Y at *
    obtain ⟨xe, xbs, xz, xt⟩ := X
    obtain ⟨ye, ybs, yz, yt⟩ := Y
    simp only at lY lX8 mX mY
    have LX := Lib.hid lX8
    have LY := Lib.hid lY
    have Q1 := Lib.hid q1
    have Q2 := Lib.hid q2
    have Q3 := Lib.hid q3
    have Q4 := Lib.hid q4
    have M8 : xz.length ≤ 8 := by omega
    have M9 : yz.length ≤ 8 := by omega
    clear q1 q2 q3 q4 hX hY lX8 lY
    go_wp2_with fail
    refine (ack_any _ _ _ _ _ zs A zs.length c _ hrW hm hs hc).mono ?_
    rw [Q1.out]
    rintro e w3 ⟨A3, c3', rfl, hr3, hc3, _, hb3⟩
    obtain ⟨c3, f3⟩ := bcell hb3
    have y3 := hb3.size
    try simp at y3
    have z0_0_3 : w.heap.size < w3.heap.size := by omega
    have k3 : Below w.heap.size w w3 := next_below (by go_grown) hb3
    simp only at hr3 hc3
    go_wp2_with fail
    refine (ack_any _ _ _ _ _ xz A3 xz.length c3' _ (reads_alloc hr3) (by omega) mX hc3).mono ?_
    rw [Q2.out]
    rintro e w4 ⟨A4, c4', rfl, hr4, hc4, _, hb4⟩
    obtain ⟨c4, f4⟩ := bcell hb4
    have y4 := hb4.size
    try simp at y4
    have z0_0_4 : w.heap.size < w4.heap.size := by omega
    have zz0_0_4 : w.heap.size < w3.heap.size + 1 := by omega
    have z3_0_4 : w3.heap.size < w4.heap.size := by omega
    have k4 : Below w.heap.size w w4 := next_below (by go_grown) hb4
    go_wp2_with fail
    refine (ack_any _ _ _ _ _ zs A zs.length c _ (reads_alloc ((hr.below k4).more k4.size)) hm hs hc).mono ?_
    rw [Q3.out]
    rintro e w5 ⟨A5, c5', rfl, hr5, hc5, _, hb5⟩
    obtain ⟨c5, f5⟩ := bcell hb5
    have y5 := hb5.size
    try simp at y5
    have z0_0_5 : w.heap.size < w5.heap.size := by omega
    have zz0_0_5 : w.heap.size < w4.heap.size + 1 := by omega
    have z3_0_5 : w3.heap.size < w5.heap.size := by omega
    have zz3_0_5 : w3.heap.size < w4.heap.size + 1 := by omega
    have z4_0_5 : w4.heap.size < w5.heap.size := by omega
    have k5 : Below w.heap.size w w5 := next_below (by go_grown) hb5
    simp only at hr4 hr5 hc4 hc5
    have hr45 := reads_below (reads_alloc hr4) hb5
    go_wp2_with fail
    refine (ack_any _ _ _ _ _ yz A5 yz.length c5' _ (reads_alloc hr5) (by omega) mY hc5).mono ?_
    rw [Q4.out]
    rintro e w6 ⟨A6, c6', rfl, hr6, hc6, _, hb6⟩
    obtain ⟨c6, f6⟩ := bcell hb6
    have y6 := hb6.size
    try simp at y6
    have z0_0_6 : w.heap.size < w6.heap.size := by omega
    have zz0_0_6 : w.heap.size < w5.heap.size + 1 := by omega
    have z3_0_6 : w3.heap.size < w6.heap.size := by omega
    have zz3_0_6 : w3.heap.size < w5.heap.size + 1 := by omega
    have z4_0_6 : w4.heap.size < w6.heap.size := by omega
    have zz4_0_6 : w4.heap.size < w5.heap.size + 1 := by omega
    have z5_0_6 : w5.heap.size < w6.heap.size := by omega
    have k6 : Below w.heap.size w w6 := next_below (by go_grown) hb6
    simp only at hr6 hc6
    have hr46 := reads_below (reads_alloc hr45) hb6
    have hr56 := reads_below (reads_alloc hr5) hb6
    go_wp2_with fail
    refine (like_same _ _ _ yz A4 A5 yz.length c4' c5' _ (reads_alloc hr46) (reads_alloc hr56) (by omega)).mono ?_
    rintro e w7 ⟨rfl, hb7⟩
    obtain ⟨c7, f7⟩ := bcell hb7
    have y7 := hb7.size
    try simp at y7
    have z0_0_7 : w.heap.size < w7.heap.size := by omega
    have zz0_0_7 : w.heap.size < w6.heap.size + 1 := by omega
    have z3_0_7 : w3.heap.size < w7.heap.size := by omega
    have zz3_0_7 : w3.heap.size < w6.heap.size + 1 := by omega
    have z4_0_7 : w4.heap.size < w7.heap.size := by omega
    have zz4_0_7 : w4.heap.size < w6.heap.size + 1 := by omega
    have z5_0_7 : w5.heap.size < w7.heap.size := by omega
    have zz5_0_7 : w5.heap.size < w6.heap.size + 1 := by omega
    have z6_0_7 : w6.heap.size < w7.heap.size := by omega
    have k7 : Below w.heap.size w w7 := next_below (by go_grown) hb7
    have hr57 := reads_below (reads_alloc hr56) hb7
    have hr67 := reads_below (reads_alloc hr6) hb7
    go_wp2_with fail
    refine (like_same _ _ _ yz A5 A6 yz.length c5' c6' _ hr57 hr67 (by omega)).mono ?_
    rintro e w8 ⟨rfl, hb8⟩
    obtain ⟨c8, f8⟩ := bcell hb8
    have y8 := hb8.size
    try simp at y8
    have z0_0_8 : w.heap.size < w8.heap.size := by omega
    have z3_0_8 : w3.heap.size < w8.heap.size := by omega
    have z4_0_8 : w4.heap.size < w8.heap.size := by omega
    have z5_0_8 : w5.heap.size < w8.heap.size := by omega
    have z6_0_8 : w6.heap.size < w8.heap.size := by omega
    have k8 : Below w.heap.size w w8 := next_below (by go_grown) hb8
    have hfin : (((yz.length : Nat) : Int) == base + (zs.length : Int) - (base + (xa : Int))) = true := by
      have := LY.out
      rw [beq_iff_eq]
      omega
    go_wp2
    go_ret
    exact ⟨by simp, by go_grown⟩
    

set_option maxRecDepth 100000 in
set_option maxHeartbeats 2000000 in
theorem walkAcks (ep base timer a b : Int) (zs : List ByteArray) (A : Option Addr) (n c : Nat) (w : World) (hr : Reads w w.heap.size 1 A n (zs.map Value.string)) (hm : n ≤ 9223372036854775807) (hs : ∀ z ∈ zs, z.size ≤ maxLen) (hc : n ≤ c) :
    Calls Try.prog 4 #[.agg #[.int .i64 ep, .int .i64 base, .slice A n c, .int .i64 timer], .int .i64 a, .int .i64 b] w fun e w' => e = .returned (.bool true) ∧ Below w.heap.size w w' := by
  cases hR : rightB ⟨ep, base, zs, timer⟩
  · have hr1 : ∀ o, Reads (w.alloc o) (w.alloc o).heap.size 1 A n (zs.map Value.string) := fun o => reads_alloc hr
    cases hd20 : decide ((20 : Int) < (n : Int))
    · go_enter Try.func4, Try.ntmps4
      go_wp2_with fail
      refine (right_any ep base timer zs A n c _ (hr1 _) hm hs).mono ?_
      rw [hR]
      rintro e w1 ⟨rfl, hb1⟩
      have k1 : Below w.heap.size w w1 := next_below (by go_grown) hb1
      go_wp2_with fail
      refine (alive_any _).mono ?_
      rintro e w2 ⟨rfl, hb2⟩
      go_wp2
      go_ret
      exact ⟨rfl, k1.trans (hb2.mono k1.size)⟩
    · go_enter Try.func4, Try.ntmps4
      go_wp2_with fail
      refine (alive_any _).mono ?_
      rintro e w2 ⟨rfl, hb2⟩
      go_wp2
      go_ret
      exact ⟨rfl, next_below (by go_grown) hb2⟩
  · exact walkAcks1 ep base timer a b zs A n c w hr hm hs hc hR
end Go.Proofs.Ytplodggiifachaa
