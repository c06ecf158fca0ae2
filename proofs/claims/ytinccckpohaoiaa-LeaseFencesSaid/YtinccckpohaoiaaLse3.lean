/- Walks of the smaller functions of package lease and of the reference: at, counts, has, Fenced, Clone. -/
import Derived.Test.YtinccckpohaoiaaLse2
import Derived.Test.YtinccckpohaoiaaTick
namespace Go.Proofs.Ytinccckpohaoiaa
open Go.RowKit
set_option linter.unusedVariables false
set_option linter.unusedSimpArgs false

theorem reads_alloc {w : World} {size n : Nat} {A : Option Addr} {xs : List Value} {o : Obj} (h : Reads w w.heap.size size A n xs) : Reads (w.alloc o) (w.alloc o).heap.size size A n xs := (h.alloc (Nat.le_refl _) o).more (by simp)
theorem reads_below {w w' : World} {size n : Nat} {A : Option Addr} {xs : List Value} (h : Reads w w.heap.size size A n xs) (hb : Below w.heap.size w w') : Reads w' w'.heap.size size A n xs := (h.below hb).more hb.size

set_option maxHeartbeats 400000 in
theorem leaseAt_any (t : Int) (w : World) : Calls Try.prog 30 #[.int .i64 t] w fun e w' => e = .returned (.int .i64 (clampZ t)) ∧ w = w' := by
  go_enter Try.func30, Try.ntmps30
  go_wp2_with (go_at_call 40; refine (clamp_any _ _).mono ?_; rintro e w' ⟨rfl, rfl⟩)
  go_ret
  exact ⟨rfl, rfl⟩

/-- Does a lease count at a time? -/
def countsB (now : Int) (l : Lse) : Bool := !(l.own == 0) && decide (clampZ now < l.til)
set_option maxHeartbeats 400000 in
theorem counts_any (c a b t : Int) (w : World) : Calls Try.prog 31 #[.int .i64 c, .agg #[.int .i64 a, .int .i64 b, .int .i64 t]] w fun e w' => e = .returned (.bool (!(a == 0) && decide (c < t))) ∧ Below w.heap.size w w' := by
  cases h : (a == 0)
  · have h1 : (a != 0) = true := by simpa using h
    go_enter Try.func31, Try.ntmps31
    go_wp2
    go_ret
    exact ⟨ret_bool (by simp), by go_grown⟩
  · have h1 : (a != 0) = false := by simpa using h
    go_enter Try.func31, Try.ntmps31
    go_wp2
    go_ret
    exact ⟨ret_bool (by simp), by go_grown⟩
set_option maxHeartbeats 400000 in
theorem refCounts_any (now a b t : Int) (w : World) : Calls Try.prog 21 #[.agg #[.int .i64 a, .int .i64 b, .int .i64 t], .int .i64 now] w fun e w' => e = .returned (.bool (decide (0 < a) && decide (clampZ now < t))) ∧ Below w.heap.size w w' := by
  by_cases h : 0 < a
  · have h1 : decide (0 < a) = true := by simpa using h
    go_enter Try.func21, Try.ntmps21
    go_wp2_with fail
    go_quiet ((go_at_call 38; refine quiet_left (refClamp_any _ _)))
    go_wp2
    go_ret
    exact ⟨ret_bool (by simp [h]), below_drewN (by go_grown) nq⟩
  · have h1 : decide (0 < a) = false := by simpa using h
    go_enter Try.func21, Try.ntmps21
    go_wp2_with fail
    go_quiet (fail)
    go_wp2
    go_ret
    exact ⟨ret_bool (by simp; omega), below_drewN (by go_grown) nq⟩

/-- A table that may be, and a group that it has? -/
def hasT (ls : List Lse) (last g : Int) : Bool := rightT ls last && (decide (0 ≤ g) && decide (g < ls.length))
set_option maxHeartbeats 1000000 in
theorem has_any (A : Option Addr) (n c : Nat) (last g : Int) (ls : List Lse) (w : World) (hr : Reads w w.heap.size 3 A n (flat ls)) (hm : n ≤ 9223372036854775807) (hc : n ≤ c) :
    Calls Try.prog 32 #[.agg #[.slice A n c, .int .i64 last], .int .i64 g] w fun e w' => e = .returned (.bool (hasT ls last g)) ∧ Below w.heap.size w w' := by
  have hlen := lse_len hr
  unfold hasT
  rw [hlen]
  obtain ⟨r, hR⟩ : ∃ r, rightT ls last = r := ⟨_, rfl⟩
  have HR := Lib.hid hR
  rw [hR]
  clear hlen hR
  cases r
  · go_enter Try.func32, Try.ntmps32
    go_wp2_with (go_at_call 13; refine (right_any A n c last ls _ (reads_alloc hr) hm hc).mono ?_; rw [HR.out]; rintro e w1 ⟨rfl, hb1⟩)
    go_ret
    exact ⟨ret_bool (by simp), next_below (by go_grown) hb1⟩
  · by_cases h0 : 0 ≤ g
    · go_enter Try.func32, Try.ntmps32
      go_wp2_with fail
      refine (right_any A n c last ls _ (reads_alloc hr) hm hc).mono ?_
      rw [HR.out]
      rintro e w1 ⟨rfl, hb1⟩
      obtain ⟨c1, f1⟩ := bcell hb1
      have y1 := hb1.size
      simp at y1
      have z1 : w.heap.size < w1.heap.size := by omega
      go_wp2
      go_ret
      exact ⟨ret_bool (by simp [h0]), next_below (by go_grown) hb1⟩
    · go_enter Try.func32, Try.ntmps32
      go_wp2_with (go_at_call 13; refine (right_any A n c last ls _ (reads_alloc hr) hm hc).mono ?_; rw [HR.out]; rintro e w1 ⟨rfl, hb1⟩)
      go_ret
      exact ⟨ret_bool (by simp; omega), next_below (by go_grown) hb1⟩
set_option maxHeartbeats 1000000 in
theorem refHas_any (A : Option Addr) (n c : Nat) (last g : Int) (ls : List Lse) (w : World) (hr : Reads w w.heap.size 3 A n (flat ls)) (hm : n ≤ 9223372036854775807) (hc : n ≤ c) :
    Calls Try.prog 35 #[.agg #[.slice A n c, .int .i64 last], .int .i64 g] w fun e w' => e = .returned (.bool (hasT ls last g)) ∧ Below w.heap.size w w' := by
  have hlen := lse_len hr
  unfold hasT
  rw [hlen]
  obtain ⟨r, hR⟩ : ∃ r, rightT ls last = r := ⟨_, rfl⟩
  have HR := Lib.hid hR
  rw [hR]
  clear hlen hR
  cases r
  · go_enter Try.func35, Try.ntmps35
    go_wp2_with (go_at_call 14; refine (refRight_any A n c last ls _ (reads_alloc hr) hm hc).mono ?_; rw [HR.out]; rintro e w1 ⟨rfl, hb1⟩)
    go_ret
    exact ⟨ret_bool (by simp), next_below (by go_grown) hb1⟩
  · go_enter Try.func35, Try.ntmps35
    go_wp2_with fail
    refine (refRight_any A n c last ls _ (reads_alloc hr) hm hc).mono ?_
    rw [HR.out]
    rintro e w1 ⟨rfl, hb1⟩
    obtain ⟨c1, f1⟩ := bcell hb1
    have y1 := hb1.size
    simp at y1
    have z1 : w.heap.size < w1.heap.size := by omega
    go_wp2_with (go_at_call 29; refine (in_any _ _ _ _).mono ?_; rintro e w' ⟨rfl, rfl⟩)
    go_ret
    refine ⟨ret_bool ?_, next_below (by go_grown) hb1⟩
    unfold withinB
    rw [Bool.eq_iff_iff]
    simp
    omega

theorem own_form {w : World} {b : Nat} {e : TypeId} {size n : Nat} {v : Value} {xs : List Value} (h : w.ownsRow b e size v n xs) : ∃ A c, v = .slice A n c := by
  rcases h.2 with ⟨rfl, rfl⟩ | ⟨g', cap, cur, rfl, _⟩
  · exact ⟨_, _, rfl⟩
  · exact ⟨_, _, rfl⟩
theorem own_pos {w : World} {b : Nat} {e : TypeId} {size n : Nat} {v : Value} {xs : List Value} (h : w.ownsRow b e size v n xs) (h0 : 0 < n) : ∃ g cap cur, v = .slice (some ⟨g, 0, none⟩) n cap ∧ b ≤ g ∧ n ≤ cap ∧ Blk w g e cur := by
  rcases h.2 with ⟨rfl, h1⟩ | ⟨g', cap, cur, rfl, hg, hh, hcap, _⟩
  · omega
  · exact ⟨_, _, _, rfl, hg, hcap, hh⟩
theorem own_cap {w : World} {base : Nat} {e : TypeId} {size : Nat} {A : Option Addr} {n c : Nat} {xs : List Value} (h : w.ownsRow base e size (.slice A n c) n xs) : n ≤ c := by
  rcases h.2 with ⟨h1, h2⟩ | ⟨g, cap, cur, h1, _, _, h2, _⟩
  · injection h1 with _ e1 e2
    omega
  · injection h1 with _ e1 e2
    omega
theorem own_mono {w : World} {base base' : Nat} {e : TypeId} {size : Nat} {v : Value} {n : Nat} {xs : List Value} (h : w.ownsRow base e size v n xs) (hb : base' ≤ base) : w.ownsRow base' e size v n xs := by
  obtain ⟨h1, h2⟩ := h
  refine ⟨h1, ?_⟩
  rcases h2 with h2 | ⟨g, cap, cur, hv, hg, r⟩
  · exact .inl h2
  · exact .inr ⟨g, cap, cur, hv, by omega, r⟩

/-- What a call leaves that returns a row of leases in memory of its own. -/
def RowPost (ls : List Lse) (w : World) (e : Ending) (w' : World) : Prop := ∃ A c, e = .returned (.slice A ls.length c) ∧ w'.ownsRow w.heap.size 40 3 (.slice A ls.length c) ls.length (flat ls) ∧ Below w.heap.size w w'

set_option maxHeartbeats 1000000 in
theorem clone_any (A : Option Addr) (n c : Nat) (ls : List Lse) (w : World) (hr : Reads w w.heap.size 3 A n (flat ls)) (hm : n ≤ 1000) :
    Calls Try.prog 41 #[.slice A n c] w (RowPost ls w) := by
  have hlen := lse_len hr
  obtain ⟨i0, hi, hz0, hz1, hz2⟩ := info_parts infoLse
  unfold RowPost
  rw [hlen]
  rcases A with _ | ad
  · have h0 : n = 0 := by
      rcases Nat.eq_zero_or_pos n with h | h
      · exact h
      · obtain ⟨ad, h, _⟩ := hr.2 h
        cases h
    subst h0
    obtain rfl : ls = [] := List.eq_nil_of_length_eq_zero hlen
    have q22 := fun (w : World) (a : Option Addr) (n c n' c' : Nat) => Lib.run_eql_slice_nil w _ _ a n c n' c' Try.underlying22
    go_enter Try.func41, Try.ntmps41
    go_wp2
    go_ret
    exact ⟨_, _, rfl, World.ownsRow_nil _ _ _ _, Below.refl _ _⟩
  · have q22 := fun (w : World) (a : Option Addr) (n c n' c' : Nat) => Lib.run_eql_slice_nil w _ _ a n c n' c' Try.underlying22
    have h0 : (w.alloc (.cells #[] 40)).ownsRow w.heap.size 40 3 (.slice (some ⟨w.heap.size, 0, none⟩) 0 0) 0 [] := World.ownsRow_made w #[] 0 (Nat.le_refl _) (by unfold maxLen; omega) rfl
    go_enter Try.func41, Try.ntmps41
    go_wp2_with (at_builtin; refine wpList_append_any _ rfl (.tmp 5) (.tmp 6) 22 rfl w.heap.size 40 i0 _ 3 24 Try.underlying22 hi hz0 hz1 hz2 rfl (by decide) _ _ _ rfl h0 w.heap.size (some ad) n c (flat ls) rfl (hr.alloc (Nat.le_refl _) _) (flat_one ls) (by unfold maxLen; omega) (by omega) (by simp) ?_; intro v' w1 hown hgrow _)
    rw [Nat.zero_add] at hown
    obtain ⟨A', c', rfl⟩ := own_form hown
    go_wp2
    go_ret
    exact ⟨_, _, rfl, by simpa using hown, ((Below.refl _ w).alloc (Nat.le_refl _) _).grown hgrow (by simp) (fun k hk => (h0.lt k hk).1)⟩
end Go.Proofs.Ytinccckpohaoiaa
