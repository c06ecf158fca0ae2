/- Walks of Owners, of package lease and of the reference, and of the comparison of rows of numbers. -/
import Derived.Test.YtinccckpohaoiaaLseP
namespace Go.Proofs.Ytinccckpohaoiaa
open Go.RowKit
set_option linter.unusedVariables false
set_option linter.unusedSimpArgs false

theorem infoInt : (Try.prog.info? 3).map (fun i => (i.zero, i.size, i.bytes)) = some (some (.int .i64 0), 1, 8) := by kernel_rfl
/-- Who owns groups at a time. -/
def ownL (now : Int) (ls : List Lse) : List Int := ls.map fun l => if countsB now l then l.own else 0
def ownersZ (ls : List Lse) (last now : Int) : List Int := if rightT ls last then ownL now ls else []
theorem ownL_succ {now : Int} {ls : List Lse} {k : Nat} (h : k < ls.length) : ownL now (ls.take (k + 1)) = ownL now (ls.take k) ++ [if countsB now ls[k] then ls[k].own else 0] := by
  unfold ownL
  rw [List.take_succ_eq_append_getElem h, List.map_append]
  rfl
theorem one_ints (l : List Int) : ∀ u ∈ l.map (Value.int .i64), u.oneCell' = true := by
  intro u hu
  obtain ⟨b, _, rfl⟩ := List.mem_map.1 hu
  rfl

theorem own_below {w w' : World} {base : Nat} {e : TypeId} {size : Nat} {v : Value} {n : Nat} {xs : List Value} (h : w.ownsRow base e size v n xs) (hb : Below w.heap.size w w') : w'.ownsRow base e size v n xs := by
  obtain ⟨h1, h2⟩ := h
  refine ⟨h1, ?_⟩
  rcases h2 with h2 | ⟨g, cap, cur, hv, hg, hh, r⟩
  · exact .inl h2
  · exact .inr ⟨g, cap, cur, hv, hg, (hb.block g (Array.getElem?_eq_some_iff.1 hh).1).trans hh, r⟩
theorem own_far {w : World} {base : Nat} {e : TypeId} {size : Nat} {v : Value} {n : Nat} {xs : List Value} (h : w.ownsRow base e size v n xs) {p : Addr} (hp : ∀ g, v.ownBlock = some g → p.block ≠ g) (u : Value) : (w.setCell p u).ownsRow base e size v n xs :=
  h.kept (only_setCell (World.grownBy.refl w (some p.block)) (.inl rfl) u) (.inr fun e => hp _ e rfl)

/-- What a call leaves that returns a row of numbers in memory of its own. -/
def IntsPost (n : Nat) (zs : List Int) (w : World) (e : Ending) (w' : World) : Prop := ∃ A c, e = .returned (.slice A n c) ∧ w'.ownsRow w.heap.size 3 1 (.slice A n c) n (zs.map (Value.int .i64)) ∧ Below w.heap.size w w'

set_option maxHeartbeats 4000000 in
theorem owners_ok (A : Option Addr) (n c : Nat) (last now : Int) (ls : List Lse) (w : World) (hr : Reads w w.heap.size 3 A n (flat ls)) (hm : n ≤ 9223372036854775807) (hc : n ≤ c) (HR : Hid (rightT ls last = true)) (h32 : n ≤ 32) :
    Calls Try.prog 16 #[.agg #[.slice A n c, .int .i64 last], .int .i64 now] w (IntsPost n (ownL now ls) w) := by
  have HL := Lib.hid (lse_len hr)
  obtain ⟨i0, hi, hz0, hz1, hz2⟩ := info_parts infoInt
  go_enter Try.func16, Try.ntmps16
  go_wp2_with fail
  refine (right_any A n c last ls _ (reads_alloc hr) hm hc).mono ?_
  rw [HR.out]
  rintro e w1 ⟨rfl, hb1⟩
  obtain ⟨c1, f1⟩ := bcell hb1
  have y1 := hb1.size
  simp at y1
  have z1 : w.heap.size < w1.heap.size := by omega
  have k1 : Below w.heap.size w w1 := next_below (by go_grown) hb1
  go_wp2_with (go_at_call 30; refine (leaseAt_any _ _).mono ?_; rintro e w' ⟨rfl, rfl⟩)
  clear c1 f1 hb1
  go_loopw [6, 18] (fun o i wr => ∃ k : Nat, k ≤ n ∧ i = .int .i64 k ∧ Below w.heap.size w wr ∧ w.heap.size + 1 ≤ wr.heap.size ∧ wr.ownsRow w.heap.size 3 1 o k ((ownL now (ls.take k)).map (Value.int .i64))) (fun _ i _ => n - (intOf i).toNat)
  case atStart => exact ⟨0, Nat.zero_le _, rfl, k1, by omega, World.ownsRow_nil _ _ _ _⟩
  case round =>
    obtain ⟨k, hk, rfl, hB, hsz, hown⟩ := hrel
    by_cases hlt : k < n
    · obtain ⟨ad, hl, rfl, hbk, d0, d1, d2⟩ := lse_at (hr.below hB) hlt
      have HT := Lib.hid (ownL_succ (now := now) hl)
      generalize ls[k] = x at *
      obtain ⟨ow, tk, ti⟩ := x
      simp only at d0 d1 d2
      obtain ⟨q, hq⟩ : ∃ q, countsB now ⟨ow, tk, ti⟩ = q := ⟨_, rfl⟩
      have HQ := Lib.hid (show (!(ow == 0) && decide (clampZ now < ti)) = q from hq)
      have HQ' := Lib.hid hq
      clear hq
      cases q
      · go_wp2_with fail
        refine (counts_any (clampZ now) ow tk ti _).mono ?_
        rw [HQ.out]
        rintro e w2 ⟨rfl, hb2⟩
        have hown2 := own_below (own_alloc hown (.cells #[.int .i64 ow, .int .i64 tk, .int .i64 ti] 40)) hb2
        have hs2 := hb2.size
        simp at hs2
        have k2 := (hB.alloc hB.size (.cells #[.int .i64 ow, .int .i64 tk, .int .i64 ti] 40)).trans (hb2.mono (by simp; omega))
        have bL := (Blk.new wr 40 #[.int .i64 ow, .int .i64 tk, .int .i64 ti]).below hb2 (by simp)
        have l0 : w2.cell? ⟨wr.heap.size, 0, none⟩ = some (.int .i64 ow) := bL.cell 0
        have fL := bL.frozen
        have lL := bL.lt
        have hown3 := own_far hown2 (p := ⟨wr.heap.size, 0, none⟩) (fun g hg => by have := (hown.lt g hg).2; simp only; omega) (.int .i64 0)
        have k3 := k2.setCell (p := ⟨wr.heap.size, 0, none⟩) (show w.heap.size ≤ wr.heap.size by omega) (.int .i64 0)
        go_wp2_with (at_builtin; refine wpList_append_any _ rfl (.tmp 27) (.tmp 30) 32 rfl w.heap.size 3 i0 _ 1 8 Try.underlying32 hi hz0 hz1 hz2 rfl (by decide) _ _ _ rfl (own_alloc hown3 _) (w2.heap.size + 1) (some ⟨w2.heap.size, 0, none⟩) 1 1 [.int .i64 0] rfl ⟨rfl, fun _ => ⟨_, rfl, by simp, fun j u hu => by cases j <;> simp_all [go_sem]⟩⟩ (by simp [Value.oneCell']) (by unfold maxLen; omega) (by omega) (by simp; omega) ?_; intro v' w3 hown' hgrow hnew; have hgs := hgrow.size)
        simp at hgs
        go_roundw
        case rel =>
          refine ⟨k + 1, by omega, by go_num, (k3.alloc (by (try simp); omega) _).grown hgrow (by (try simp); omega) (fun q hq => (hown3.lt q hq).1), by omega, ?_⟩
          rw [HT.out, HQ'.out, List.map_append]
          exact hown'
        case measure => simp [intOf]; omega
      · go_wp2_with fail
        refine (counts_any (clampZ now) ow tk ti _).mono ?_
        rw [HQ.out]
        rintro e w2 ⟨rfl, hb2⟩
        have hown2 := own_below (own_alloc hown (.cells #[.int .i64 ow, .int .i64 tk, .int .i64 ti] 40)) hb2
        have hs2 := hb2.size
        simp at hs2
        have k2 := (hB.alloc hB.size (.cells #[.int .i64 ow, .int .i64 tk, .int .i64 ti] 40)).trans (hb2.mono (by simp; omega))
        have bL := (Blk.new wr 40 #[.int .i64 ow, .int .i64 tk, .int .i64 ti]).below hb2 (by simp)
        have l0 : w2.cell? ⟨wr.heap.size, 0, none⟩ = some (.int .i64 ow) := bL.cell 0
        have fL := bL.frozen
        have lL := bL.lt
        go_wp2_with (at_builtin; refine wpList_append_any _ rfl (.tmp 27) (.tmp 30) 32 rfl w.heap.size 3 i0 _ 1 8 Try.underlying32 hi hz0 hz1 hz2 rfl (by decide) _ _ _ rfl (own_alloc hown2 _) (w2.heap.size + 1) (some ⟨w2.heap.size, 0, none⟩) 1 1 [.int .i64 ow] rfl ⟨rfl, fun _ => ⟨_, rfl, by simp, fun j u hu => by cases j <;> simp_all [go_sem]⟩⟩ (by simp [Value.oneCell']) (by unfold maxLen; omega) (by omega) (by simp; omega) ?_; intro v' w3 hown' hgrow hnew; have hgs := hgrow.size)
        simp at hgs
        go_roundw
        case rel =>
          refine ⟨k + 1, by omega, by go_num, (k2.alloc (by (try simp); omega) _).grown hgrow (by (try simp); omega) (fun q hq => (hown2.lt q hq).1), by omega, ?_⟩
          rw [HT.out, HQ'.out, List.map_append]
          exact hown'
        case measure => simp [intOf]; omega
    · obtain rfl : k = n := by omega
      rw [List.take_of_length_le (by have := HL.out; omega)] at hown
      go_wp2
      go_ret
      obtain ⟨A2, c2, rfl⟩ := own_form hown
      exact ⟨_, _, rfl, hown, hB⟩

set_option maxHeartbeats 1000000 in
theorem owners_any (A : Option Addr) (n c : Nat) (last now : Int) (ls : List Lse) (w : World) (hr : Reads w w.heap.size 3 A n (flat ls)) (hm : n ≤ 9223372036854775807) (hc : n ≤ c) {zs : List Int} {m : Nat} (hz : ownersZ ls last now = zs) (hzm : zs.length = m) :
    Calls Try.prog 16 #[.agg #[.slice A n c, .int .i64 last], .int .i64 now] w (IntsPost m zs w) := by
  cases hR : rightT ls last
  · obtain rfl : zs = [] := by rw [← hz]; unfold ownersZ; rw [hR]; rfl
    obtain rfl : m = 0 := by simpa using hzm.symm
    have HR := Lib.hid hR
    clear hR hz hzm
    go_enter Try.func16, Try.ntmps16
    go_wp2_with fail
    refine (right_any A n c last ls _ (reads_alloc hr) hm hc).mono ?_
    rw [HR.out]
    rintro e w1 ⟨rfl, hb1⟩
    have k1 : Below w.heap.size w w1 := next_below (by go_grown) hb1
    go_wp2
    go_ret
    exact ⟨_, _, rfl, World.ownsRow_nil _ _ _ _, k1⟩
  · have h32 := (rightT_iff.1 hR).1.2
    have hl := lse_len hr
    obtain rfl : zs = ownL now ls := by rw [← hz]; unfold ownersZ; rw [hR]; rfl
    obtain rfl : m = n := by rw [← hzm]; unfold ownL; simp [hl]
    exact owners_ok A m c last now ls w hr hm hc (Lib.hid hR) (by omega)

set_option maxHeartbeats 4000000 in
theorem refOwners_any (A : Option Addr) (n c : Nat) (last now : Int) (ls : List Lse) (w : World) (hr : Reads w w.heap.size 3 A n (flat ls)) (hm : n ≤ 9223372036854775807) (hc : n ≤ c) {zs : List Int} {m : Nat} (hz : ownersZ ls last now = zs) (hzm : zs.length = m) :
    Calls Try.prog 17 #[.agg #[.slice A n c, .int .i64 last], .int .i64 now] w (IntsPost m zs w) := by
  obtain ⟨i0, hi, hz0, hz1, hz2⟩ := info_parts infoInt
  have hE : ((w.alloc (.cells #[.slice A n c, .int .i64 last] 24)).alloc (.cells #[] 3)).ownsRow w.heap.size 3 1 (.slice (some ⟨w.heap.size + 1, 0, none⟩) 0 0) 0 [] := by
    simpa using own_mono (World.ownsRow_made (base := w.heap.size + 1) (e := 3) (size := 1) (w.alloc (.cells #[.slice A n c, .int .i64 last] 24)) #[] 0 (by simp) (by unfold maxLen; omega) rfl) (Nat.le_succ w.heap.size)
  cases hR : rightT ls last
  · obtain rfl : zs = [] := by rw [← hz]; unfold ownersZ; rw [hR]; rfl
    obtain rfl : m = 0 := by simpa using hzm.symm
    have HR := Lib.hid hR
    clear hR hz hzm
    go_enter Try.func17, Try.ntmps17
    go_wp2_with fail
    refine (refRight_any A n c last ls _ (reads_alloc (reads_alloc hr)) hm hc).mono ?_
    rw [HR.out]
    rintro e w1 ⟨rfl, hb1⟩
    have k1 : Below w.heap.size w w1 := next_below (by go_grown) hb1
    have hE1 := own_below hE hb1
    go_wp2
    go_ret
    exact ⟨_, _, rfl, hE1, k1⟩
  have h32 := (rightT_iff.1 hR).1.2
  have hl := lse_len hr
  obtain rfl : zs = ownL now ls := by rw [← hz]; unfold ownersZ; rw [hR]; rfl
  obtain rfl : m = n := by rw [← hzm]; unfold ownL; simp [hl]
  have HL := Lib.hid hl
  have HR := Lib.hid hR
  have HY : Hid (rightT ls last = true) := HR
  have hm32 : m ≤ 32 := by omega
  clear hR hz hzm hl h32
  go_enter Try.func17, Try.ntmps17
  go_wp2_with fail
  refine (refRight_any A m c last ls _ (reads_alloc (reads_alloc hr)) hm hc).mono ?_
  rw [HR.out]
  rintro e w1 ⟨rfl, hb1⟩
  obtain ⟨c1, f1⟩ := bcell hb1
  have y1 := hb1.size
  simp at y1
  have z1 : w.heap.size < w1.heap.size := by omega
  have k1 : Below w.heap.size w w1 := next_below (by go_grown) hb1
  have hE1 := own_below hE hb1
  go_wp2_with fail
  clear c1 f1 hb1
  go_loopw [5, 16] (fun o i wr => ∃ k : Nat, k ≤ m ∧ i = .int .i64 k ∧ Below w.heap.size w wr ∧ w.heap.size + 1 ≤ wr.heap.size ∧ wr.ownsRow w.heap.size 3 1 o k ((ownL now (ls.take k)).map (Value.int .i64))) (fun _ i _ => m - (intOf i).toNat)
  case atStart => exact ⟨0, Nat.zero_le _, rfl, k1, by omega, hE1⟩
  case round =>
    obtain ⟨k, hk, rfl, hB, hsz, hown⟩ := hrel
    by_cases hlt : k < m
    · obtain ⟨ad, hl, rfl, hbk, d0, d1, d2⟩ := lse_at (hr.below hB) hlt
      have HT := Lib.hid (ownL_succ (now := now) hl)
      have hcr := fun (ow tk ti : Int) (h : ls[k] = ⟨ow, tk, ti⟩) => counts_ref (now := now) HY.out h
      obtain ⟨⟨ow, tk, ti⟩, hx⟩ : ∃ x, ls[k] = x := ⟨_, rfl⟩
      have HCR := Lib.hid (hcr ow tk ti hx)
      rw [hx] at d0 d1 d2 HT
      simp only at d0 d1 d2
      clear hcr hx
      obtain ⟨q, hq⟩ : ∃ q, countsB now ⟨ow, tk, ti⟩ = q := ⟨_, rfl⟩
      have HQ := Lib.hid (HCR.out.trans (show (!(ow == 0) && decide (clampZ now < ti)) = q from hq))
      have HQ' := Lib.hid hq
      clear hq HCR
      cases q
      · go_wp2_with fail
        refine (refCounts_any now ow tk ti _).mono ?_
        rw [HQ.out]
        rintro e w2 ⟨rfl, hb2⟩
        have hown2 := own_below (own_alloc hown (.cells #[.int .i64 ow, .int .i64 tk, .int .i64 ti] 40)) hb2
        have hs2 := hb2.size
        simp at hs2
        have k2 := (hB.alloc hB.size (.cells #[.int .i64 ow, .int .i64 tk, .int .i64 ti] 40)).trans (hb2.mono (by simp; omega))
        have bL := (Blk.new wr 40 #[.int .i64 ow, .int .i64 tk, .int .i64 ti]).below hb2 (by simp)
        have l0 : w2.cell? ⟨wr.heap.size, 0, none⟩ = some (.int .i64 ow) := bL.cell 0
        have lL := bL.lt
        go_wp2_with (at_builtin; refine wpList_append_any _ rfl (.tmp 28) (.tmp 29) 32 rfl w.heap.size 3 i0 _ 1 8 Try.underlying32 hi hz0 hz1 hz2 rfl (by decide) _ _ _ rfl (own_alloc hown2 _) (w2.heap.size + 1) (some ⟨w2.heap.size, 0, none⟩) 1 1 [.int .i64 0] rfl ⟨rfl, fun _ => ⟨_, rfl, by simp, fun j u hu => by cases j <;> simp_all [go_sem]⟩⟩ (by simp [Value.oneCell']) (by unfold maxLen; omega) (by omega) (by simp; omega) ?_; intro v' w3 hown' hgrow hnew; have hgs := hgrow.size)
        simp at hgs
        go_roundw
        case rel =>
          refine ⟨k + 1, by omega, by go_num, (k2.alloc (by (try simp); omega) _).grown hgrow (by (try simp); omega) (fun q hq => (hown2.lt q hq).1), by omega, ?_⟩
          rw [HT.out, HQ'.out, List.map_append]
          exact hown'
        case measure => simp [intOf]; omega
      · go_wp2_with fail
        refine (refCounts_any now ow tk ti _).mono ?_
        rw [HQ.out]
        rintro e w2 ⟨rfl, hb2⟩
        have hown2 := own_below (own_alloc hown (.cells #[.int .i64 ow, .int .i64 tk, .int .i64 ti] 40)) hb2
        have hs2 := hb2.size
        simp at hs2
        have k2 := (hB.alloc hB.size (.cells #[.int .i64 ow, .int .i64 tk, .int .i64 ti] 40)).trans (hb2.mono (by simp; omega))
        have bL := (Blk.new wr 40 #[.int .i64 ow, .int .i64 tk, .int .i64 ti]).below hb2 (by simp)
        have l0 : w2.cell? ⟨wr.heap.size, 0, none⟩ = some (.int .i64 ow) := bL.cell 0
        have lL := bL.lt
        go_wp2_with (at_builtin; refine wpList_append_any _ rfl (.tmp 23) (.tmp 26) 32 rfl w.heap.size 3 i0 _ 1 8 Try.underlying32 hi hz0 hz1 hz2 rfl (by decide) _ _ _ rfl (own_alloc hown2 _) (w2.heap.size + 1) (some ⟨w2.heap.size, 0, none⟩) 1 1 [.int .i64 ow] rfl ⟨rfl, fun _ => ⟨_, rfl, by simp, fun j u hu => by cases j <;> simp_all [go_sem]⟩⟩ (by simp [Value.oneCell']) (by unfold maxLen; omega) (by omega) (by simp; omega) ?_; intro v' w3 hown' hgrow hnew; have hgs := hgrow.size)
        simp at hgs
        go_roundw
        case rel =>
          refine ⟨k + 1, by omega, by go_num, (k2.alloc (by (try simp); omega) _).grown hgrow (by (try simp); omega) (fun q hq => (hown2.lt q hq).1), by omega, ?_⟩
          rw [HT.out, HQ'.out, List.map_append]
          exact hown'
        case measure => simp [intOf]; omega
    · obtain rfl : k = m := by omega
      rw [List.take_of_length_le (by have := HL.out; omega)] at hown
      go_wp2
      go_ret
      obtain ⟨A2, c2, rfl⟩ := own_form hown
      exact ⟨_, _, rfl, hown, hB⟩

/-- An element of a slice of numbers that reads as a list. -/
theorem ints_at {w : World} {B n : Nat} {A : Option Addr} {zs : List Int} (h : Reads w B 1 A n (zs.map (Value.int .i64))) {k : Nat} (hk : k < n) :
    ∃ (ad : Addr) (hl : k < zs.length), A = some ad ∧ w.cell? (ad.add k) = some (.int .i64 zs[k]) := by
  obtain ⟨ad, u, rfl, _, hx, hc⟩ := h.at_ hk
  have hl : k < zs.length := by have := h.1; simp at this; omega
  rw [List.getElem?_map, List.getElem?_eq_getElem hl] at hx
  simp at hx
  exact ⟨ad, hl, rfl, by rw [hc, hx]⟩

set_option maxHeartbeats 1000000 in
theorem ints_same (zs : List Int) (A B : Option Addr) (n c d : Nat) (w : World) (ha : Reads w w.heap.size 1 A n (zs.map (Value.int .i64))) (hb : Reads w w.heap.size 1 B n (zs.map (Value.int .i64))) (hm : n ≤ 9223372036854775807) :
    Calls Try.prog 15 #[.slice A n c, .slice B n d] w fun e w' => e = .returned (.bool true) ∧ Below w.heap.size w w' := by
  go_enter Try.func15, Try.ntmps15
  go_wp2
  go_loopw [13] (fun i wr => ∃ k : Nat, k ≤ n ∧ i = .int .i64 k ∧ Below w.heap.size w wr) (fun i _ => n - (intOf i).toNat)
  case atStart => exact ⟨0, Nat.zero_le _, rfl, Below.refl _ _⟩
  case round =>
    obtain ⟨k, hk, rfl, hB⟩ := hrel
    by_cases hlt : k < n
    · obtain ⟨ad, hl, rfl, d0⟩ := ints_at (ha.below hB) hlt
      obtain ⟨bd, hl', rfl, e0⟩ := ints_at (hb.below hB) hlt
      go_wp2_with fail
      go_quiet (fail)
      go_wp2
      go_roundw
      case rel => exact ⟨k + 1, by omega, by go_num, below_drewN hB nq⟩
      case measure => simp [intOf]; omega
    · go_wp2
      go_ret
      exact ⟨rfl, hB⟩
end Go.Proofs.Ytinccckpohaoiaa
