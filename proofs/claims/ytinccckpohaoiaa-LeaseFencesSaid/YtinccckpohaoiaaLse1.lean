/- Walks of package lease's Right and of the reference's. -/
import Derived.Test.YtinccckpohaoiaaLse0
import Derived.Shelf.Abstract
namespace Go.Proofs.Ytinccckpohaoiaa
open Go.RowKit
set_option linter.unusedVariables false
set_option linter.unusedSimpArgs false

set_option maxHeartbeats 400000 in
theorem tokEq_any (a b c t : Int) (m : Nat) (w : World) (hml : m < w.heap.size) (hm : w.cell? ⟨m, 1, none⟩ = some (.int .i64 t)) :
    Calls Try.prog 28 #[.agg #[.int .i64 a, .int .i64 b, .int .i64 c], .pointer (some ⟨m, 0, none⟩)] w fun e w' => e = .returned (.bool (b == t)) ∧ Below w.heap.size w w' := by
  go_enter Try.func28, Try.ntmps28
  go_wp2
  go_ret
  exact ⟨rfl, by go_grown⟩

theorem hasB_take {t : Int} {ls : List Lse} {k : Nat} (h : k < ls.length) : hasB t (ls.take (k + 1)) = (hasB t (ls.take k) || ls[k].tok == t) := by
  unfold hasB; rw [List.take_succ_eq_append_getElem h, List.any_append]; simp
theorem hasB_of_take {t : Int} {ls : List Lse} {k : Nat} (h : hasB t (ls.take k) = true) : hasB t ls = true := by
  unfold hasB at *
  rw [List.any_eq_true] at *
  obtain ⟨x, hx, h⟩ := h
  exact ⟨x, List.mem_of_mem_take hx, h⟩

/-- The place of the first lease with that token, or -1. -/
def IdxPost (b : Bool) (w : World) (e : Ending) (w' : World) : Prop := ∃ i : Int, e = .returned (.int .i64 i) ∧ decide (0 ≤ i) = b ∧ Below w.heap.size w w'

set_option maxHeartbeats 1000000 in
theorem idx_any (A : Option Addr) (n c m : Nat) (t : Int) (ls : List Lse) (w : World) (hr : Reads w w.heap.size 3 A n (flat ls)) (hn : n ≤ 1000) (hml : m < w.heap.size) (hm : w.cell? ⟨m, 1, none⟩ = some (.int .i64 t)) :
    Calls Try.prog 39 #[.slice A n c, .func (.func 28) #[] #[.pointer (some ⟨m, 0, none⟩)]] w (IdxPost (hasB t ls) w) := by
  have hlen := lse_len hr
  have HL := Lib.hid hlen
  clear hlen
  go_enter Try.func39, Try.ntmps39
  go_wp2
  go_loopw [8] (fun i wr => ∃ k : Nat, k ≤ n ∧ i = .int .i64 k ∧ Below w.heap.size w wr ∧ Hid (hasB t (ls.take k) = false)) (fun i _ => n - (intOf i).toNat)
  case atStart => exact ⟨0, Nat.zero_le _, rfl, Below.refl _ _, Lib.hid rfl⟩
  case round =>
    obtain ⟨k, hk, rfl, hB, HB⟩ := hrel
    by_cases hlt : k < n
    · obtain ⟨ad, hl, rfl, hb, d0, d1, d2⟩ := lse_at (hr.below hB) hlt
      have hmm := hB.cell (p := ⟨m, 1, none⟩) hml
      rw [hm] at hmm
      have hlt2 : m < wr.heap.size := Nat.lt_of_lt_of_le hml hB.size
      have ht := hasB_take (t := t) hl
      rw [HB.out] at ht
      generalize ls[k].tok = tk at *
      generalize ls[k].own = ow at *
      generalize ls[k].til = ti at *
      cases hc : (tk == t)
      · have HT := Lib.hid (ht.trans (by simp [hc]) : hasB t (ls.take (k + 1)) = false)
        clear ht
        go_wp2_with (go_at_call 28; refine (tokEq_any _ _ _ t m _ hlt2 hmm).mono ?_; rw [hc]; rintro e w1 ⟨rfl, hb1⟩)
        go_roundw
        case rel => exact ⟨k + 1, by omega, by go_num, hB.trans (hb1.mono hB.size), HT⟩
        case measure => simp [intOf]; omega
      · have HT := Lib.hid (hasB_of_take (ht.trans (by simp [hc])) : hasB t ls = true)
        clear ht
        go_wp2_with (go_at_call 28; refine (tokEq_any _ _ _ t m _ hlt2 hmm).mono ?_; rw [hc]; rintro e w1 ⟨rfl, hb1⟩)
        go_ret
        exact ⟨_, rfl, by rw [HT.out]; simp, hB.trans (hb1.mono hB.size)⟩
    · go_wp2
      go_ret
      refine ⟨_, rfl, ?_, hB⟩
      have := HB.out
      rw [List.take_of_length_le (by have := HL.out; omega)] at this
      rw [this]; simp

set_option maxHeartbeats 400000 in
theorem contains_any (A : Option Addr) (n c m : Nat) (t : Int) (ls : List Lse) (w : World) (hr : Reads w w.heap.size 3 A n (flat ls)) (hn : n ≤ 1000) (hml : m < w.heap.size) (hm : w.cell? ⟨m, 1, none⟩ = some (.int .i64 t)) :
    Calls Try.prog 27 #[.slice A n c, .func (.func 28) #[] #[.pointer (some ⟨m, 0, none⟩)]] w fun e w' => e = .returned (.bool (hasB t ls)) ∧ Below w.heap.size w w' := by
  go_enter Try.func27, Try.ntmps27
  go_wp2_with (go_at_call 39; refine (idx_any _ _ _ m t _ _ hr hn hml hm).mono ?_; rintro e w' ⟨i, rfl, hi, hb⟩; have HI := Lib.hid hi; clear hi)
  go_ret
  exact ⟨ret_bool HI.out, hb⟩

theorem reads_take3 {w : World} {B n c k : Nat} {A : Option Addr} {ls : List Lse} (h : Reads w B 3 A n (flat ls)) (hk : k ≤ n) : Reads w B 3 A k (flat (ls.take k)) := by
  have hl := lse_len h
  refine ⟨by rw [flat_length, List.length_take]; omega, fun h0 => ?_⟩
  obtain ⟨ad, e, hb, hc⟩ := h.2 (by omega)
  refine ⟨ad, e, hb, fun j u hu => hc j u ?_⟩
  have hs : flat ls = flat (ls.take k) ++ flat (ls.drop k) := by rw [← flat_append, List.take_append_drop]
  have hj := (List.getElem?_eq_some_iff.1 hu).1
  rw [hs, List.getElem?_append_left hj]
  exact hu

set_option maxRecDepth 100000 in
set_option maxHeartbeats 2000000 in
theorem right_any (A : Option Addr) (n c : Nat) (last : Int) (ls : List Lse) (w : World) (hr : Reads w w.heap.size 3 A n (flat ls)) (hm : n ≤ 9223372036854775807) (hc : n ≤ c) :
    Calls Try.prog 13 #[.agg #[.slice A n c, .int .i64 last]] w fun e w' => e = .returned (.bool (rightT ls last)) ∧ Below w.heap.size w w' := by
  have hlen := lse_len hr
  by_cases h1 : n < 1
  · have hR : rightT ls last = false := by unfold rightT; simp; omega
    rw [hR]
    go_enter Try.func13, Try.ntmps13
    go_wp2
    go_ret
    exact ⟨rfl, by go_grown⟩
  by_cases h2 : 32 < n
  · have hR : rightT ls last = false := by unfold rightT; simp; omega
    rw [hR]
    go_enter Try.func13, Try.ntmps13
    go_wp2
    go_ret
    exact ⟨rfl, by go_grown⟩
  by_cases h3 : last < 0
  · have hR : rightT ls last = false := by unfold rightT; simp; omega
    rw [hR]
    go_enter Try.func13, Try.ntmps13
    go_wp2
    go_ret
    exact ⟨rfl, by go_grown⟩
  by_cases h4 : 1073741824 < last
  · have hR : rightT ls last = false := by unfold rightT; simp; omega
    rw [hR]
    go_enter Try.func13, Try.ntmps13
    go_wp2
    go_ret
    exact ⟨rfl, by go_grown⟩
  have hR : rightT ls last = goodTo last ls n := by unfold rightT; rw [hlen]; simp; omega
  have HL := Lib.hid hlen
  have HR := Lib.hid hR
  clear hlen hR
  go_enter Try.func13, Try.ntmps13
  go_wp2
  go_loopw [28] (fun i wr => ∃ k : Nat, k ≤ n ∧ i = .int .i64 k ∧ Below w.heap.size w wr ∧ Blk wr w.heap.size 24 #[.slice A n c, .int .i64 last] ∧ Hid (goodTo last ls k = true)) (fun i _ => n - (intOf i).toNat)
  case atStart => exact ⟨0, Nat.zero_le _, rfl, by go_grown, Blk.new _ _ _, Lib.hid rfl⟩
  case round =>
    obtain ⟨k, hk, rfl, hB, bT, HG⟩ := hrel
    have t0 := bT.cell 0
    have t1 := bT.cell 1
    have tl := bT.lt
    simp at t0 t1
    by_cases hlt : k < n
    · obtain ⟨ad, hl, rfl, hb, d0, d1, d2⟩ := lse_at (hr.below hB) hlt
      have hga : goodAt last ls k = (!badB last ls[k] && !(!(ls[k].tok == 0) && hasB ls[k].tok (ls.take k))) := goodAt_eq hl
      have hts := reads_take3 (c := c) (hr.below hB) (Nat.le_of_lt hlt)
      generalize ls[k] = x at *
      obtain ⟨ow, tk, ti⟩ := x
      simp only at d0 d1 d2 hga
      have hts2 : ∀ o, Reads (wr.alloc o) (wr.alloc o).heap.size 3 (some ad) k (flat (ls.take k)) := fun o => (hts.alloc hB.size o).more (by simp; omega)
      have hcl : ∀ a b c', (wr.alloc (.cells #[.int .i64 a, .int .i64 b, .int .i64 c'] 40)).cell? ⟨wr.heap.size, 1, none⟩ = some (.int .i64 b) := fun a b c' => by simp [(Blk.new wr 40 #[.int .i64 a, .int .i64 b, .int .i64 c']).cell 1]
      cases hbad : badB last ⟨ow, tk, ti⟩
      · have hg := badB_false.1 hbad
        simp only at hg
        obtain ⟨g1, g2, g3, g4, g5, g6, g7, g8⟩ := hg
        by_cases ht : tk = 0
        · subst ht
          have ho : ow = 0 := by omega
          subst ho
          have hti : ti = 0 := g7 rfl
          subst hti
          have HS := Lib.hid (by rw [goodTo_succ, HG.out, hga, hbad]; rfl : goodTo last ls (k + 1) = true)
          clear hga hbad g7 g8
          go_wp2
          go_roundw
          case rel => exact ⟨k + 1, by omega, by go_num, hB.alloc hB.size _, bT.alloc _, HS⟩
          case measure => simp [intOf]; omega
        · have ht' : (tk == 0) = false := by simpa using ht
          obtain ⟨q, hq⟩ : ∃ q, hasB tk (ls.take k) = q := ⟨_, rfl⟩
          have HQ := Lib.hid hq
          cases q
          · have HS := Lib.hid (by rw [goodTo_succ, HG.out, hga, hbad, hq]; simp : goodTo last ls (k + 1) = true)
            clear hga hbad hq
            have ht2 : (tk != 0) = true := by simpa using ht
            by_cases ho : ow = 0
            · subst ho
              have hti : ti = 0 := g7 rfl
              subst hti
              clear g7 g8
              go_wp2_with (go_at_call 27; refine (contains_any _ k c wr.heap.size tk (ls.take k) _ (hts2 _) (by omega) (by simp) (hcl _ _ _)).mono ?_; rw [HQ.out]; rintro e w1 ⟨rfl, hb1⟩)
              have kk : Below w.heap.size w w1 := (hB.alloc hB.size _).trans (hb1.mono (by simp; omega))
              go_roundw
              case rel => exact ⟨k + 1, by omega, by go_num, kk, (bT.alloc _).below hb1 (by simp; omega), HS⟩
              case measure => simp [intOf]; omega
            · clear g7 g8
              have ho1 : (ow == 0) = false := by simpa using ho
              have ho2 : (ow != 0) = true := by simpa using ho
              go_wp2_with (go_at_call 27; refine (contains_any _ k c wr.heap.size tk (ls.take k) _ (hts2 _) (by omega) (by simp) (hcl _ _ _)).mono ?_; rw [HQ.out]; rintro e w1 ⟨rfl, hb1⟩)
              have kk : Below w.heap.size w w1 := (hB.alloc hB.size _).trans (hb1.mono (by simp; omega))
              go_roundw
              case rel => exact ⟨k + 1, by omega, by go_num, kk, (bT.alloc _).below hb1 (by simp; omega), HS⟩
              case measure => simp [intOf]; omega
          · have hF : goodTo last ls n = false := goodTo_false hlt (by rw [hga, hbad, hq, ht']; rfl)
            have HF := Lib.hid hF
            clear hga hbad hF hq
            have ht2 : (tk != 0) = true := by simpa using ht
            by_cases ho : ow = 0
            · subst ho
              have hti : ti = 0 := g7 rfl
              subst hti
              clear g7 g8
              go_wp2_with (go_at_call 27; refine (contains_any _ k c wr.heap.size tk (ls.take k) _ (hts2 _) (by omega) (by simp) (hcl _ _ _)).mono ?_; rw [HQ.out]; rintro e w1 ⟨rfl, hb1⟩)
              go_ret
              exact ⟨ret_bool (by rw [HR.out, HF.out]), (hB.alloc hB.size _).trans (hb1.mono (by simp; omega))⟩
            · clear g7 g8
              have ho1 : (ow == 0) = false := by simpa using ho
              have ho2 : (ow != 0) = true := by simpa using ho
              go_wp2_with (go_at_call 27; refine (contains_any _ k c wr.heap.size tk (ls.take k) _ (hts2 _) (by omega) (by simp) (hcl _ _ _)).mono ?_; rw [HQ.out]; rintro e w1 ⟨rfl, hb1⟩)
              go_ret
              exact ⟨ret_bool (by rw [HR.out, HF.out]), (hB.alloc hB.size _).trans (hb1.mono (by simp; omega))⟩
      · have hF : goodTo last ls n = false := goodTo_false hlt (by rw [hga, hbad]; rfl)
        have HF := Lib.hid hF
        have HB := Lib.hid hbad
        clear hF hbad hga
        go_wp2
        all_goals
          first
            | (exfalso; have hbb := badB_true.1 HB.out; simp only at hbb; omega)
            | (go_ret; exact ⟨ret_bool (by rw [HR.out, HF.out]), hB.alloc hB.size _⟩)
            | (exfalso; rename_i _ hx h2'; rcases hx.2 with h' | h' <;> simp at h' <;> contradiction)
    · go_wp2
      go_ret
      have : k = n := by omega
      subst this
      exact ⟨ret_bool (by rw [HR.out, HG.out]), hB⟩
end Go.Proofs.Ytinccckpohaoiaa
