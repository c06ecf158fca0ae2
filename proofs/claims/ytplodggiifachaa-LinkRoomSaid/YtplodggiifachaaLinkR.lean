/- The walk of LinkRoom. -/
import Derived.Test.YtplodggiifachaaLink4
import Derived.Test.YtplodggiifachaaLinkA
namespace Go.Proofs.Ytplodggiifachaa
open Go.RowKit
set_option linter.unusedVariables false
set_option linter.unusedSimpArgs false

theorem right_sizes {s : Snd} (h : rightB s = true) : ∀ z ∈ s.bodies, z.size ≤ maxLen := by
  intro z hz
  have h6 := (rightB_iff.1 h).2.2.2.2.2
  unfold longB at h6
  rw [List.any_eq_false] at h6
  have := h6 z hz
  simp at this
  unfold maxLen
  omega
def oneB : ByteArray := ⟨#[98]⟩
/-- A sender that has room, behind one body more. -/
def pushS (s : Snd) : Snd := ⟨s.ep, s.base, s.bodies ++ [oneB], if s.bodies.length = 0 then 4 else s.timer⟩
theorem pushZ_ok {s : Snd} (h : rightB s = true) (h8 : s.bodies.length < 8) (hb : s.base ≤ 1000) : pushZ s oneB = (pushS s, (s.ep, s.base + s.bodies.length, oneB), 0) := by
  have e : oneB.size = 1 := rfl
  unfold pushZ pushS
  rw [if_neg (by simp [h]), if_neg (by omega), if_neg (by omega)]
theorem pushS_right {s : Snd} (h : rightB s = true) (h8 : s.bodies.length < 8) (hb : s.base ≤ 1000) : rightB (pushS s) = true := by
  rw [rightB_iff] at h ⊢
  obtain ⟨h1, h2, h3, h4, h5, h6⟩ := h
  unfold pushS
  simp only [List.length_append, List.length_cons, List.length_nil]
  refine ⟨h1, by omega, by omega, ?_, ?_, ?_⟩
  · split <;> omega
  · split <;> omega
  · unfold longB at *
    rw [List.any_append, h6]
    rfl
theorem pushZ_full {s : Snd} (h : rightB s = true) (h8 : s.bodies.length = 8) : pushZ s oneB = (⟨0, 0, [], 0⟩, (0, 0, .empty), 3) := by
  have e : oneB.size = 1 := rfl
  unfold pushZ
  rw [if_neg (by simp [h]), if_neg (by omega), if_pos (by omega)]

theorem reads_far' {w : World} {B size n : Nat} {A : Option Addr} {q : Addr} {xs : List Value} (h : Reads w B size A n xs) (hq : ∀ a, A = some a → a.block ≠ q.block) (u : Value) : Reads (w.setCell q u) B size A n xs :=
  ⟨h.1, fun hn => by
    obtain ⟨ad, e, hb, hc⟩ := h.2 hn
    exact ⟨ad, e, hb, fun j v hv => (World.cell?_setCell_other _ _ _ _ (fun e' => hq ad e (by rw [e', block_of_add]))).trans (hc j v hv)⟩⟩
/-- An element of a slice of numbers that reads as a list. -/
theorem ints_at {w : World} {B n : Nat} {A : Option Addr} {zs : List Int} (h : Reads w B 1 A n (zs.map (Value.int .i64))) {k : Nat} (hk : k < n) :
    ∃ (ad : Addr) (hl : k < zs.length), A = some ad ∧ ad.block < B ∧ w.cell? (ad.add k) = some (.int .i64 zs[k]) := by
  obtain ⟨ad, u, rfl, hb, hx, hc⟩ := h.at_ hk
  have hl : k < zs.length := by have := h.1; simp at this; omega
  rw [List.getElem?_map, List.getElem?_eq_getElem hl] at hx
  simp at hx
  exact ⟨ad, hl, rfl, hb, by rw [hc, hx]⟩
/-- The sender S stands in block sB. -/
def RoomSt (ep : Int) (sB : Nat) (S : Snd) (wr : World) : Prop := rightB S = true ∧ S.ep = ep ∧ ∃ A c, Blk wr sB 31 #[.int .i64 S.ep, .int .i64 S.base, .slice A S.bodies.length c, .int .i64 S.timer] ∧ Reads wr wr.heap.size 1 A S.bodies.length (S.bodies.map Value.string) ∧ S.bodies.length ≤ c ∧ ∀ ad, A = some ad → ad.block ≠ sB

theorem RoomSt.alloc {ep : Int} {sB : Nat} {S : Snd} {w : World} (h : RoomSt ep sB S w) (o : Obj) : RoomSt ep sB S (w.alloc o) := by
  obtain ⟨h1, h2, A, c, h3, h4, h5, h6⟩ := h
  exact ⟨h1, h2, A, c, h3.alloc o, reads_alloc h4, h5, h6⟩
theorem RoomSt.below {ep : Int} {sB : Nat} {S : Snd} {w w' : World} (h : RoomSt ep sB S w) (hb : Below w.heap.size w w') : RoomSt ep sB S w' := by
  obtain ⟨h1, h2, A, c, h3, h4, h5, h6⟩ := h
  exact ⟨h1, h2, A, c, h3.below hb h3.lt, reads_below h4 hb, h5, h6⟩
/-- A sender is stored in the place of another. -/
theorem room_store {w : World} {sB n c : Nat} {S : Snd} {A : Option Addr} {cs : Array Value} (hR : rightB S = true) (h4 : cs.size = 4) (hn : S.bodies.length = n) (bS : Blk w sB 31 cs) (hr : Reads w w.heap.size 1 A n (S.bodies.map Value.string)) (hc : n ≤ c) (hA : ∀ ad, A = some ad → ad.block ≠ sB) :
    RoomSt S.ep sB S ((((w.setCell ⟨sB, 0, none⟩ (.int .i64 S.ep)).setCell ⟨sB, 1, none⟩ (.int .i64 S.base)).setCell ⟨sB, 2, none⟩ (.slice A n c)).setCell ⟨sB, 3, none⟩ (.int .i64 S.timer)) := by
  subst hn
  refine ⟨hR, rfl, A, c, ?_, ?_, hc, hA⟩
  · have h := (((bS.set_ 0 (.int .i64 S.ep)).set_ 1 (.int .i64 S.base)).set_ 2 (.slice A S.bodies.length c)).set_ 3 (.int .i64 S.timer)
    obtain ⟨l⟩ := cs
    match l, h4 with
    | [c0, c1, c2, c3], _ => simpa using h
  · exact (reads_far' (reads_far' (reads_far' (reads_far' hr hA _) hA _) hA _) hA _).more (by simp)

set_option maxRecDepth 100000 in
set_option maxHeartbeats 16000000 in
theorem walkRoom (ep0 : Int) (zs : List Int) (A : Option Addr) (n c : Nat) (w : World) (hr : Reads w w.heap.size 1 A n (zs.map (Value.int .i64))) (hm : n ≤ 9223372036854775807) (hz : ∀ z ∈ zs, -9223372036854775808 ≤ z ∧ z ≤ 9223372036854775807) :
    Calls Try.prog 5 #[.int .i64 ep0, .slice A n c] w fun e w' => e = .returned (.bool true) ∧ Below w.heap.size w w' := by
  have hmx : ∀ x y : Int, (if x < y then y else x) = max x y := fun x y => by split <;> omega
  have hmn : ∀ x y : Int, (if x < y then x else y) = min y x := fun x y => by split <;> omega
  obtain ⟨E, hE, e1⟩ : ∃ v : Int, min (max ep0 0) 1073741824 = v ∧ 0 ≤ v ∧ v ≤ 1073741824 := ⟨_, rfl, by omega, by omega⟩
  have hlen : zs.length = n := by have := hr.1; simpa using this
  have HLN := Lib.hid hlen
  have HZ := Lib.hid hz
  clear hz hlen
  have hw : withinB E 0 1073741824 = true := withinB_true.2 e1
  have HW := Lib.hid hw
  clear hw
  go_enter Try.func5, Try.ntmps5
  go_wp2_with fail
  refine (open_any _ _).mono ?_
  rintro e w1 ⟨he1, hb1⟩
  rw [HW.out] at he1
  simp at he1
  subst he1
  go_wp2_with fail
  refine (alive_any _).mono ?_
  rintro e w2 ⟨rfl, hb2⟩
  have bS0 : Blk w2 w1.heap.size 31 #[.int .i64 E, .int .i64 0, .slice none 0 0, .int .i64 0] := ((Blk.new w1 _ _).alloc _).below hb2 (by simp; omega)
  have y2 := hb2.size
  simp at y2
  have hsB := hb1.size
  have k2 : Below w.heap.size w w2 := ((hb1.alloc hsB _).alloc (by simp; omega) _).trans (hb2.mono (by simp; omega))
  have hR0 : rightB ⟨E, 0, [], 0⟩ = true := rightB_iff.2 ⟨e1, by simp, by simp, by simp, by simp, rfl⟩
  have HR0 := Lib.hid hR0
  clear hR0
  go_wp2_with fail
  generalize w1.heap.size = sB at *
  clear hb1 hb2
  go_loopw [8, 9, 10] (fun nx bs i wr => ∃ (S : Snd) (j b : Nat), i = .int .i64 j ∧ Hid (S.base = b) ∧ bs = .int .i64 b ∧ nx = .int .i64 ((b : Int) + S.bodies.length) ∧ b ≤ 8 * j ∧ j ≤ 30 ∧ RoomSt E sB S wr ∧ Below w.heap.size w wr) (fun _ _ i _ => 31 - (intOf i).toNat)
  case atStart => exact ⟨⟨E, 0, [], 0⟩, 0, 0, rfl, Lib.hid rfl, rfl, rfl, by omega, by omega, ⟨HR0.out, rfl, none, 0, bS0, Reads.none_, by simp, fun _ h => (by cases h)⟩, k2⟩
  case round =>
    clear bS0 k2
    obtain ⟨S, j, b, rfl, HSb, rfl, rfl, hbj, hj, hSt, hB⟩ := hrel
    by_cases hgo : (j : Int) ≤ n ∧ j < 30
    · have hg1 := hgo.1
      have hg2 : (j : Int) < 30 := by omega
      have hj30 := hgo.2
      clear hgo
      go_wp2_with fail
      go_loopw [8] (fun nx wr => ∃ (S : Snd), Hid (S.base = b) ∧ nx = .int .i64 ((b : Int) + S.bodies.length) ∧ RoomSt E sB S wr ∧ Below w.heap.size w wr) (fun nx _ => b + 8 - (intOf nx).toNat)
      case atStart => exact ⟨S, HSb, rfl, hSt, hB⟩
      case round =>
        obtain ⟨S', HS', rfl, hSt', hB'⟩ := hrel
        obtain ⟨hR', hep', A', c', bS', rd', hc', hA'⟩ := hSt'
        have g0 := bS'.cell 0
        have g1 := bS'.cell 1
        have g2 := bS'.cell 2
        have g3 := bS'.cell 3
        have gl := bS'.lt
        simp at g0 g1 g2 g3
        have hs' := right_sizes hR'
        have l8 := (rightB_iff.1 hR').2.1
        have hb8 : S'.base ≤ 1000 := by rw [HS'.out]; omega
        have hP := fun h8 : S'.bodies.length < 8 => pushZ_ok hR' h8 hb8
        have hPR := fun h8 : S'.bodies.length < 8 => pushS_right hR' h8 hb8
        have hPF := fun h8 : S'.bodies.length = 8 => pushZ_full hR' h8
        obtain ⟨se, sb, sz, st⟩ := S'
        simp only at *
        subst hep'
        have hb := HS'.out
        subst hb
        by_cases h8 : sz.length < 8
        · have hp := hP h8
          have hpr := hPR h8
          have e1' : (pushS ⟨se, b, sz, st⟩).ep = se := rfl
          have e2' : (pushS ⟨se, b, sz, st⟩).base = b := rfl
          have e3' : (pushS ⟨se, b, sz, st⟩).bodies.length = sz.length + 1 := by simp [pushS]
          generalize pushS ⟨se, b, sz, st⟩ = T at hp hpr e1' e2' e3'
          obtain ⟨te, tb, tz, tt⟩ := T
          simp only at e1' e2' e3'
          subst e1' e2'
          have HP := Lib.hid hp
          have HPR := Lib.hid hpr
          have HT := Lib.hid e3'
          clear hP hPR hPF hp hpr e3'
          go_wp2_with fail
          refine (push_any _ _ st sz A' sz.length c' oneB wr rd' (by omega) hs' (by decide)).mono ?_
          rw [HP.out]
          rintro e w4 ⟨A4, c4, rfl, rd4, hc4, hb4⟩
          simp only at rd4 hc4
          rw [HT.out] at rd4 hc4 ⊢
          have bS4 := bS'.below hb4 gl
          have y4 := hb4.size
          have l4 := bS4.lt
          have s0 : w4.cell? ⟨sB, 0, none⟩ = some (.int .i64 te) := bS4.cell 0
          have s1 : w4.cell? ⟨sB, 1, none⟩ = some (.int .i64 b) := bS4.cell 1
          have s2 : w4.cell? ⟨sB, 2, none⟩ = some (.slice A' sz.length c') := bS4.cell 2
          have s3 : w4.cell? ⟨sB, 3, none⟩ = some (.int .i64 st) := bS4.cell 3
          have fS := bS4.frozen
          have k4 := hB'.trans (hb4.mono hB'.size)
          have hA4 : ∀ ad, A4 = some ad → ad.block ≠ sB := fun ad e => by
            subst e
            have := (rd4.lt ad.block (by simp [Value.ownBlock])).1
            omega
          have hss := set_set
          clear g0 g1 g2 g3 hb4
          go_wp2
          go_roundw
          case rel =>
            refine ⟨⟨te, b, tz, tt⟩, Lib.hid rfl, ?_, ((room_store (S := ⟨te, b, tz, tt⟩) HPR.out rfl HT.out bS4 (Reads.of_own rd4) hc4 hA4).alloc _).alloc _, by go_grown⟩
            have := HT.out
            simp only
            congr 1
            omega
          case measure => simp [intOf]; omega
        · have h8' : sz.length = 8 := by omega
          have HP := Lib.hid (hPF h8')
          have hSt2 : RoomSt se sB ⟨se, b, sz, st⟩ wr := ⟨hR', rfl, A', c', bS', rd', hc', hA'⟩
          have HI := Lib.hid h8'
          clear hP hPR hPF h8'
          go_wp2_with fail
          refine (push_any _ _ st sz A' sz.length c' oneB wr rd' (by omega) hs' (by decide)).mono ?_
          rw [HP.out]
          rintro e w4 ⟨A4, c4, rfl, rd4, hc4, hb4⟩
          have k4 := hB'.trans (hb4.mono hB'.size)
          have hSt4 := hSt2.below hb4
          try simp only [List.length_nil] at rd4 hc4 ⊢
          have y4 := hb4.size
          have bS4 := bS'.below hb4 gl
          have l4 := bS4.lt
          have s0 : w4.cell? ⟨sB, 0, none⟩ = some (.int .i64 se) := bS4.cell 0
          have s1 : w4.cell? ⟨sB, 1, none⟩ = some (.int .i64 b) := bS4.cell 1
          have s2 : w4.cell? ⟨sB, 2, none⟩ = some (.slice A' sz.length c') := bS4.cell 2
          have s3 : w4.cell? ⟨sB, 3, none⟩ = some (.int .i64 st) := bS4.cell 3
          clear g0 g1 g2 g3
          by_cases hjn : j < n
          · obtain ⟨ad, hl, rfl, hbk, hc0⟩ := ints_at (hr.below k4) hjn
            have hz0 := HZ.out zs[j] (List.getElem_mem hl)
            generalize zs[j] = z at *
            have hc2 : ∀ o o', ((w4.alloc o).alloc o').cell? (ad.add j) = some (.int .i64 z) := fun o o' => by
              have hk := k4.size
              rw [World.cell?_alloc_lt _ _ _ (by rw [block_of_add]; simp; omega), World.cell?_alloc_lt _ _ _ (by rw [block_of_add]; omega), hc0]
            have tz0 := Int.tmod_lt_of_pos z (show (0 : Int) < 9 by omega)
            have tz1 := Int.lt_tmod_of_pos z (show (0 : Int) < 9 by omega)
            obtain ⟨d, eD, hd⟩ : ∃ d : Nat, (z.tmod 9 + 8 + 1).tmod 9 = d ∧ d ≤ 8 := by
              refine ⟨((z.tmod 9 + 8 + 1).tmod 9).toNat, ?_, ?_⟩
              · have : 0 ≤ (z.tmod 9 + 8 + 1).tmod 9 := Int.tmod_nonneg _ (by omega)
                omega
              · have := Int.tmod_lt_of_pos (z.tmod 9 + 8 + 1) (show (0 : Int) < 9 by omega)
                omega
            obtain ⟨m, hmd⟩ : ∃ m : Nat, m + d = 8 := ⟨8 - d, by omega⟩
            have hdl : d ≤ sz.length := by have := HI.out; omega
            have q1 := ackZ_ok hR' d hdl
            have q2 := ackS_right hR' d hdl
            have q3 := ackS_ep ⟨se, b, sz, st⟩ d
            have q4 := ackS_base ⟨se, b, sz, st⟩ d
            have q5 : (ackS ⟨se, b, sz, st⟩ d).bodies.length = m := by rw [ackS_len]; have := HI.out; simp only; omega
            generalize ackS ⟨se, b, sz, st⟩ d = T at q1 q2 q3 q4 q5
            obtain ⟨te, tb, tz, tt⟩ := T
            simp only at q1 q3 q4 q5
            subst q3
            have QA := Lib.hid q1
            have QR := Lib.hid q2
            have QB := Lib.hid q4
            have QL := Lib.hid q5
            have rdW := reads_below rd' hb4
            clear q1 q2 q4 q5 hb4 rd4
            go_wp2_with fail
            refine (ack_any _ _ st _ _ sz A' sz.length c' _ (reads_alloc (reads_alloc rdW)) (by omega) hs' hc').mono ?_
            rw [QA.out]
            rintro e w5 ⟨A5, c5, rfl, rd5, hc5, hA5, hb5⟩
            simp only at rd5 hc5
            rw [QL.out] at rd5 hc5 ⊢
            have bS5 := ((bS4.alloc _).alloc _).below hb5 (by simp; omega)
            have y5 := hb5.size
            simp at y5
            have l5 := bS5.lt
            have s50 : w5.cell? ⟨sB, 0, none⟩ = some (.int .i64 te) := bS5.cell 0
            have s51 : w5.cell? ⟨sB, 1, none⟩ = some (.int .i64 b) := bS5.cell 1
            have s52 : w5.cell? ⟨sB, 2, none⟩ = some (.slice A' sz.length c') := bS5.cell 2
            have s53 : w5.cell? ⟨sB, 3, none⟩ = some (.int .i64 st) := bS5.cell 3
            have fS := bS5.frozen
            have kW := k4.size
            have k5 := ((k4.alloc k4.size (.cells #[.int .i64 0, .int .i64 0, .slice A4 0 c4, .int .i64 0] 31)).alloc (by simp; omega) (.cells #[.int .i64 0, .int .i64 0, .string ByteArray.empty] 25)).trans (hb5.mono (by simp; omega))
            have hA5' : ∀ ad, A5 = some ad → ad.block ≠ sB := fun ad e => by
              rcases hA5 with h | h
              · exact hA' ad (by rw [← h]; exact e)
              · have := h ad e
                simp at this
                omega
            have hss := set_set
            clear s0 s1 s2 s3 hb5
            go_wp2
            go_roundw
            case rel =>
              have hqb := QB.out
              have hql := QL.out
              have hsz := HI.out
              have hr5 := room_store (S := ⟨te, tb, tz, tt⟩) QR.out rfl QL.out bS5 rd5 hc5 hA5'
              simp only at hr5
              refine ⟨⟨te, tb, tz, tt⟩, j + 1, b + d, by go_num, Lib.hid (by simp only; rw [hqb]; omega), by go_num, ?_, by omega, by omega, hr5.alloc _, by go_grown⟩
              simp only
              congr 1
              omega
            case measure => simp [intOf]; omega
          · go_wp2
            go_roundw
            case rel => exact ⟨⟨se, b, sz, st⟩, j + 1, b, by go_num, Lib.hid rfl, rfl, rfl, by omega, by omega, (hSt4.alloc _).alloc _, by go_grown⟩
            case measure => simp [intOf]; omega
    · go_wp2
      all_goals
        go_ret
        exact ⟨rfl, hB⟩
end Go.Proofs.Ytplodggiifachaa
