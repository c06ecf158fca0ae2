/- The walk of chapter 12's law LoopTurns. -/
import Derived.Test.YtplfimaopegpmaaLawEn
namespace Go.Proofs.Ytplfimaopegpmaa
open Go.RowKit
open Go.Maps (Keyed)
set_option linter.unusedVariables false
set_option linter.unusedSimpArgs false

theorem pot_len {F : Int} {xs : List Rnd} (hF : 0 ≤ F) (h : ∀ r ∈ xs, 0 ≤ r.n) : potZ F xs ≤ (xs.length : Int) * (F + 1) := by
  induction xs with
  | nil => simp [potZ]
  | cons r l ih =>
    have h1 := ih fun x hx => h x (by simp [hx])
    have h0 := h r (by simp)
    simp only [potZ, List.length_cons]
    rw [show (((l.length + 1 : Nat) : Int)) = (l.length : Int) + 1 by omega, Int.add_mul]
    omega

set_option maxRecDepth 100000 in
set_option maxHeartbeats 16000000 in
theorem walkTurnsQ (limit fuel : Int) (A : Option Addr) (n0 c : Nat) (l0 : List Rnd) (w : World) (hL : -9223372036854775808 ≤ limit ∧ limit ≤ 9223372036854775807)
    (hr0 : Reads w w.heap.size 3 A n0 (evs l0)) (hlv0 : ∀ r ∈ l0, r.key.size ≤ maxLen ∧ r.n = 0 ∧ (Lit.int .i64 r.at_).wf = true ∧ (Lit.int .i64 r.v).wf = true) (hn0 : n0 ≤ 9223372036854775807) (hc : n0 ≤ c) :
    Calls Try.prog 7 #[.int .i64 limit, .int .i64 fuel, .slice A n0 c] w fun e w' => e = .returned (.bool true) ∧ Below w.heap.size w w' := by
  have hLm := maxZ_bd hL.2
  have hFm := fuelZ_bd fuel
  have hmm := @run_makeMap Try.prog
  obtain ⟨p, l, hp, hr, hlv, hpn⟩ : ∃ (p : Nat) (l : List Rnd), p ≤ 16 ∧ Reads w w.heap.size 3 A p (evs l) ∧ (∀ r ∈ l, r.key.size ≤ maxLen ∧ r.n = 0 ∧ (Lit.int .i64 r.at_).wf = true ∧ (Lit.int .i64 r.v).wf = true) ∧ ((n0 ≤ 16 ∧ p = n0) ∨ (16 < n0 ∧ p = 16)) := by
    by_cases h : n0 ≤ 16
    · exact ⟨n0, l0, h, hr0, hlv0, .inl ⟨h, rfl⟩⟩
    · exact ⟨16, l0.take 16, by omega, reads_take hr0 (by omega), fun r hr => hlv0 r (List.mem_of_mem_take hr), .inr ⟨by omega, rfl⟩⟩
  clear hr0 hlv0
  have hll := evs_len hr
  obtain ⟨kq, hkq⟩ : ∃ kq : ByteArray → Int → Int → Option Lit, ∀ a b d, kq a b d = keyOf Try.prog 23 (.agg #[.string a, .int .i64 b, .int .i64 d]) := ⟨fun a b d => keyOf Try.prog 23 (.agg #[.string a, .int .i64 b, .int .i64 d]), fun _ _ _ => rfl⟩
  go_enter Try.func7, Try.ntmps7
  go_upto_if 19 with fail
  go_cut [2] from 17 to 21 (fun s2 wx => ∃ c', s2 = .slice A p c' ∧ w = wx)
  case first =>
    rcases hpn with ⟨h1, rfl⟩ | ⟨h1, rfl⟩
    · go_wp2_with fail
      go_meet
      exact ⟨_, rfl, rfl⟩
    · go_wp2_with fail
      go_meet
      exact ⟨_, rfl, rfl⟩
  case rest =>
  obtain ⟨c', rfl, rfl⟩ := hcut
  go_wp2_with fail
  clear hmm
  have hm0 : (w.alloc (.map #[] 0)).ownsMap Try.prog 23 (plainElem Try.prog 3) w.heap.size 0 (.map [] : DataW Unit) := World.ownsMap_made _ _ _ _
  have hbl0 : Below w.heap.size w (w.alloc (.map #[] 0)) := by go_grown
  generalize w.alloc (.map #[] 0) = W0 at *
  go_loopw [23] (fun i wr => ∃ (s n : Nat) (D : DataW Unit), i = .int .i64 s ∧ s ≤ 2 ∧ n ≤ 700 * s ∧ wr.ownsMap Try.prog 23 (plainElem Try.prog 3) w.heap.size n D ∧ Below w.heap.size w wr ∧ Says D (fun kl => if s = 1 then futK kq (maxZ limit) (fuelZ fuel) kl l else 0))
    (fun i _ => 2 - (intOf i).toNat)
  case atStart => exact ⟨0, 0, _, rfl, by omega, by omega, hm0, hbl0, says_empty _ (fun kl => rfl)⟩
  case round =>
    clear hm0 hbl0
    obtain ⟨s, nD, D, rfl, hs2, hnD, hm, hbl, hS⟩ := hrel
    obtain ⟨wB, rfl⟩ : ∃ wB, wB = wr := ⟨_, rfl⟩
    rcases (show s = 0 ∨ s = 1 ∨ s = 2 by omega) with rfl | rfl | rfl
    · go_wp2_with (go_at_call 13; refine (newQ_any _ _ _).mono ?_; rintro e w1 ⟨qb, rfl, hqb, bQ, hb1⟩)
      have y1 := hb1.size
      have hmb := hm.lt
      have st0 : QSt qb w.heap.size w1.heap.size (maxZ limit) (fuelZ fuel) (.slice none 0 0) ((l).take 0) nD D w w1 :=
        ⟨bQ, World.ownsRow_nil _ _ _ _, hm.kept (only_of_below hb1 none) (by simp), hbl.trans (hb1.mono hbl.size), Nat.le_refl _, Nat.le_trans hbl.size hqb, Nat.le_refl _, bQ.lt⟩
      obtain ⟨base, hbase⟩ : ∃ b, w1.heap.size = b := ⟨_, rfl⟩
      rw [hbase] at st0
      obtain ⟨lr, hlr⟩ : ∃ lr, l = lr := ⟨_, rfl⟩
      rw [hlr] at st0
      have hlrv : ∀ r ∈ lr, r.key.size ≤ maxLen ∧ r.n = 0 ∧ (Lit.int .i64 r.at_).wf = true ∧ (Lit.int .i64 r.v).wf = true := fun r hr => hlv r (by rw [hlr]; exact hr)
      have hlrl : lr.length = p := by rw [← hlr]; exact hll
      have hlrf : ∀ kl, futK kq (maxZ limit) (fuelZ fuel) kl lr = futK kq (maxZ limit) (fuelZ fuel) kl l := fun kl => by rw [← hlr]
      have hlrg : ∀ (j k : Nat) (hj : j < lr.length) (hk : k < l.length), k = j → lr[j] = l[k] := by
        intro j k hj hk e
        subst e
        subst hlr
        rfl
      clear bQ hb1 y1 hbase hqb hlr
      have okl : ∀ j, j ≤ p → okP (fuelZ fuel) (lr.take j) := fun j hj => ⟨⟨by rw [List.length_take]; omega, fun r hr => by
          have h := hlrv r (List.mem_of_mem_take hr)
          exact ⟨i64_of h.2.2.2, by omega, by omega⟩⟩, fun r hr => by
          have h := hlrv r (List.mem_of_mem_take hr)
          exact ⟨by omega, h.1, h.2.2.1⟩⟩
      go_loopw [33] (fun i wr => ∃ (j : Nat) (v : Value), i = .int .i64 j ∧ j ≤ p ∧ QSt qb w.heap.size base (maxZ limit) (fuelZ fuel) v (lr.take j) nD D w wr)
        (fun i _ => p - (intOf i).toNat)
      case atStart => exact ⟨0, _, rfl, by omega, st0⟩
      case round =>
        clear st0
        obtain ⟨j, v, rfl, hjp, st⟩ := hrel
        have kB := st.below
        by_cases hj : j < p
        · have hk : j < p := by omega
          
          
          
          have hkk : ((j : Nat) : Int) < p := by omega
          
          obtain ⟨ad, hjl, rfl, had, p0, p1, p2⟩ := evs_get (hr.below kB) hk
          have hlen : (lr.take j).length = j := by rw [List.length_take]; omega
          have hlt16 : (lr.take j).length < 16 := by omega
          have htk : lr.take (j + 1) = lr.take j ++ [lr[j]'(by omega)] := take_snoc (by omega)
          have hejl : (⟨l[j].key, l[j].at_, l[j].v, 0⟩ : Rnd) = lr[j]'(by omega) := by
            rw [hlrg j j (by omega) hjl (by omega)]
            have h0 := (hlv _ (List.getElem_mem hjl)).2.1
            rw [← h0]
          go_wp2_with (go_at_call 14; refine (putq_any qb base (lr.take j).length (maxZ limit) (fuelZ fuel) v (lr.take j) _ _ _ wr st.q st.oq hlt16 rfl st.size st.qhi).mono ?_; rintro e w2 ⟨rfl, hP⟩)
          rw [hejl, ← htk] at hP
          obtain ⟨v2, st2⟩ := st.turn hP
          go_roundw
          case rel => exact ⟨j + 1, v2, by go_num, by omega, st2⟩
          case measure => simp [intOf]; omega
        · obtain rfl : j = p := by omega
          rw [show lr.take j = lr from List.take_of_length_le (by omega)] at st
          have hok0 : okP (fuelZ fuel) lr := by have := okl j (Nat.le_refl _); rwa [show lr.take j = lr from List.take_of_length_le (by omega)] at this
          have hpot0 : potZ (fuelZ fuel) lr ≤ 656 := by
            have h1 := pot_len (xs := lr) hFm.1 (fun r hr => by have := (hlrv r hr).2.1; omega)
            have h2 : (lr.length : Int) * (fuelZ fuel + 1) ≤ 16 * 41 := Int.mul_le_mul (by omega) (by omega) (by omega) (by omega)
            omega
          have hS0 : Says D (fun kl => futK kq (maxZ limit) (fuelZ fuel) kl l - futK kq (maxZ limit) (fuelZ fuel) kl lr) := by
            have e : (fun kl => futK kq (maxZ limit) (fuelZ fuel) kl l - futK kq (maxZ limit) (fuelZ fuel) kl lr) = (fun kl => if 0 = 1 then futK kq (maxZ limit) (fuelZ fuel) kl l else 0) := by funext kl; simp [hlrf kl]
            rw [e]; exact hS
          go_wp2_with fail
          go_loopw [12] (fun i wr => ∃ (k n : Nat) (xs : List Rnd) (v : Value) (D : DataW Unit), i = .int .i64 k ∧ n ≤ 0 + k ∧ okP (fuelZ fuel) xs ∧ potZ (fuelZ fuel) xs + k ≤ 656 ∧ Says D (fun kl => futK kq (maxZ limit) (fuelZ fuel) kl l - futK kq (maxZ limit) (fuelZ fuel) kl xs) ∧ QSt qb w.heap.size base (maxZ limit) (fuelZ fuel) v xs n D w wr)
            (fun i _ => 657 - (intOf i).toNat)
          case atStart => exact ⟨0, _, _, _, _, rfl, by omega, hok0, by omega, hS0, st⟩
          case round =>
            clear st hok0 hpot0 hS0 hS
            obtain ⟨k, n, xs, v, D, rfl, hn, hok, hpot, hS, st⟩ := hrel
            have kB' := st.below
            have hpp := pot_pos hok
            have hlen16 := hok.1.1
            obtain ⟨Aq, cq, hvq⟩ := own_form st.oq
            have q2 : wr.cell? ⟨qb, 2, none⟩ = some (.slice Aq xs.length cq) := by rw [← hvq]; exact st.q.cell 2
            by_cases hne : xs = []
            · subst hne
              have hSz : Says D (fun kl => if 0 + 1 = 1 then futK kq (maxZ limit) (fuelZ fuel) kl l else 0) := by
                have e : (fun kl => if 0 + 1 = 1 then futK kq (maxZ limit) (fuelZ fuel) kl l else 0) = (fun kl => futK kq (maxZ limit) (fuelZ fuel) kl l - futK kq (maxZ limit) (fuelZ fuel) kl []) := by funext kl; simp [futK_nil]
                rw [e]; exact hS
              have HSZ := Lib.hid hSz
              clear hSz
              go_wp2_with (go_at_call 17; refine (lenQ_any qb 0 cq Aq _ q2).mono ?_; rintro e w5 ⟨rfl, rfl⟩)
              go_roundw
              case rel => exact ⟨0 + 1, n, D, by go_num, by omega, by omega, st.mp, kB', HSZ.out⟩
              case measure => simp [intOf]
            · have hpos : 0 < xs.length := List.length_pos_iff.2 hne
              have hl0 : ((xs.length : Int) == 0) = false := by simp; omega
              have hlp : (0 : Int) < (xs.length : Int) := by omega
              have hk1000 : (k : Int) < 1000 := by omega
              have hwk : IntKind.i64.wrap ((k : Int) + 1) = (k : Int) + 1 := IntWalk.i64_in _ (by omega)
              have hl20 : xs.length ≤ 20 := by omega
              have hokr := hok.rest (lim := maxZ limit) hFm.2
              have hpr := pot_rest (lim := maxZ limit) hok hne
              have hpr' : potZ (fuelZ fuel) (restQ (maxZ limit) (fuelZ fuel) xs) + ((k : Int) + 1) ≤ 656 := by omega
              clear hpr
              have hfs := fun kl => fut_step (q := kq) (lim := maxZ limit) (F := fuelZ fuel) (xs := xs) kl
              have HFS := Lib.hid hfs
              clear hfs
              have hout := out_ok (lim := maxZ limit) hok
              have HOUT := Lib.hid hout
              clear hout
              obtain ⟨ys, hY⟩ : ∃ ys, restQ (maxZ limit) (fuelZ fuel) xs = ys := ⟨_, rfl⟩
              obtain ⟨O, hO⟩ : ∃ O, outR (maxZ limit) (fuelZ fuel) xs = O := ⟨_, rfl⟩
              obtain ⟨G, hG⟩ : ∃ G, goesB (maxZ limit) (fuelZ fuel) xs = G := ⟨_, rfl⟩
              rw [hY] at hokr hpr'
              rw [hY, hO, hG] at HFS
              rw [hO, hG] at HOUT
              have HST := Lib.hid (⟨hY, hO, hG⟩ : _ ∧ _ ∧ _)
              clear hY hO hG
              cases G
              · go_wp2_with (first
                  | (go_at_call 17; refine (lenQ_any qb xs.length cq Aq _ q2).mono ?_; rintro e w5 ⟨rfl, rfl⟩)
                  | (go_at_call 15; refine (stepq_any qb base (maxZ limit) (fuelZ fuel) v xs wr st.q st.oq hl20 st.size st.qhi hLm hok.1.wide).mono ?_; unfold StepPost; rw [HST.out.1, HST.out.2.1, HST.out.2.2]; rintro e w2 ⟨rfl, hP⟩))
                obtain ⟨v2, st2⟩ := st.turn hP
                have st3 := st2.to (w' := w2.alloc (.cells #[.string O.key, .int .i64 O.at_, .int .i64 O.v] 23)) (by go_grown)
                have hS' : Says D (fun kl => futK kq (maxZ limit) (fuelZ fuel) kl l - futK kq (maxZ limit) (fuelZ fuel) kl ys) := by
                  have e : (fun kl => futK kq (maxZ limit) (fuelZ fuel) kl l - futK kq (maxZ limit) (fuelZ fuel) kl ys) = (fun kl => futK kq (maxZ limit) (fuelZ fuel) kl l - futK kq (maxZ limit) (fuelZ fuel) kl xs) := by
                    funext kl
                    have := HFS.out kl
                    simp at this
                    rw [this]
                  rw [e]; exact hS
                go_roundw
                case rel => exact ⟨k + 1, n, ys, v2, D, by go_num, by omega, hokr, by omega, hS', st3⟩
                case measure => simp [intOf]; omega
              · have hOx := HOUT.out rfl
                have hO1 := hok.2 O hOx
                have hO2 := (hok.1.2 O hOx).1
                obtain ⟨kl, hkl⟩ := evKey hO1.2.1 hO1.2.2 (WalkArith.wf_i64 (n := O.v) (by omega))
                go_upto_block 5 with (go_at_call 17; refine (lenQ_any qb xs.length cq Aq _ q2).mono ?_; rintro e w5 ⟨rfl, rfl⟩)
                go_cut [] from 61 to 75 (fun wx => ∃ v' D', Says D' (fun kl => futK kq (maxZ limit) (fuelZ fuel) kl l - futK kq (maxZ limit) (fuelZ fuel) kl ys) ∧ QSt qb w.heap.size base (maxZ limit) (fuelZ fuel) v' ys (n + 1) D' w wx)
                case first =>
                  go_upto_region 24 with (go_at_call 15; refine (stepq_any qb base (maxZ limit) (fuelZ fuel) v xs wr st.q st.oq hl20 st.size st.qhi hLm hok.1.wide).mono ?_; unfold StepPost; rw [HST.out.1, HST.out.2.1, HST.out.2.2]; rintro e w2 ⟨rfl, hP⟩)
                  obtain ⟨v2, st2⟩ := st.turn hP
                  have st3 := st2.to (w' := w2.alloc (.cells #[.string O.key, .int .i64 O.at_, .int .i64 O.v] 23)) (by go_grown)
                  have bY := Blk.new w2 23 #[.string O.key, .int .i64 O.at_, .int .i64 O.v]
                  generalize hW3 : w2.alloc (.cells #[.string O.key, .int .i64 O.at_, .int .i64 O.v] 23) = W3 at *
                  clear hW3
                  have g0 : W3.cell? ⟨w2.heap.size, 0, none⟩ = some (.string O.key) := bY.cell 0
                  have g1 : W3.cell? ⟨w2.heap.size, 1, none⟩ = some (.int .i64 O.at_) := bY.cell 1
                  have g2 : W3.cell? ⟨w2.heap.size, 2, none⟩ = some (.int .i64 O.v) := bY.cell 2
                  obtain ⟨cc, stp, w4, eL, hat, hwc, eE, eL4, hSt⟩ := map_bump (w := W3.drew) lawEv Try.underlying44 Try.underlying3 zeroInt st3.mp.drew (show n < maxLen by unfold maxLen; omega) hkl
                  have hcc : cc = (fun kl => futK kq (maxZ limit) (fuelZ fuel) kl l - futK kq (maxZ limit) (fuelZ fuel) kl xs) kl := says_at hS hat
                  have hcb := futK_bd (q := kq) (maxZ limit) (fuelZ fuel) kl xs
                  have hcl := futK_bd (q := kq) (maxZ limit) (fuelZ fuel) kl l
                  have hcc2 : -100 ≤ cc ∧ cc ≤ 100 := by rw [hcc]; dsimp only; omega
                  obtain ⟨w5, eS, hm5, hg5⟩ := hSt (cc + 1) (WalkArith.wf_i64 (by omega))
                  have eS' : (Instr.entryStore 44 (.map (some w.heap.size)) (.int .i64 (stp : Int)) (.int .i64 (cc + 1))).run Try.prog w4 = .ok () w5 := eS
                  have eE' : (Instr.mapEntry 44 (.map (some w.heap.size)) (.agg #[.string O.key, .int .i64 O.at_, .int .i64 O.v])).run Try.prog W3.drew = .ok (.tuple #[.int .i64 cc, .int .i64 (stp : Int)]) w4 := eE
                  clear eS eE
                  have hwrap : IntKind.i64.wrap (cc + 1) = cc + 1 := IntWalk.i64_in _ (by omega)
                  have hm5' : Says (D.put kl (.lit (.int .i64 (cc + 1)))) (fun kl => futK kq (maxZ limit) (fuelZ fuel) kl l - futK kq (maxZ limit) (fuelZ fuel) kl ys) := by
                    refine says_put (q := kq) (r := O) (s := 1) hS ((hkq _ _ _).trans hkl) ((Keyed.of_law lawEv).key hkl) (by rw [hcc]) (fun k' => ?_)
                    have := HFS.out k'
                    first | rw [if_pos rfl] at this | rw [if_pos trivial] at this
                    try dsimp only
                    omega
                  have HM := Lib.hid hm5'
                  clear hm5' hcc hcb hcl
                  have st5 := st3.bump (w' := w5) (by exact hm5) ⟨hg5.os, hg5.tape, hg5.output, hg5.size, hg5.block⟩
                  go_region
                  all_goals
                    go_wp2_with fail
                    go_meet
                    exact ⟨_, _, HM.out, st5⟩
                case rest =>
                obtain ⟨v', D', hS', st'⟩ := hcut
                go_wp2_with fail
                go_roundw
                case rel => exact ⟨k + 1, n + 1, ys, v', D', by go_num, by omega, hokr, by omega, hS', st'⟩
                case measure => simp [intOf]; omega
    · go_wp2_with (go_at_call 13; refine (newQ_any _ _ _).mono ?_; rintro e w1 ⟨qb, rfl, hqb, bQ, hb1⟩)
      have y1 := hb1.size
      have hmb := hm.lt
      have st0 : QSt qb w.heap.size w1.heap.size (maxZ limit) (fuelZ fuel) (.slice none 0 0) ((l.reverse).take 0) nD D w w1 :=
        ⟨bQ, World.ownsRow_nil _ _ _ _, hm.kept (only_of_below hb1 none) (by simp), hbl.trans (hb1.mono hbl.size), Nat.le_refl _, Nat.le_trans hbl.size hqb, Nat.le_refl _, bQ.lt⟩
      obtain ⟨base, hbase⟩ : ∃ b, w1.heap.size = b := ⟨_, rfl⟩
      rw [hbase] at st0
      obtain ⟨lr, hlr⟩ : ∃ lr, l.reverse = lr := ⟨_, rfl⟩
      rw [hlr] at st0
      have hlrv : ∀ r ∈ lr, r.key.size ≤ maxLen ∧ r.n = 0 ∧ (Lit.int .i64 r.at_).wf = true ∧ (Lit.int .i64 r.v).wf = true := fun r hr => hlv r (by rw [← hlr] at hr; exact List.mem_reverse.1 hr)
      have hlrl : lr.length = p := by rw [← hlr]; rw [List.length_reverse]; exact hll
      have hlrf : ∀ kl, futK kq (maxZ limit) (fuelZ fuel) kl lr = futK kq (maxZ limit) (fuelZ fuel) kl l := fun kl => by rw [← hlr]; exact futK_reverse _ _ _ _
      have hlrg : ∀ (j k : Nat) (hj : j < lr.length) (hk : k < l.length), k = l.length - 1 - j → lr[j] = l[k] := by
        intro j k hj hk e
        subst e
        subst hlr
        rw [List.getElem_reverse]
      clear bQ hb1 y1 hbase hqb hlr
      have okl : ∀ j, j ≤ p → okP (fuelZ fuel) (lr.take j) := fun j hj => ⟨⟨by rw [List.length_take]; omega, fun r hr => by
          have h := hlrv r (List.mem_of_mem_take hr)
          exact ⟨i64_of h.2.2.2, by omega, by omega⟩⟩, fun r hr => by
          have h := hlrv r (List.mem_of_mem_take hr)
          exact ⟨by omega, h.1, h.2.2.1⟩⟩
      go_loopw [33] (fun i wr => ∃ (j : Nat) (v : Value), i = .int .i64 j ∧ j ≤ p ∧ QSt qb w.heap.size base (maxZ limit) (fuelZ fuel) v (lr.take j) nD D w wr)
        (fun i _ => p - (intOf i).toNat)
      case atStart => exact ⟨0, _, rfl, by omega, st0⟩
      case round =>
        clear st0
        obtain ⟨j, v, rfl, hjp, st⟩ := hrel
        have kB := st.below
        by_cases hj : j < p
        · have hk : p - 1 - j < p := by omega
          have hki : ((p : Int) - 1 - (j : Int)) = ((p - 1 - j : Nat) : Int) := by omega
          have hkw : IntKind.i64.wrap ((p : Int) - 1 - (j : Int)) = ((p - 1 - j : Nat) : Int) := by rw [hki]; exact IntWalk.i64_in _ (by omega)
          have hkw1 : IntKind.i64.wrap ((p : Int) - 1) = (p : Int) - 1 := IntWalk.i64_in _ (by omega)
          obtain ⟨kk, hkk⟩ : ∃ kk, p - 1 - j = kk := ⟨_, rfl⟩
          rw [hkk] at hk hki hkw
          obtain ⟨ad, hjl, rfl, had, p0, p1, p2⟩ := evs_get (hr.below kB) hk
          have hlen : (lr.take j).length = j := by rw [List.length_take]; omega
          have hlt16 : (lr.take j).length < 16 := by omega
          have htk : lr.take (j + 1) = lr.take j ++ [lr[j]'(by omega)] := take_snoc (by omega)
          have hejl : (⟨l[kk].key, l[kk].at_, l[kk].v, 0⟩ : Rnd) = lr[j]'(by omega) := by
            rw [hlrg j kk (by omega) hjl (by omega)]
            have h0 := (hlv _ (List.getElem_mem hjl)).2.1
            rw [← h0]
          go_wp2_with (go_at_call 14; refine (putq_any qb base (lr.take j).length (maxZ limit) (fuelZ fuel) v (lr.take j) _ _ _ wr st.q st.oq hlt16 rfl st.size st.qhi).mono ?_; rintro e w2 ⟨rfl, hP⟩)
          rw [hejl, ← htk] at hP
          obtain ⟨v2, st2⟩ := st.turn hP
          go_roundw
          case rel => exact ⟨j + 1, v2, by go_num, by omega, st2⟩
          case measure => simp [intOf]; omega
        · obtain rfl : j = p := by omega
          rw [show lr.take j = lr from List.take_of_length_le (by omega)] at st
          have hok0 : okP (fuelZ fuel) lr := by have := okl j (Nat.le_refl _); rwa [show lr.take j = lr from List.take_of_length_le (by omega)] at this
          have hpot0 : potZ (fuelZ fuel) lr ≤ 656 := by
            have h1 := pot_len (xs := lr) hFm.1 (fun r hr => by have := (hlrv r hr).2.1; omega)
            have h2 : (lr.length : Int) * (fuelZ fuel + 1) ≤ 16 * 41 := Int.mul_le_mul (by omega) (by omega) (by omega) (by omega)
            omega
          have hS0 : Says D (fun kl => futK kq (maxZ limit) (fuelZ fuel) kl lr) := by
            have e : (fun kl => futK kq (maxZ limit) (fuelZ fuel) kl lr) = (fun kl => if 1 = 1 then futK kq (maxZ limit) (fuelZ fuel) kl l else 0) := by funext kl; simp [hlrf kl]
            rw [e]; exact hS
          go_wp2_with fail
          go_loopw [12] (fun i wr => ∃ (k n : Nat) (xs : List Rnd) (v : Value) (D : DataW Unit), i = .int .i64 k ∧ n ≤ 700 + k ∧ okP (fuelZ fuel) xs ∧ potZ (fuelZ fuel) xs + k ≤ 656 ∧ Says D (fun kl => futK kq (maxZ limit) (fuelZ fuel) kl xs) ∧ QSt qb w.heap.size base (maxZ limit) (fuelZ fuel) v xs n D w wr)
            (fun i _ => 657 - (intOf i).toNat)
          case atStart => exact ⟨0, _, _, _, _, rfl, by omega, hok0, by omega, hS0, st⟩
          case round =>
            clear st hok0 hpot0 hS0 hS
            obtain ⟨k, n, xs, v, D, rfl, hn, hok, hpot, hS, st⟩ := hrel
            have kB' := st.below
            have hpp := pot_pos hok
            have hlen16 := hok.1.1
            obtain ⟨Aq, cq, hvq⟩ := own_form st.oq
            have q2 : wr.cell? ⟨qb, 2, none⟩ = some (.slice Aq xs.length cq) := by rw [← hvq]; exact st.q.cell 2
            by_cases hne : xs = []
            · subst hne
              have hSz : Says D (fun kl => if 1 + 1 = 1 then futK kq (maxZ limit) (fuelZ fuel) kl l else 0) := by
                have e : (fun kl => if 1 + 1 = 1 then futK kq (maxZ limit) (fuelZ fuel) kl l else 0) = (fun kl => futK kq (maxZ limit) (fuelZ fuel) kl []) := by funext kl; simp [futK_nil]
                rw [e]; exact hS
              have HSZ := Lib.hid hSz
              clear hSz
              go_wp2_with (go_at_call 17; refine (lenQ_any qb 0 cq Aq _ q2).mono ?_; rintro e w5 ⟨rfl, rfl⟩)
              go_roundw
              case rel => exact ⟨1 + 1, n, D, by go_num, by omega, by omega, st.mp, kB', HSZ.out⟩
              case measure => simp [intOf]
            · have hpos : 0 < xs.length := List.length_pos_iff.2 hne
              have hl0 : ((xs.length : Int) == 0) = false := by simp; omega
              have hlp : (0 : Int) < (xs.length : Int) := by omega
              have hk1000 : (k : Int) < 1000 := by omega
              have hwk : IntKind.i64.wrap ((k : Int) + 1) = (k : Int) + 1 := IntWalk.i64_in _ (by omega)
              have hl20 : xs.length ≤ 20 := by omega
              have hokr := hok.rest (lim := maxZ limit) hFm.2
              have hpr := pot_rest (lim := maxZ limit) hok hne
              have hpr' : potZ (fuelZ fuel) (restQ (maxZ limit) (fuelZ fuel) xs) + ((k : Int) + 1) ≤ 656 := by omega
              clear hpr
              have hfs := fun kl => fut_step (q := kq) (lim := maxZ limit) (F := fuelZ fuel) (xs := xs) kl
              have HFS := Lib.hid hfs
              clear hfs
              have hout := out_ok (lim := maxZ limit) hok
              have HOUT := Lib.hid hout
              clear hout
              obtain ⟨ys, hY⟩ : ∃ ys, restQ (maxZ limit) (fuelZ fuel) xs = ys := ⟨_, rfl⟩
              obtain ⟨O, hO⟩ : ∃ O, outR (maxZ limit) (fuelZ fuel) xs = O := ⟨_, rfl⟩
              obtain ⟨G, hG⟩ : ∃ G, goesB (maxZ limit) (fuelZ fuel) xs = G := ⟨_, rfl⟩
              rw [hY] at hokr hpr'
              rw [hY, hO, hG] at HFS
              rw [hO, hG] at HOUT
              have HST := Lib.hid (⟨hY, hO, hG⟩ : _ ∧ _ ∧ _)
              clear hY hO hG
              cases G
              · go_wp2_with (first
                  | (go_at_call 17; refine (lenQ_any qb xs.length cq Aq _ q2).mono ?_; rintro e w5 ⟨rfl, rfl⟩)
                  | (go_at_call 15; refine (stepq_any qb base (maxZ limit) (fuelZ fuel) v xs wr st.q st.oq hl20 st.size st.qhi hLm hok.1.wide).mono ?_; unfold StepPost; rw [HST.out.1, HST.out.2.1, HST.out.2.2]; rintro e w2 ⟨rfl, hP⟩))
                obtain ⟨v2, st2⟩ := st.turn hP
                have st3 := st2.to (w' := w2.alloc (.cells #[.string O.key, .int .i64 O.at_, .int .i64 O.v] 23)) (by go_grown)
                have hS' : Says D (fun kl => futK kq (maxZ limit) (fuelZ fuel) kl ys) := by
                  have e : (fun kl => futK kq (maxZ limit) (fuelZ fuel) kl ys) = (fun kl => futK kq (maxZ limit) (fuelZ fuel) kl xs) := by
                    funext kl
                    have := HFS.out kl
                    simp at this
                    rw [this]
                  rw [e]; exact hS
                go_roundw
                case rel => exact ⟨k + 1, n, ys, v2, D, by go_num, by omega, hokr, by omega, hS', st3⟩
                case measure => simp [intOf]; omega
              · have hOx := HOUT.out rfl
                have hO1 := hok.2 O hOx
                have hO2 := (hok.1.2 O hOx).1
                obtain ⟨kl, hkl⟩ := evKey hO1.2.1 hO1.2.2 (WalkArith.wf_i64 (n := O.v) (by omega))
                go_upto_block 5 with (go_at_call 17; refine (lenQ_any qb xs.length cq Aq _ q2).mono ?_; rintro e w5 ⟨rfl, rfl⟩)
                go_cut [] from 61 to 75 (fun wx => ∃ v' D', Says D' (fun kl => futK kq (maxZ limit) (fuelZ fuel) kl ys) ∧ QSt qb w.heap.size base (maxZ limit) (fuelZ fuel) v' ys (n + 1) D' w wx)
                case first =>
                  go_upto_region 24 with (go_at_call 15; refine (stepq_any qb base (maxZ limit) (fuelZ fuel) v xs wr st.q st.oq hl20 st.size st.qhi hLm hok.1.wide).mono ?_; unfold StepPost; rw [HST.out.1, HST.out.2.1, HST.out.2.2]; rintro e w2 ⟨rfl, hP⟩)
                  obtain ⟨v2, st2⟩ := st.turn hP
                  have st3 := st2.to (w' := w2.alloc (.cells #[.string O.key, .int .i64 O.at_, .int .i64 O.v] 23)) (by go_grown)
                  have bY := Blk.new w2 23 #[.string O.key, .int .i64 O.at_, .int .i64 O.v]
                  generalize hW3 : w2.alloc (.cells #[.string O.key, .int .i64 O.at_, .int .i64 O.v] 23) = W3 at *
                  clear hW3
                  have g0 : W3.cell? ⟨w2.heap.size, 0, none⟩ = some (.string O.key) := bY.cell 0
                  have g1 : W3.cell? ⟨w2.heap.size, 1, none⟩ = some (.int .i64 O.at_) := bY.cell 1
                  have g2 : W3.cell? ⟨w2.heap.size, 2, none⟩ = some (.int .i64 O.v) := bY.cell 2
                  obtain ⟨cc, stp, w4, eL, hat, hwc, eE, eL4, hSt⟩ := map_bump (w := W3.drew) lawEv Try.underlying44 Try.underlying3 zeroInt st3.mp.drew (show n < maxLen by unfold maxLen; omega) hkl
                  have hcc : cc = (fun kl => futK kq (maxZ limit) (fuelZ fuel) kl xs) kl := says_at hS hat
                  have hcb := futK_bd (q := kq) (maxZ limit) (fuelZ fuel) kl xs
                  have hcl := futK_bd (q := kq) (maxZ limit) (fuelZ fuel) kl l
                  have hcc2 : -100 ≤ cc ∧ cc ≤ 100 := by rw [hcc]; dsimp only; omega
                  obtain ⟨w5, eS, hm5, hg5⟩ := hSt (cc + -1) (WalkArith.wf_i64 (by omega))
                  have eS' : (Instr.entryStore 44 (.map (some w.heap.size)) (.int .i64 (stp : Int)) (.int .i64 (cc + -1))).run Try.prog w4 = .ok () w5 := eS
                  have eE' : (Instr.mapEntry 44 (.map (some w.heap.size)) (.agg #[.string O.key, .int .i64 O.at_, .int .i64 O.v])).run Try.prog W3.drew = .ok (.tuple #[.int .i64 cc, .int .i64 (stp : Int)]) w4 := eE
                  clear eS eE
                  have hwrap : IntKind.i64.wrap (cc + -1) = cc + -1 := IntWalk.i64_in _ (by omega)
                  have hm5' : Says (D.put kl (.lit (.int .i64 (cc + -1)))) (fun kl => futK kq (maxZ limit) (fuelZ fuel) kl ys) := by
                    refine says_put (q := kq) (r := O) (s := -1) hS ((hkq _ _ _).trans hkl) ((Keyed.of_law lawEv).key hkl) (by rw [hcc]) (fun k' => ?_)
                    have := HFS.out k'
                    first | rw [if_pos rfl] at this | rw [if_pos trivial] at this
                    try dsimp only
                    omega
                  have HM := Lib.hid hm5'
                  clear hm5' hcc hcb hcl
                  have st5 := st3.bump (w' := w5) (by exact hm5) ⟨hg5.os, hg5.tape, hg5.output, hg5.size, hg5.block⟩
                  go_region
                  all_goals
                    go_wp2_with fail
                    go_meet
                    exact ⟨_, _, HM.out, st5⟩
                case rest =>
                obtain ⟨v', D', hS', st'⟩ := hcut
                go_wp2_with fail
                go_roundw
                case rel => exact ⟨k + 1, n + 1, ys, v', D', by go_num, by omega, hokr, by omega, hS', st'⟩
                case measure => simp [intOf]; omega
    · have hz0 : ∀ kl, D.atKey kl (.lit (.int .i64 0)) = .lit (.int .i64 0) := fun kl => hS.2 kl
      have y0 := hbl.size
      go_wp2_with (at_range; refine wpList_range_own _ rfl _ 44 rfl 23 3 (Keyed.of_law lawEv) Try.underlying44 _ w.heap.size nD D rfl hm ?_; intro w0 hrg0 hg0 hs0)
      go_frame
      have hb0 : Below wB.heap.size wB w0 := ⟨hg0.os, hg0.tape, hg0.output, hg0.size, fun i hi => hg0.block i hi (by simp)⟩
      go_loopw [82] (fun _ wx => ∃ left cnt, wx.ranges Try.prog 23 (plainElem Try.prog 3) w.heap.size wB.heap.size nD D left cnt ∧ Below wB.heap.size wB wx) (fun _ wx => wx.rangeLeft w.heap.size wB.heap.size)
      case atStart => exact ⟨_, _, hrg0, hb0⟩
      case round =>
        obtain ⟨left, cnt, hrg, hbx⟩ := hrel
        go_wp2_with (at_next; refine wpList_next_ranges _ rfl _ rfl 23 (Keyed.of_law lawEv) (plainElem Try.prog 3) (fun x : Value => x) (Value.int .i64) (fun key kl h => ⟨key, rfl⟩) (fun v y hv => by obtain ⟨c, rfl, _⟩ := plainElem_int_inv Try.underlying3 hv; exact ⟨c, rfl⟩) w.heap.size wB.heap.size nD D _ _ rfl hrg ?_ ?_)
        · intro _ hl0
          go_wp2_with (go_at_call 11; refine (half_any _ _ (by omega)).mono ?_; rw [show halfZ 6 = 3 from rfl]; rintro e w3 ⟨rfl, rfl⟩)
          go_ret
          exact ⟨rfl, hbl.trans (hbx.mono hbl.size)⟩
        · intro x c kl y1 y2 w1' cnt1 hkx hlx hv hat hrg1 hlt hg1 hs1 hen
          obtain ⟨c1, ec, ey, _⟩ := plainElem_int_inv Try.underlying3 hv
          injection ey with ey _
          subst ey
          injection ec with _ ec
          subst ec
          have hc0 : c = 0 := by
            have := (hz0 kl).symm.trans (hat _)
            injection this with this
            injection this with _ this
            exact this.symm
          subst hc0
          go_wp2_with fail
          have hbN : Below wB.heap.size wB w1' := ⟨hg1.os.trans hbx.os, hg1.tape.trans hbx.tape, hg1.output.trans hbx.output, Nat.le_trans hbx.size hg1.size, fun i hi => (hg1.block i (Nat.lt_of_lt_of_le hi hbx.size) (fun e => by injection e with e; omega)).trans (hbx.block i hi)⟩
          go_roundw
          case rel => first | exact ⟨_, cnt1, hrg1, hbN⟩ | exact ⟨⟨_, cnt1, hrg1⟩, hbN⟩
          case measure => rw [hrg1.left_eq, hrg.left_eq]; omega
end Go.Proofs.Ytplfimaopegpmaa
