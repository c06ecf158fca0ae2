/- The walk of chapter 12's law LoopEnds. -/
import Derived.Test.YtplfimaopegpmaaQPl
import Derived.Deep.CutBlock
namespace Go.Proofs.Ytplfimaopegpmaa
open Go.RowKit
open Go.Maps (Keyed)
set_option linter.unusedVariables false
set_option linter.unusedSimpArgs false

theorem take_snoc {l : List Rnd} {j : Nat} (h : j < l.length) : l.take (j + 1) = l.take j ++ [l[j]] := by
  rw [List.take_add_one, List.getElem?_eq_getElem h]; rfl
theorem evs_take (l : List Rnd) (k : Nat) : evs (l.take k) = (evs l).take (k * 3) := by
  induction l generalizing k with
  | nil => simp [evs]
  | cons r l ih =>
    cases k with
    | zero => simp [evs]
    | succ k =>
      rw [List.take_succ_cons, evs_cons', evs_cons', ih, show (k + 1) * 3 = k * 3 + 1 + 1 + 1 by omega]
      simp
theorem reads_take {w : World} {B n : Nat} {A : Option Addr} {l : List Rnd} (h : Reads w B 3 A n (evs l)) {k : Nat} (hk : k ≤ n) : Reads w B 3 A k (evs (l.take k)) := by
  have hl := evs_len h
  obtain ⟨h1, h2⟩ := h
  refine ⟨by rw [evs_length, List.length_take]; omega, fun h0 => ?_⟩
  obtain ⟨ad, e, hb, hc⟩ := h2 (by omega)
  refine ⟨ad, e, hb, fun j u hu => hc j u ?_⟩
  rw [evs_take, List.getElem?_take] at hu
  split at hu
  · exact hu
  · cases hu

set_option maxRecDepth 100000 in
set_option maxHeartbeats 8000000 in
theorem walkEnds (limit fuel : Int) (A : Option Addr) (n0 c : Nat) (l0 : List Rnd) (w : World) (hL : -9223372036854775808 ≤ limit ∧ limit ≤ 9223372036854775807)
    (hr0 : Reads w w.heap.size 3 A n0 (evs l0)) (hlv0 : ∀ r ∈ l0, r.key.size ≤ maxLen ∧ r.n = 0 ∧ (Lit.int .i64 r.at_).wf = true ∧ (Lit.int .i64 r.v).wf = true) (hn0 : n0 ≤ 9223372036854775807) (hc : n0 ≤ c) :
    Calls Try.prog 8 #[.int .i64 limit, .int .i64 fuel, .slice A n0 c] w fun e w' => e = .returned (.bool true) ∧ Below w.heap.size w w' := by
  have hLm := maxZ_bd hL.2
  have hFm := fuelZ_bd fuel
  have hmx : ∀ x y : Int, (if x < y then y else x) = max x y := fun x y => by split <;> omega
  have hmn : ∀ x y : Int, (if x < y then x else y) = min y x := fun x y => by split <;> omega
  have hF : min (max fuel 0) 40 = fuelZ fuel := by unfold fuelZ; (repeat' split) <;> omega
  have hmm := @run_makeMap Try.prog
  obtain ⟨p, l, hp, hr, hlv, hpn⟩ : ∃ (p : Nat) (l : List Rnd), p ≤ 16 ∧ Reads w w.heap.size 3 A p (evs l) ∧ (∀ r ∈ l, r.key.size ≤ maxLen ∧ r.n = 0 ∧ (Lit.int .i64 r.at_).wf = true ∧ (Lit.int .i64 r.v).wf = true) ∧ ((n0 ≤ 16 ∧ p = n0) ∨ (16 < n0 ∧ p = 16)) := by
    by_cases h : n0 ≤ 16
    · exact ⟨n0, l0, h, hr0, hlv0, .inl ⟨h, rfl⟩⟩
    · exact ⟨16, l0.take 16, by omega, reads_take hr0 (by omega), fun r hr => hlv0 r (List.mem_of_mem_take hr), .inr ⟨by omega, rfl⟩⟩
  clear hr0 hlv0
  have hll := evs_len hr
  obtain ⟨kq, hkq⟩ : ∃ kq : ByteArray → Int → Int → Option Lit, ∀ a b d, kq a b d = keyOf Try.prog 23 (.agg #[.string a, .int .i64 b, .int .i64 d]) := ⟨fun a b d => keyOf Try.prog 23 (.agg #[.string a, .int .i64 b, .int .i64 d]), fun _ _ _ => rfl⟩
  go_enter Try.func8, Try.ntmps8
  go_upto_if 19 with fail
  go_cut [2] from 17 to 21 (fun s2 wx => ∃ c', s2 = .slice A p c' ∧ w = wx)
  case first =>
    rcases hpn with ⟨h1, rfl⟩ | ⟨h1, rfl⟩
    · go_wp2_with fail
      go_meet
      exact ⟨_, rfl, rfl⟩
    · go_wp2_with fail
      go_meet
      exact ⟨_, rfl, rfl⟩
  case rest =>
  obtain ⟨c', rfl, rfl⟩ := hcut
  go_wp2_with (go_at_call 13; refine (newQ_any _ _ _).mono ?_; rintro e w1 ⟨qb, rfl, hqb, bQ, hb1⟩)
  clear hmm
  have y1 := hb1.size
  have st0 : QSt qb w1.heap.size (w1.heap.size + 1) (maxZ limit) (fuelZ fuel) (.slice none 0 0) (l.take 0) 0 (.map []) w (w1.alloc (.map #[] 0)) :=
    ⟨bQ.alloc _, World.ownsRow_nil _ _ _ _, World.ownsMap_made _ _ _ _, hb1.alloc y1 _, by simp, hqb, y1, by have := bQ.lt; omega⟩
  generalize w1.alloc (.map #[] 0) = W1 at *
  obtain ⟨mb, hmb⟩ : ∃ mb, w1.heap.size = mb := ⟨_, rfl⟩
  rw [hmb] at st0 ⊢
  obtain ⟨base, hbase⟩ : ∃ b, mb + 1 = b := ⟨_, rfl⟩
  rw [hbase] at st0
  clear bQ hb1 y1 hmb hbase hqb
  have okl : ∀ j, j ≤ p → okP (fuelZ fuel) (l.take j) := fun j hj => ⟨⟨by rw [List.length_take]; omega, fun r hr => by
      have h := hlv r (List.mem_of_mem_take hr)
      exact ⟨i64_of h.2.2.2, by omega, by omega⟩⟩, fun r hr => by
      have h := hlv r (List.mem_of_mem_take hr)
      exact ⟨by omega, h.1, h.2.2.1⟩⟩
  go_loopw [30] (fun i wr => ∃ (j : Nat) (v : Value) (D : DataW Unit), i = .int .i64 j ∧ j ≤ p ∧ Says D (fun kl => futK kq (maxZ limit) (fuelZ fuel) kl (l.take j)) ∧ QSt qb mb base (maxZ limit) (fuelZ fuel) v (l.take j) j D w wr)
    (fun i _ => p - (intOf i).toNat)
  case atStart => exact ⟨0, _, _, rfl, by omega, says_empty _ (fun kl => rfl), st0⟩
  case round =>
    clear st0
    obtain ⟨j, v, D, rfl, hjp, hS, st⟩ := hrel
    have kB := st.below
    by_cases hj : j < p
    · obtain ⟨ad, hjl, rfl, had, p0, p1, p2⟩ := evs_get (hr.below kB) hj
      have hlj := hlv l[j] (List.getElem_mem hjl)
      have hvj := i64_of hlj.2.2.2
      have hlen : (l.take j).length = j := by rw [List.length_take]; omega
      have hokj := okl j hjp
      have hlt16 : (l.take j).length < 16 := by omega
      have hej : (⟨l[j].key, l[j].at_, l[j].v, 0⟩ : Rnd) = l[j] := by rw [← hlj.2.1]
      have htk : l.take (j + 1) = l.take j ++ [l[j]] := take_snoc hjl
      obtain ⟨fv, fn, hrun⟩ : ∃ fv fn, runZ (maxZ limit) (fuelZ fuel).toNat l[j].v = (fv, fn) := ⟨_, _, rfl⟩
      have hfn := run_le (maxZ limit) (fuelZ fuel).toNat l[j].v
      have hfv := run_bd (maxZ limit) (fuelZ fuel).toNat l[j].v hvj
      rw [hrun] at hfn hfv
      simp only at hfn hfv
      have hfn' : (fn : Int) ≤ fuelZ fuel := by omega
      clear hfn
      have hfin : finR (maxZ limit) (fuelZ fuel) l[j] = ⟨l[j].key, l[j].at_, fv, 0⟩ := by
        unfold finR
        rw [hlj.2.1, Int.sub_zero, hrun]
      have HR := Lib.hid hrun
      clear hrun
      obtain ⟨kl, hkl⟩ := evKey hlj.1 hlj.2.2.1 (WalkArith.wf_i64 (n := fv) (by omega))
      have stA := st.to (w' := wr.alloc (.cells #[.string l[j].key, .int .i64 l[j].at_, .int .i64 l[j].v] 23)) (by go_grown)
      have bX := Blk.new wr 23 #[.string l[j].key, .int .i64 l[j].at_, .int .i64 l[j].v]
      have nX : wr.heap.size ≠ qb := by have := st.q.lt; omega
      have hvX : v.ownBlock ≠ some wr.heap.size := fun e => by have := (st.oq.lt _ e).2; omega
      go_upto_block 1 with fail
      go_cut [] from 31 to 56 (fun wx => ∃ v' D', Says D' (fun kl => futK kq (maxZ limit) (fuelZ fuel) kl (l.take (j + 1))) ∧ QSt qb mb base (maxZ limit) (fuelZ fuel) v' (l.take (j + 1)) (j + 1) D' w wx)
      case first =>
        go_upto_region 15 with (first
          | (go_at_call 14; refine (putq_any qb base (l.take j).length (maxZ limit) (fuelZ fuel) v (l.take j) _ _ _ _ stA.q stA.oq hlt16 rfl stA.size stA.qhi).mono ?_; rintro e w2 ⟨rfl, hP⟩; have bX2 := hP.blk bX rfl bX.lt nX hvX; have x0 : w2.cell? ⟨wr.heap.size, 0, none⟩ = some (.string l[j].key) := bX2.cell 0; have x1 : w2.cell? ⟨wr.heap.size, 1, none⟩ = some (.int .i64 l[j].at_) := bX2.cell 1; have x2 : w2.cell? ⟨wr.heap.size, 2, none⟩ = some (.int .i64 l[j].v) := bX2.cell 2)
          | (go_at_call 9; refine (run_any _ _ _ _ _ w2 hvj hL.2).mono ?_; rw [HR.out]; rintro e w3 ⟨rfl, hb3⟩))
        rw [hej, ← htk] at hP
        obtain ⟨v2, st2⟩ := stA.turn hP
        have st3 := (st2.to hb3).to (w' := w3.alloc (.cells #[.string l[j].key, .int .i64 l[j].at_, .int .i64 fv] 23)) (by go_grown)
        have bY := Blk.new w3 23 #[.string l[j].key, .int .i64 l[j].at_, .int .i64 fv]
        generalize hW3 : w3.alloc (.cells #[.string l[j].key, .int .i64 l[j].at_, .int .i64 fv] 23) = W3 at *
        clear hW3 x0 x1 x2
        have g0 : W3.cell? ⟨w3.heap.size, 0, none⟩ = some (.string l[j].key) := bY.cell 0
        have g1 : W3.cell? ⟨w3.heap.size, 1, none⟩ = some (.int .i64 l[j].at_) := bY.cell 1
        have g2 : W3.cell? ⟨w3.heap.size, 2, none⟩ = some (.int .i64 fv) := bY.cell 2
        obtain ⟨cc, stp, w4, eL, hat, hwc, eE, eL4, hSt⟩ := map_bump (w := W3.drew) lawEv Try.underlying44 Try.underlying3 zeroInt st3.mp.drew (show j < maxLen by unfold maxLen; omega) hkl
        have hcc : cc = futK kq (maxZ limit) (fuelZ fuel) kl (l.take j) := says_at hS hat
        have hcb := futK_bd (q := kq) (maxZ limit) (fuelZ fuel) kl (l.take j)
        rw [← hcc] at hcb
        obtain ⟨w5, eS, hm5, hg5⟩ := hSt (cc + 1) (WalkArith.wf_i64 (by omega))
        have eS' : (Instr.entryStore 44 (.map (some mb)) (.int .i64 (stp : Int)) (.int .i64 (cc + 1))).run Try.prog w4 = .ok () w5 := eS
        have eE' : (Instr.mapEntry 44 (.map (some mb)) (.agg #[.string l[j].key, .int .i64 l[j].at_, .int .i64 fv])).run Try.prog W3.drew = .ok (.tuple #[.int .i64 cc, .int .i64 (stp : Int)]) w4 := eE
        clear eS eE
        have hwrap : IntKind.i64.wrap (cc + 1) = cc + 1 := IntWalk.i64_in _ (by omega)
        have hm5' : Says (D.put kl (.lit (.int .i64 (cc + 1)))) (fun kl => futK kq (maxZ limit) (fuelZ fuel) kl (l.take (j + 1))) := by
          refine says_put (q := kq) (r := ⟨l[j].key, l[j].at_, fv, 0⟩) (s := 1) hS ((hkq _ _ _).trans hkl) ((Keyed.of_law lawEv).key hkl) (by rw [hcc]) (fun k' => ?_)
          show futK kq (maxZ limit) (fuelZ fuel) k' (l.take (j + 1)) = futK kq (maxZ limit) (fuelZ fuel) k' (l.take j) + 1 * oneK kq k' ⟨l[j].key, l[j].at_, fv, 0⟩
          rw [htk, futK_append, ← hfin]
          show _ + (oneK kq k' (finR (maxZ limit) (fuelZ fuel) l[j]) + 0) = _
          omega
        have HM := Lib.hid hm5'
        clear hm5' hcc
        have st5 := st3.bump (w' := w5) (by exact hm5) ⟨hg5.os, hg5.tape, hg5.output, hg5.size, hg5.block⟩
        go_region
        all_goals
          go_wp2_with fail
          go_meet
          exact ⟨_, _, HM.out, st5⟩
      case rest =>
      obtain ⟨v', D', hS', st'⟩ := hcut
      go_wp2_with fail
      go_roundw
      case rel => exact ⟨j + 1, v', D', by go_num, by omega, hS', st'⟩
      case measure => simp [intOf]; omega
    · obtain rfl : j = p := by omega
      rw [show l.take j = l from List.take_of_length_le (by omega)] at hS st
      have hok0 := okl j (Nat.le_refl _)
      rw [show l.take j = l from List.take_of_length_le (by omega)] at hok0
      obtain ⟨N, hN⟩ := Int.eq_ofNat_of_zero_le (show 0 ≤ (j : Int) * (fuelZ fuel + 1) from Int.mul_nonneg (by omega) (by omega))
      have hN656 : N ≤ 656 := by
        have h1 : (j : Int) * (fuelZ fuel + 1) ≤ 16 * 41 := Int.mul_le_mul (by omega) (by omega) (by omega) (by omega)
        omega
      have hpot0 : potZ (fuelZ fuel) l = N := by
        rw [← hN, ← hll]
        have hz : ∀ r ∈ l, r.n = 0 := fun r hr => (hlv r hr).2.1
        clear hS st hok0 hN okl hlv hr hll hj hjp hpn hp
        induction l with
        | nil => simp [potZ]
        | cons r l ih =>
          have h1 := ih fun x hx => hz x (by simp [hx])
          have h0 := hz r (by simp)
          simp only [potZ, List.length_cons, h1, h0]
          rw [show (((l.length + 1 : Nat) : Int)) = (l.length : Int) + 1 by omega, Int.add_mul]
          omega
      have hw1 : IntKind.i64.wrap (fuelZ fuel + 1) = fuelZ fuel + 1 := IntWalk.i64_in _ (by omega)
      have hw2 : IntKind.i64.wrap ((j : Int) * (fuelZ fuel + 1)) = (N : Int) := by rw [hN]; exact IntWalk.i64_in _ (by omega)
      clear hN
      go_wp2_with fail
      have hpot1 : potZ (fuelZ fuel) l ≤ (N : Int) := by omega
      clear hpot0 hok0
      have hok0 : okP (fuelZ fuel) l := by have := okl j (Nat.le_refl _); rwa [show l.take j = l from List.take_of_length_le (by omega)] at this
      generalize hl' : l = xs0 at hS st hok0 hpot1
      have hj16 : j ≤ 16 := by omega
      clear hl'
      go_loopw [64] (fun i wr => ∃ (k n : Nat) (xs : List Rnd) (v : Value) (D : DataW Unit), i = .int .i64 k ∧ k ≤ N ∧ n ≤ 16 + k ∧ okP (fuelZ fuel) xs ∧ potZ (fuelZ fuel) xs ≤ (N : Int) - k ∧ Says D (fun kl => futK kq (maxZ limit) (fuelZ fuel) kl xs) ∧ QSt qb mb base (maxZ limit) (fuelZ fuel) v xs n D w wr)
        (fun i _ => N - (intOf i).toNat)
      case atStart => exact ⟨0, _, _, _, _, rfl, by omega, by omega, hok0, by omega, hS, st⟩
      case round =>
        clear hS st hok0 hpot1
        obtain ⟨k, n, xs, v, D, rfl, hkN, hn, hok, hpot, hS, st⟩ := hrel
        have kB' := st.below
        by_cases hk : k < N
        · have hwk : IntKind.i64.wrap ((k : Int) + 1) = (k : Int) + 1 := IntWalk.i64_in _ (by omega)
          have hl20 : xs.length ≤ 20 := by have := hok.1.1; omega
          have hokr := hok.rest (lim := maxZ limit) hFm.2
          have hpr := pot_rest' (lim := maxZ limit) hok
          have hpr' : potZ (fuelZ fuel) (restQ (maxZ limit) (fuelZ fuel) xs) ≤ (N : Int) - ((k : Int) + 1) := by omega
          clear hpr
          have hfs := fun kl => fut_step (q := kq) (lim := maxZ limit) (F := fuelZ fuel) (xs := xs) kl
          have HFS := Lib.hid hfs
          clear hfs
          have hout := out_ok (lim := maxZ limit) hok
          have HOUT := Lib.hid hout
          clear hout
          obtain ⟨ys, hY⟩ : ∃ ys, restQ (maxZ limit) (fuelZ fuel) xs = ys := ⟨_, rfl⟩
          obtain ⟨O, hO⟩ : ∃ O, outR (maxZ limit) (fuelZ fuel) xs = O := ⟨_, rfl⟩
          obtain ⟨G, hG⟩ : ∃ G, goesB (maxZ limit) (fuelZ fuel) xs = G := ⟨_, rfl⟩
          rw [hY] at hokr hpr'
          rw [hY, hO, hG] at HFS
          rw [hO, hG] at HOUT
          have HST := Lib.hid (⟨hY, hO, hG⟩ : _ ∧ _ ∧ _)
          clear hY hO hG
          cases G
          · go_wp2_with (go_at_call 15; refine (stepq_any qb base (maxZ limit) (fuelZ fuel) v xs wr st.q st.oq hl20 st.size st.qhi hLm hok.1.wide).mono ?_; unfold StepPost; rw [HST.out.1, HST.out.2.1, HST.out.2.2]; rintro e w2 ⟨rfl, hP⟩)
            obtain ⟨v2, st2⟩ := st.turn hP
            have st3 := st2.to (w' := w2.alloc (.cells #[.string O.key, .int .i64 O.at_, .int .i64 O.v] 23)) (by go_grown)
            have hS' : Says D (fun kl => futK kq (maxZ limit) (fuelZ fuel) kl ys) := by
              have e : (fun kl => futK kq (maxZ limit) (fuelZ fuel) kl ys) = (fun kl => futK kq (maxZ limit) (fuelZ fuel) kl xs) := by
                funext kl
                have := HFS.out kl
                simp at this
                exact this.symm
              rw [e]; exact hS
            go_roundw
            case rel => exact ⟨k + 1, n, ys, v2, D, by go_num, by omega, by omega, hokr, by omega, hS', st3⟩
            case measure => simp [intOf]; omega
          · have hOx := HOUT.out rfl
            have hO1 := hok.2 O hOx
            have hO2 := (hok.1.2 O hOx).1
            obtain ⟨kl, hkl⟩ := evKey hO1.2.1 hO1.2.2 (WalkArith.wf_i64 (n := O.v) (by omega))
            go_upto_block 3 with fail
            go_cut [] from 65 to 82 (fun wx => ∃ v' D', Says D' (fun kl => futK kq (maxZ limit) (fuelZ fuel) kl ys) ∧ QSt qb mb base (maxZ limit) (fuelZ fuel) v' ys (n + 1) D' w wx)
            case first =>
              go_upto_region 21 with (go_at_call 15; refine (stepq_any qb base (maxZ limit) (fuelZ fuel) v xs wr st.q st.oq hl20 st.size st.qhi hLm hok.1.wide).mono ?_; unfold StepPost; rw [HST.out.1, HST.out.2.1, HST.out.2.2]; rintro e w2 ⟨rfl, hP⟩)
              obtain ⟨v2, st2⟩ := st.turn hP
              have st3 := st2.to (w' := w2.alloc (.cells #[.string O.key, .int .i64 O.at_, .int .i64 O.v] 23)) (by go_grown)
              have bY := Blk.new w2 23 #[.string O.key, .int .i64 O.at_, .int .i64 O.v]
              generalize hW3 : w2.alloc (.cells #[.string O.key, .int .i64 O.at_, .int .i64 O.v] 23) = W3 at *
              clear hW3
              have g0 : W3.cell? ⟨w2.heap.size, 0, none⟩ = some (.string O.key) := bY.cell 0
              have g1 : W3.cell? ⟨w2.heap.size, 1, none⟩ = some (.int .i64 O.at_) := bY.cell 1
              have g2 : W3.cell? ⟨w2.heap.size, 2, none⟩ = some (.int .i64 O.v) := bY.cell 2
              obtain ⟨c1, eL1, hat1, _⟩ := st3.mp.lookup_int (Keyed.of_law lawEv) Try.underlying44 Try.underlying3 (zeroInt _) hkl
              obtain ⟨cc, stp, w4, eL, hat, hwc, eE, eL4, hSt⟩ := map_bump (w := W3.drew) lawEv Try.underlying44 Try.underlying3 zeroInt st3.mp.drew (show n < maxLen by unfold maxLen; omega) hkl
              have hcc : cc = futK kq (maxZ limit) (fuelZ fuel) kl xs := says_at hS hat
              have hc1 : c1 = futK kq (maxZ limit) (fuelZ fuel) kl xs := says_at hS hat1
              obtain rfl : c1 = cc := by rw [hcc, hc1]
              have hcb := futK_bd (q := kq) (maxZ limit) (fuelZ fuel) kl xs
              have hcy := futK_bd (q := kq) (maxZ limit) (fuelZ fuel) kl ys
              have hstep := HFS.out kl
              first | rw [if_pos rfl] at hstep | rw [if_pos trivial] at hstep
              rw [oneK_self ((hkq _ _ _).trans hkl) ((Keyed.of_law lawEv).key hkl)] at hstep
              rw [← hcc] at hcb hstep
              obtain ⟨w5, eS, hm5, hg5⟩ := hSt (c1 - 1) (WalkArith.wf_i64 (by omega))
              have eS' : (Instr.entryStore 44 (.map (some mb)) (.int .i64 (stp : Int)) (.int .i64 (c1 - 1))).run Try.prog w4 = .ok () w5 := eS
              have eE' : (Instr.mapEntry 44 (.map (some mb)) (.agg #[.string O.key, .int .i64 O.at_, .int .i64 O.v])).run Try.prog W3.drew = .ok (.tuple #[.int .i64 c1, .int .i64 (stp : Int)]) w4 := eE
              clear eS eE
              have hwrap : IntKind.i64.wrap (c1 - 1) = c1 - 1 := IntWalk.i64_in _ (by omega)
              have hnz : (c1 == 0) = false := by simp; omega
              have hm5' : Says (D.put kl (.lit (.int .i64 (c1 - 1)))) (fun kl => futK kq (maxZ limit) (fuelZ fuel) kl ys) := by
                refine says_put (q := kq) (r := O) (s := -1) hS ((hkq _ _ _).trans hkl) ((Keyed.of_law lawEv).key hkl) (by rw [hcc]; omega) (fun k' => ?_)
                show futK kq (maxZ limit) (fuelZ fuel) k' ys = futK kq (maxZ limit) (fuelZ fuel) k' xs + -1 * oneK kq k' O
                have := HFS.out k'
                first | rw [if_pos rfl] at this | rw [if_pos trivial] at this
                omega
              have HM := Lib.hid hm5'
              clear hm5' hcc hc1 hstep hcb hcy
              have st5 := st3.bump (w' := w5) (by exact hm5) ⟨hg5.os, hg5.tape, hg5.output, hg5.size, hg5.block⟩
              go_upto_region 23 with fail
              go_region
              all_goals
                go_wp2_with fail
                go_meet
                exact ⟨_, _, HM.out, st5⟩
            case rest =>
            obtain ⟨v', D', hS', st'⟩ := hcut
            go_wp2_with fail
            go_roundw
            case rel => exact ⟨k + 1, n + 1, ys, v', D', by go_num, by omega, by omega, hokr, by omega, hS', st'⟩
            case measure => simp [intOf]; omega
        · have hxs : xs = [] := by
            have := pot_pos hok
            exact List.eq_nil_of_length_eq_zero (by omega)
          subst hxs
          obtain ⟨Aq, cq, hv⟩ := own_form st.oq
          subst hv
          obtain ⟨wA, rfl⟩ : ∃ wA, wA = wr := ⟨_, rfl⟩
          have hz0 : ∀ kl, D.atKey kl (.lit (.int .i64 0)) = .lit (.int .i64 0) := fun kl => hS.2 kl
          go_wp2_with (at_range; refine wpList_range_own _ rfl _ 44 rfl 23 3 (Keyed.of_law lawEv) Try.underlying44 _ mb n D rfl st.mp ?_; intro w0 hrg0 hg0 hs0)
          go_frame
          have hb0 : Below wA.heap.size wA w0 := ⟨hg0.os, hg0.tape, hg0.output, hg0.size, fun i hi => hg0.block i hi (by simp)⟩
          go_loopw [85] (fun _ wx => ∃ left cnt, wx.ranges Try.prog 23 (plainElem Try.prog 3) mb wA.heap.size n D left cnt ∧ Below wA.heap.size wA wx) (fun _ wx => wx.rangeLeft mb wA.heap.size)
          case atStart => exact ⟨_, _, hrg0, hb0⟩
          case round =>
            obtain ⟨left, cnt, hrg, hbx⟩ := hrel
            go_wp2_with (at_next; refine wpList_next_ranges _ rfl _ rfl 23 (Keyed.of_law lawEv) (plainElem Try.prog 3) (fun x : Value => x) (Value.int .i64) (fun key kl h => ⟨key, rfl⟩) (fun v y hv => by obtain ⟨c, rfl, _⟩ := plainElem_int_inv Try.underlying3 hv; exact ⟨c, rfl⟩) mb wA.heap.size n D _ _ rfl hrg ?_ ?_)
            · intro _ hl0
              have stx := st.to hbx
              go_wp2_with (first
                | (go_at_call 17; refine (lenQ_any qb 0 cq Aq _ (stx.q.cell 2)).mono ?_; rintro e w5 ⟨rfl, rfl⟩)
                | (go_at_call 11; refine (half_any _ _ (by omega)).mono ?_; rw [show halfZ 6 = 3 from rfl]; rintro e w3 ⟨rfl, rfl⟩))
              go_ret
              exact ⟨rfl, stx.below⟩
            · intro x c kl y1 y2 w1' cnt1 hkx hlx hv hat hrg1 hlt hg1 hs1 hen
              obtain ⟨c1, ec, ey, _⟩ := plainElem_int_inv Try.underlying3 hv
              injection ey with ey _
              subst ey
              injection ec with _ ec
              subst ec
              have hc0 : c = 0 := by
                have := (hz0 kl).symm.trans (hat _)
                injection this with this
                injection this with _ this
                exact this.symm
              subst hc0
              go_wp2_with fail
              go_roundw
              case rel => exact ⟨_, cnt1, hrg1, ⟨hg1.os.trans hbx.os, hg1.tape.trans hbx.tape, hg1.output.trans hbx.output, Nat.le_trans hbx.size hg1.size, fun i hi => (hg1.block i (Nat.lt_of_lt_of_le hi hbx.size) (fun e => by injection e with e; omega)).trans (hbx.block i hi)⟩⟩
              case measure => rw [hrg1.left_eq, hrg.left_eq]; omega
end Go.Proofs.Ytplfimaopegpmaa
