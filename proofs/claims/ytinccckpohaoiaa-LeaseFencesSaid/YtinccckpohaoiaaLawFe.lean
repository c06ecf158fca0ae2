/- The walk of chapter 16's law LeaseFences. -/
import Derived.Test.YtinccckpohaoiaaFenP
import Derived.Test.YtinccckpohaoiaaActf
import Derived.Test.YtinccckpohaoiaaMapR
import Derived.Deep.RegionHeld3
import Derived.Deep.CutRange
import Derived.Deep.CutBlock
import Derived.BigQuiet
namespace Go.Proofs.Ytinccckpohaoiaa
open Go.RowKit
open Go.Maps (Keyed)
set_option linter.unusedVariables false
set_option linter.unusedSimpArgs false

theorem alloc_cell {w : World} {a : Addr} {v : Value} (ha : a.block < w.heap.size) (h : w.cell? a = some v) : ∀ o : Obj, (w.alloc o).cell? a = some v := fun o => (World.cell?_alloc_lt w o a ha).trans h
theorem undrew3 {W x : World} (h : Below W.drew.heap.size W.drew x) : Below W.heap.size W x := ⟨h.os, h.tape, h.output, h.size, h.block⟩
theorem lawFe : WideMaps.KeyLaw Try.prog 49 := deep_law_laid laidOut (m := 2) (by omega) (of_decide_eq_true (by kernel_rfl)) (by kernel_rfl) (by rw [Try.underlying49])
theorem feKey_gen {P : Program} {k : TypeId} {f0 f1 : Field} (h1 : P.keyType k = true) (hu : P.underlying k = some (.struct #[f0, f1])) (hC : P.cellsOf k = 2) (n0 : (f0.name != "_") = true) (n1 : (f1.name != "_") = true)
    (o0 : f0.offset = 0) (o1 : f1.offset = 1) (c0 : P.cellsOf f0.type = 1) (c1 : P.cellsOf f1.type = 1)
    (u0 : P.underlying f0.type = some (.int .i64)) (u1 : P.underlying f1.type = some (.int .i64)) (hp : 0 < P.types.size)
    {a v : Int} (ha : (Lit.int .i64 a).wf = true) (hv : (Lit.int .i64 v).wf = true) : ∃ kl, keyOf P k (.agg #[.int .i64 a, .int .i64 v]) = some kl := by
  obtain ⟨m, hm⟩ : ∃ m, P.types.size = m + 1 := ⟨P.types.size - 1, by omega⟩
  refine Option.isSome_iff_exists.1 ?_
  simp [keyOf, h1, Value.formed, hu, hC, n0, n1, o0, o1, c0, c1, u0, u1, hm, Program.keyLits, Value.cells, ha, hv]
theorem feKey {a v : Int} (ha : (Lit.int .i64 a).wf = true) (hv : (Lit.int .i64 v).wf = true) : ∃ kl, keyOf Try.prog 49 (.agg #[.int .i64 a, .int .i64 v]) = some kl :=
  feKey_gen (by kernel_rfl) Try.underlying49 (by kernel_rfl) rfl rfl rfl rfl (by kernel_rfl) (by kernel_rfl) Try.underlying3 Try.underlying3 (of_decide_eq_true (by kernel_rfl)) ha hv
theorem FenQ.keys {ls : List Lse} {last : Int} : ∀ key val, FenQ ls last key val → ∃ l, keyOf Try.prog 49 key = some l := by
  rintro key val ⟨x, b, rfl, rfl, h1, h2, _⟩
  exact feKey h1 h2
/-- A token with its group, and whether it is said to be fenced. -/
structure Giv where
  grp : Int
  tok : Int
structure Isb where
  yes : Bool
def mkG (x : Giv) : Value := .agg #[.int .i64 x.grp, .int .i64 x.tok]
theorem FenQ.inv {ls : List Lse} {last : Int} : ∀ key val, FenQ ls last key val → ∃ (x : Giv) (c : Isb), key = mkG x ∧ val = .bool c.yes := by
  rintro key val ⟨x, b, rfl, rfl, _⟩
  exact ⟨⟨x.1, x.2⟩, ⟨b⟩, rfl, rfl⟩
/-- A table and the map of tokens in memory. -/
def FeM (tb mb p : Nat) (ls : List Lse) (last : Int) (w : World) : Prop :=
  ∃ A c ne, Blk w tb 24 #[.slice A p c, .int .i64 last] ∧ Reads w w.heap.size 3 A p (flat ls) ∧ p ≤ c ∧ (∀ ad, A = some ad → ad.block ≠ tb ∧ ad.block ≠ mb) ∧ Ents w mb ne (FenQ ls last)
theorem Ents.set {w : World} {b n : Nat} {Q : Value → Value → Prop} (h : Ents w b n Q) {q : Addr} (hq : b ≠ q.block) (u : Value) : Ents (w.setCell q u) b n Q := h.heap (Below.heap_setCell w q u b hq)
theorem Ents.grown {w w' : World} {b n : Nat} {row : Option Nat} {Q : Value → Value → Prop} (h : Ents w b n Q) (hg : w.grownBy w' row) (hb : some b ≠ row) : Ents w' b n Q := h.heap (hg.block b h.lt hb)
theorem reads_grown {w w1 : World} {s n : Nat} {A : Option Addr} {x : List Value} {row : Option Nat} (h : Reads w w.heap.size s A n x) (hg : w.grownBy w1 row) (hd : ∀ ad, A = some ad → row ≠ some ad.block) : Reads w1 w1.heap.size s A n x :=
  ⟨h.1, fun hn => by
    obtain ⟨ad, e, hb, hc⟩ := h.2 hn
    refine ⟨ad, e, Nat.lt_of_lt_of_le hb hg.size, fun j v hv => (World.cell?_of_block ?_).trans (hc j v hv)⟩
    rw [block_of_add]
    exact hg.block _ hb (fun e' => hd ad e e'.symm)⟩
theorem grown_set (w : World) (q : Addr) (u : Value) : w.grownBy (w.setCell q u) (some q.block) := ⟨rfl, rfl, rfl, by simp, fun k _ hk => Below.heap_setCell w q u k (fun e => hk (by rw [e]))⟩
theorem below_grown {B : Nat} {a w w' : World} {b : Nat} (h : Below B a w) (hs : a.heap.size ≤ w.heap.size) (hg : w.grownBy w' (some b)) (hb : B ≤ b) (hB : B ≤ w.heap.size) : Below B a w' :=
  ⟨hg.os.trans h.os, hg.tape.trans h.tape, hg.output.trans h.output, Nat.le_trans h.size hg.size, fun i hi => (hg.block i (Nat.lt_of_lt_of_le hi hB) (fun e => by injection e with e; omega)).trans (h.block i hi)⟩
theorem FeM.below {tb mb p : Nat} {ls : List Lse} {last : Int} {w w' : World} (h : FeM tb mb p ls last w) (hb : Below w.heap.size w w') : FeM tb mb p ls last w' := by
  obtain ⟨A, c, ne, bT, rd, hc, hA, EN⟩ := h
  exact ⟨A, c, ne, bT.below hb bT.lt, reads_below rd hb, hc, hA, EN.below hb EN.lt⟩
/-- A table is stored. -/
theorem fe_store {tb mb p n c ne : Nat} {rl : List Lse} {last rlast : Int} {w : World} {A A2 : Option Addr} {c2 : Nat} (bT : Blk w tb 24 #[.slice A n c, .int .i64 last]) (rd : Reads w w.heap.size 3 A2 p (flat rl)) (hc : p ≤ c2) (hA : ∀ ad, A2 = some ad → ad.block ≠ tb ∧ ad.block ≠ mb) (hm : mb ≠ tb) (EN : Ents w mb ne (FenQ rl rlast)) :
    FeM tb mb p rl rlast ((w.setCell ⟨tb, 0, none⟩ (.slice A2 p c2)).setCell ⟨tb, 1, none⟩ (.int .i64 rlast)) := by
  have hd : ∀ ad, A2 = some ad → some tb ≠ some ad.block := fun ad e h => (hA ad e).1 (by injection h with h; exact h.symm)
  exact ⟨A2, c2, ne, by simpa using (bT.set_ 0 (.slice A2 p c2)).set_ 1 (.int .i64 rlast), reads_grown (reads_grown rd (grown_set _ _ _) hd) (grown_set _ _ _) hd, hc, hA, (EN.set (q := ⟨tb, 0, none⟩) hm _).set (q := ⟨tb, 1, none⟩) hm _⟩
theorem counts_eq {ls : List Lse} {last now : Int} (h : rightT ls last = true) {g : Nat} (hg : g < ls.length) : (decide (0 < ls[g].own) && decide (clampZ now < ls[g].til)) = countsB now ls[g] := by
  have hb := (rightT_iff2.1 h).2.2.1 g hg
  rw [badB_false] at hb
  unfold countsB
  congr 1
  rw [Bool.eq_iff_iff]
  simp
  omega
theorem addZ_bd (a b : Int) : 0 ≤ addZ a b ∧ addZ a b ≤ 1099511627776 := by
  rw [addZ_ref]
  have h1 : 0 ≤ clampZ a := by unfold clampZ; (repeat' split) <;> omega
  have h2 : 0 ≤ clampZ b := by unfold clampZ; (repeat' split) <;> omega
  split <;> omega

set_option maxRecDepth 100000 in
set_option maxHeartbeats 4000000 in
theorem walkFences (groups : Int) (A : Option Addr) (n c : Nat) (w : World) (hacts : ActsR w w.heap.size A n) (hm : n ≤ 9223372036854775807) :
    Calls Try.prog 7 #[.int .i64 groups, .slice A n c] w fun e w' => e = .returned (.bool true) ∧ Below w.heap.size w w' := by
  have hmx : ∀ x y : Int, (if x < y then y else x) = max x y := fun x y => by split <;> omega
  have hmn : ∀ x y : Int, (if x < y then x else y) = min y x := fun x y => by split <;> omega
  have hmm := @run_makeMap Try.prog
  obtain ⟨p, hP, hp⟩ : ∃ p : Nat, min (max groups 1) 32 = p ∧ 1 ≤ p ∧ p ≤ 32 := ⟨(min (max groups 1) 32).toNat, by omega, by omega, by omega⟩
  have hpz : ((p : Int) == 0) = false := by simp; omega
  have HN := Lib.hid (show newZ p = ((freeL p, 0), 0) from by unfold newZ; rw [if_pos (by omega), Int.toNat_natCast])
  have HFL := Lib.hid (freeL_length p)
  have HF := Lib.hid (free_right hp)
  have HA := Lib.hid hacts
  clear hacts
  go_enter Try.func7, Try.ntmps7
  go_wp2_with fail
  refine (new_any p _).mono ?_
  rw [HN.out]
  rintro e w1 ⟨A1, c1, rfl, hr1, hc1, hf1, hb1⟩
  try simp only at hr1 hc1
  rw [HFL.out] at hr1 hc1 ⊢
  go_wp2_with fail
  have bT0 : Blk ((w1.alloc (.cells #[.slice A1 p c1, .int .i64 0] 24)).alloc (.map #[] 0)) w1.heap.size 24 #[.slice A1 p c1, .int .i64 0] := (Blk.new w1 _ _).alloc _
  have rd0 : Reads ((w1.alloc (.cells #[.slice A1 p c1, .int .i64 0] 24)).alloc (.map #[] 0)) ((w1.alloc (.cells #[.slice A1 p c1, .int .i64 0] 24)).alloc (.map #[] 0)).heap.size 3 A1 p (flat (freeL p)) := reads_alloc (reads_alloc hr1)
  have EN0 : Ents ((w1.alloc (.cells #[.slice A1 p c1, .int .i64 0] 24)).alloc (.map #[] 0)) (w1.heap.size + 1) 0 (FenQ (freeL p) 0) := by simpa using Ents.made (Q := FenQ (freeL p) 0) (w1.alloc (.cells #[.slice A1 p c1, .int .i64 0] 24))
  have k0 : Below w.heap.size w ((w1.alloc (.cells #[.slice A1 p c1, .int .i64 0] 24)).alloc (.map #[] 0)) := (hb1.alloc hb1.size _).alloc (by have := hb1.size; simp; omega) _
  have hM0 : FeM w1.heap.size (w1.heap.size + 1) p (freeL p) 0 ((w1.alloc (.cells #[.slice A1 p c1, .int .i64 0] 24)).alloc (.map #[] 0)) := by
    refine ⟨A1, c1, 0, bT0, rd0, hc1, fun ad e => ?_, EN0⟩
    obtain ⟨ad', e', hlt, _⟩ := hr1.2 (by omega)
    rw [e] at e'
    cases e'
    omega
  have htb := hb1.size
  clear bT0 rd0 EN0
  generalize (w1.alloc (.cells #[.slice A1 p c1, .int .i64 0] 24)).alloc (.map #[] 0) = V at *
  generalize w1.heap.size = tb at *
  obtain ⟨mb, hmb⟩ : ∃ mb, tb + 1 = mb := ⟨_, rfl⟩
  rw [hmb] at hM0 ⊢
  have hmt : mb ≠ tb := by omega
  have hmw : w.heap.size ≤ mb := by omega
  clear hmb hr1 hc1 hf1 hb1 hmm
  go_loopw [7, 8, 45] (fun nw la i wr => ∃ (q : Nat) (ls : List Lse) (last now : Int), nw = .int .i64 now ∧ la = .int .i64 last ∧ i = .int .i64 q ∧ q ≤ n ∧ q ≤ 100 ∧ (0 ≤ now ∧ now ≤ 1099511627776) ∧ Hid (rightT ls last = true) ∧ FeM tb mb p ls last wr ∧ Below w.heap.size w wr) (fun _ _ i _ => n + 1 - (intOf i).toNat)
  case atStart => exact ⟨0, freeL p, 0, 0, rfl, rfl, rfl, Nat.zero_le _, Nat.zero_le _, by omega, HF, hM0, k0⟩
  case round =>
    clear hM0 k0 HF HFL HN
    obtain ⟨q, ls, last, now, rfl, rfl, rfl, hq, hq1, hnow, HR, hM, hB⟩ := hrel
    by_cases hlt : q < n
    · obtain ⟨ad, a0, a1, a2, a3, a4, a5, rfl, hab, d0, d1, d2, d3, d4, d5, i0, i1, i2, i3, i4, i5⟩ := (HA.out.below hB) q hlt
      have hlt' : (q : Int) < n := by omega
      obtain ⟨A1, c1, ne, bT, rd, hc, hA, EN⟩ := hM
      have hlb := hB.size
      by_cases h3 : q < 100
      · have h3' : decide ((100 : Int) ≤ (q : Int)) = false := by simp; omega
        have h3i : (q : Int) < 100 := by omega
        have hwq : IntKind.i64.wrap ((q : Int) + 1) = (q : Int) + 1 := IntWalk.i64_in _ (by omega)
        obtain ⟨d, hd, hdb⟩ : ∃ d : Int, min (max a4 0) 1000 = d ∧ 0 ≤ d ∧ d ≤ 1000 := ⟨_, rfl, by omega, by omega⟩
        obtain ⟨nw, hnw, hnb⟩ : ∃ v : Int, min (now + d) 1099511627776 = v ∧ 0 ≤ v ∧ v ≤ 1099511627776 := ⟨_, rfl, by omega, by omega⟩
        have hwd : IntKind.i64.wrap (now + d) = now + d := IntWalk.i64_in _ (by omega)
        have tg1 := Int.lt_tmod_of_pos a1 (show (0 : Int) < p by omega)
        have tg0 := Int.tmod_lt_of_pos a1 (show (0 : Int) < p by omega)
        have wg : IntKind.i64.wrap (a1.tmod (p : Int) + (p : Int)) = a1.tmod (p : Int) + (p : Int) := IntWalk.i64_in _ (by omega)
        obtain ⟨G, eG, hG⟩ : ∃ G : Nat, (a1.tmod (p : Int) + (p : Int)).tmod (p : Int) = G ∧ G < p := by
          have h2 : 0 ≤ (a1.tmod (p : Int) + (p : Int)).tmod (p : Int) := Int.tmod_nonneg _ (by omega)
          have := Int.tmod_lt_of_pos (a1.tmod (p : Int) + (p : Int)) (show (0 : Int) < p by omega)
          exact ⟨((a1.tmod (p : Int) + (p : Int)).tmod (p : Int)).toNat, by omega, by omega⟩
        clear tg0 tg1
        have lT := bT.lt
        have lM := EN.lt
        have t0 : wr.cell? ⟨tb, 0, none⟩ = some (.slice A1 p c1) := bT.cell 0
        have t1 : wr.cell? ⟨tb, 1, none⟩ = some (.int .i64 last) := bT.cell 1
        go_upto_region 13 with fail
        have bX : Blk ((wr.alloc (.cells #[.int .i64 a0, .int .i64 a1, .int .i64 a2, .int .i64 a3, .int .i64 a4, .int .i64 a5] 47)).alloc (.cells #[.slice A1 p c1, .int .i64 last] 24)) wr.heap.size 47 #[.int .i64 a0, .int .i64 a1, .int .i64 a2, .int .i64 a3, .int .i64 a4, .int .i64 a5] := (Blk.new wr _ _).alloc _
        have bW : Blk ((wr.alloc (.cells #[.int .i64 a0, .int .i64 a1, .int .i64 a2, .int .i64 a3, .int .i64 a4, .int .i64 a5] 47)).alloc (.cells #[.slice A1 p c1, .int .i64 last] 24)) (wr.heap.size + 1) 24 #[.slice A1 p c1, .int .i64 last] := by simpa using Blk.new (wr.alloc (.cells #[.int .i64 a0, .int .i64 a1, .int .i64 a2, .int .i64 a3, .int .i64 a4, .int .i64 a5] 47)) 24 #[.slice A1 p c1, .int .i64 last]
        have bT2 := (bT.alloc (.cells #[.int .i64 a0, .int .i64 a1, .int .i64 a2, .int .i64 a3, .int .i64 a4, .int .i64 a5] 47)).alloc (.cells #[.slice A1 p c1, .int .i64 last] 24)
        have rd2 := reads_alloc (o := (.cells #[.slice A1 p c1, .int .i64 last] 24)) (reads_alloc (o := (.cells #[.int .i64 a0, .int .i64 a1, .int .i64 a2, .int .i64 a3, .int .i64 a4, .int .i64 a5] 47)) rd)
        have EN2 := (EN.alloc (.cells #[.int .i64 a0, .int .i64 a1, .int .i64 a2, .int .i64 a3, .int .i64 a4, .int .i64 a5] 47)).alloc (.cells #[.slice A1 p c1, .int .i64 last] 24)
        have kV : Below w.heap.size w ((wr.alloc (.cells #[.int .i64 a0, .int .i64 a1, .int .i64 a2, .int .i64 a3, .int .i64 a4, .int .i64 a5] 47)).alloc (.cells #[.slice A1 p c1, .int .i64 last] 24)) := (hB.alloc hlb _).alloc (by simp; omega) _
        have hVs : ((wr.alloc (.cells #[.int .i64 a0, .int .i64 a1, .int .i64 a2, .int .i64 a3, .int .i64 a4, .int .i64 a5] 47)).alloc (.cells #[.slice A1 p c1, .int .i64 last] 24)).heap.size = wr.heap.size + 1 + 1 := by simp
        clear bT rd EN t0 t1 d0 d1 d2 d3 d4 d5
        generalize (wr.alloc (.cells #[.int .i64 a0, .int .i64 a1, .int .i64 a2, .int .i64 a3, .int .i64 a4, .int .i64 a5] 47)).alloc (.cells #[.slice A1 p c1, .int .i64 last] 24) = V at *
        generalize wr.heap.size = xb at *
        have HVs := Lib.hid hVs
        have hVl : xb + 1 < V.heap.size := by omega
        clear hVs
        have t0 : V.cell? ⟨tb, 0, none⟩ = some (.slice A1 p c1) := bT2.cell 0
        have x1 : V.cell? ⟨xb, 1, none⟩ = some (.int .i64 a1) := bX.cell 1
        go_quiet (fail)
        have bX := bX.drewN nq
        have bW := bW.drewN nq
        have bT := bT2.drewN nq
        have rd : Reads (V.drewN nq) (V.drewN nq).heap.size 3 A1 p (flat ls) := rd2
        have EN : Ents (V.drewN nq) mb ne (FenQ ls last) := EN2
        have kU : Below w.heap.size w (V.drewN nq) := ⟨kV.os, kV.tape, kV.output, kV.size, kV.block⟩
        have hVl : xb + 1 < (V.drewN nq).heap.size := hVl
        clear t0 x1 bT2 rd2 EN2 kV HVs
        generalize V.drewN nq = U at *
        have lT' : tb < U.heap.size := by omega
        have lM' : mb < U.heap.size := by omega
        have hxt : tb < xb := lT
        have hxm : mb < xb := lM
        clear lT lM
        have lT := lT'
        have lM := lM'
        have lW := hVl
        have hMU : FeM tb mb p ls last U := ⟨A1, c1, ne, bT, rd, hc, hA, EN⟩
        have HLS := Lib.hid (lse_len rd)
        have t0 : U.cell? ⟨tb, 0, none⟩ = some (.slice A1 p c1) := bT.cell 0
        have t1 : U.cell? ⟨tb, 1, none⟩ = some (.int .i64 last) := bT.cell 1
        have x0 : U.cell? ⟨xb, 0, none⟩ = some (.int .i64 a0) := bX.cell 0
        have hGp : (G : Int) < (p : Int) := by omega
        have hG0 : (0 : Int) ≤ (G : Int) := by omega
        clear hd hnw hwd wg eG
        go_upto_block 2 with fail
        clear x0
        go_cut [8, 14, 15, 16, 17, 18, 19, 20] from 76 to 136 (fun s8 _ _ _ _ _ _ _ wx => ∃ (ls' : List Lse) (last' : Int), s8 = .int .i64 last' ∧ Hid (Goes nw ls last ls' last') ∧ FeM tb mb p ls' last' wx ∧ Blk wx (xb + 1) 24 #[.slice A1 p c1, .int .i64 last] ∧ Reads wx wx.heap.size 3 A1 p (flat ls) ∧ Below w.heap.size w wx)
        case first =>
          by_cases hw0 : a0 = 0
          · subst hw0
            obtain ⟨⟨⟨rl, rlast⟩, tok, err⟩, hRG⟩ : ∃ r, grantZ ls last G a2 nw a5 = r := ⟨_, rfl⟩
            have HRG := Lib.hid hRG
            clear hRG
            have x2 : U.cell? ⟨xb, 2, none⟩ = some (.int .i64 a2) := bX.cell 2
            have x5 : U.cell? ⟨xb, 5, none⟩ = some (.int .i64 a5) := bX.cell 5
            go_wp2_with fail
            refine (grant_any A1 p c1 last G a2 nw a5 ls _ rd (by omega) hc).mono ?_
            rw [HRG.out]
            rintro e w2 ⟨A2, c2, rfl, rd2, hc2, hA2, hb2⟩
            try simp only at rd2 hc2
            clear x2 x5
            by_cases he : err = 0
            · subst he
              obtain ⟨hgo, rfl, rfl, hcb⟩ := grant_goes (addZ_bd nw a5) HRG.out
              have hrl : rl.length = p := hgo.len.trans HLS.out
              have HGO := Lib.hid hgo
              rw [hrl] at rd2 hc2 ⊢
              clear hrl hgo
              obtain ⟨ag, hlg, hag, hagb, e0, e1, e2⟩ := lse_at (reads_below rd hb2) hG
              have hcx := counts_eq (now := nw) HR.out hlg
              rw [lseAt_nat hlg] at hcb
              rw [hcb] at hcx
              have HCX := Lib.hid hcx
              clear hcx hcb
              generalize ls[G] = x at *
              subst hag
              have hle : decide (last + 1 ≤ last) = false := by simp; omega
              have bW2 := bW.below hb2 lW
              have lW2 := bW2.lt
              have u0 : w2.cell? ⟨xb + 1, 0, none⟩ = some (.slice (some ag) p c1) := bW2.cell 0
              have bN := Blk.new w2 24 #[.slice A2 p c2, .int .i64 (last + 1)]
              have hlb : (ag.add (G * 3)).block < w2.heap.size := by rw [block_of_add]; exact hagb
              have e0 := alloc_cell hlb e0
              have e1 := alloc_cell (a := ⟨(ag.add (G * 3)).block, (ag.add (G * 3)).off + 1, none⟩) hlb e1
              have e2 := alloc_cell (a := ⟨(ag.add (G * 3)).block, (ag.add (G * 3)).off + 2, none⟩) hlb e2
              go_wp2_with fail
              refine (refCounts_any nw x.own x.tok x.til _).mono ?_
              rw [HCX.out]
              rintro e w3 ⟨rfl, hb3⟩
              have kA : Below U.heap.size U w3 := (hb2.alloc hb2.size (.cells #[.slice A2 p c2, .int .i64 (last + 1)] 24)).trans (hb3.mono (by have := hb2.size; simp; omega))
              have bN3 := bN.below hb3 bN.lt
              have bT3 := bT.below kA lT
              have rd3 := reads_below (reads_alloc (o := (.cells #[.slice A2 p c2, .int .i64 (last + 1)] 24)) rd2) hb3
              have EN3 := (EN.below kA lM).weak (fun key val h => FenQ.goes HGO.out h)
              have hnm : w2.heap.size ≠ mb := by have := hb2.size; omega
              have hq : FenQ rl (last + 1) (.agg #[.int .i64 G, .int .i64 (last + 1)]) (.bool false) := ⟨((G : Int), last + 1), false, rfl, rfl, WalkArith.wf_i64 (by omega), WalkArith.wf_i64 (by have := (rightT_iff2.1 HGO.out.rt).2.1; omega), Int.le_refl _, fun h => by cases h⟩
              have hA2' : ∀ ad, A2 = some ad → ad.block ≠ tb ∧ ad.block ≠ mb := fun ad e => by have := hA2 ad e; omega
              have hA2m : ∀ ad, A2 = some ad → some mb ≠ some ad.block := fun ad e h => (hA2' ad e).2 (by injection h with h; exact h.symm)
              have hAm : ∀ ad', some ag = some ad' → some mb ≠ some ad'.block := fun ad e h => (hA ad e).2 (by injection h with h; exact h.symm)
              have hAt : ∀ ad', some ag = some ad' → some tb ≠ some ad'.block := fun ad e h => (hA ad e).1 (by injection h with h; exact h.symm)
              clear u0 e0 e1 e2
              go_wp2_with (at_mapUpdate; refine wpList_update_ents _ rfl _ _ _ 45 rfl 49 4 (Keyed.of_law lawFe) Try.underlying45 mb ne rfl EN3 FenQ.keys _ _ rfl rfl hq ?_; intro w4 EN4 hg4; have bN4 := bN3.grown hg4 (by intro h; injection h with h; exact hnm h); have bT4 := bT3.grown hg4 (by intro h; injection h with h; exact hmt h.symm); have n0 : w4.cell? ⟨w2.heap.size, 0, none⟩ = some (.slice A2 p c2) := bN4.cell 0; have n1 : w4.cell? ⟨w2.heap.size, 1, none⟩ = some (.int .i64 (last + 1)) := bN4.cell 1; have t4 : w4.cell? ⟨tb, 0, none⟩ = some (.slice (some ag) p c1) := bT4.cell 0; have t5 : w4.cell? ⟨tb, 1, none⟩ = some (.int .i64 last) := bT4.cell 1; have fT4 := bT4.frozen; have lT4 := bT4.lt)
              go_meet
              have hlU := kA.size
              have hl4 := hg4.size
              have kB : Below w.heap.size w w4 := below_grown (kU.trans (kA.mono kU.size)) (by have := kU.size; omega) hg4 hmw (by have := kU.size; omega)
              exact ⟨rl, last + 1, rfl, HGO, fe_store bT4 (reads_grown rd3 hg4 hA2m) hc2 hA2' hmt EN4, (((bW.below kA lW).grown hg4 (by intro h; injection h with h; omega)).far (p := ⟨tb, 0, none⟩) (by simp; omega) _).far (p := ⟨tb, 1, none⟩) (by simp; omega) _,
                reads_grown (reads_grown (reads_grown (reads_below rd kA) hg4 hAm) (grown_set _ _ _) hAt) (grown_set _ _ _) hAt, (kB.setCell (p := ⟨tb, 0, none⟩) htb _).setCell (p := ⟨tb, 1, none⟩) htb _⟩
            · have hez : (err == 0) = false := by simpa using he
              clear he
              go_wp2_with fail
              go_meet
              have kA : Below U.heap.size U (w2.alloc (.cells #[.slice A2 rl.length c2, .int .i64 rlast] 24)) := hb2.alloc hb2.size _
              exact ⟨ls, last, rfl, Lib.hid (Goes.refl HR.out), hMU.below kA, bW.below kA lW, reads_below rd kA, kU.trans (kA.mono kU.size)⟩

          · by_cases hw1 : a0 = 1
            · subst hw1
              clear hw0
              obtain ⟨⟨⟨rl, rlast⟩, err⟩, hRG⟩ : ∃ r, renewZ ls last G a3 nw a5 = r := ⟨_, rfl⟩
              have HRG := Lib.hid hRG
              clear hRG
              have x3 : U.cell? ⟨xb, 3, none⟩ = some (.int .i64 a3) := bX.cell 3
              have x5 : U.cell? ⟨xb, 5, none⟩ = some (.int .i64 a5) := bX.cell 5
              go_wp2_with fail
              refine (renew_any A1 p c1 last G a3 nw a5 ls _ rd (by omega) hc).mono ?_
              rw [HRG.out]
              rintro e w2 ⟨A2, c2, rfl, rd2, hc2, hA2, hb2⟩
              try simp only at rd2 hc2
              clear x3
              try clear x5
              by_cases he : err = 0
              · subst he
                obtain ⟨hgo, rfl⟩ := renew_goes (addZ_bd nw a5) HRG.out
                have hrl : rl.length = p := hgo.len.trans HLS.out
                have HGO := Lib.hid hgo
                rw [hrl] at rd2 hc2 ⊢
                clear hrl hgo
                have kA : Below U.heap.size U (w2.alloc (.cells #[.slice A2 p c2, .int .i64 rlast] 24)) := hb2.alloc hb2.size _
                have bT3 := bT.below hb2 lT
                have lT3 := bT3.lt
                have t4 : w2.cell? ⟨tb, 0, none⟩ = some (.slice A1 p c1) := bT3.cell 0
                have t5 : w2.cell? ⟨tb, 1, none⟩ = some (.int .i64 rlast) := bT3.cell 1
                have fT4 := bT3.frozen
                have hA2' : ∀ ad, A2 = some ad → ad.block ≠ tb ∧ ad.block ≠ mb := fun ad e => by have := hA2 ad e; omega
                have hAt : ∀ ad', A1 = some ad' → some tb ≠ some ad'.block := fun ad e h => (hA ad e).1 (by injection h with h; exact h.symm)
                have EN3 := (EN.below hb2 lM).weak (fun key val h => FenQ.goes HGO.out h)
                go_wp2_with fail
                go_meet
                have hfin := (fe_store bT3 rd2 hc2 hA2' hmt EN3).below ((Below.refl _ _).alloc (Nat.le_refl _) (.cells #[.slice A2 p c2, .int .i64 rlast] 24))
                have hfw := (((bW.below hb2 lW).far (p := ⟨tb, 0, none⟩) (by simp; omega) (.slice A2 p c2)).far (p := ⟨tb, 1, none⟩) (by simp; omega) (.int .i64 rlast)).alloc (.cells #[.slice A2 p c2, .int .i64 rlast] 24)
                have hfr := reads_alloc (o := (.cells #[.slice A2 p c2, .int .i64 rlast] 24)) (reads_grown (reads_grown (reads_below rd hb2) (grown_set _ ⟨tb, 0, none⟩ (.slice A2 p c2)) hAt) (grown_set _ ⟨tb, 1, none⟩ (.int .i64 rlast)) hAt)
                have hfk := kU.trans (hb2.mono kU.size)
                have hfb := ((hfk.setCell (p := ⟨tb, 0, none⟩) htb (.slice A2 p c2)).setCell (p := ⟨tb, 1, none⟩) htb (.int .i64 rlast)).alloc (by have := hfk.size; simp; omega) (.cells #[.slice A2 p c2, .int .i64 rlast] 24)
                exact ⟨rl, rlast, rfl, HGO, hfin, hfw, hfr, hfb⟩
              · have hez : (err == 0) = false := by simpa using he
                clear he
                go_wp2_with fail
                go_meet
                have kA : Below U.heap.size U (w2.alloc (.cells #[.slice A2 rl.length c2, .int .i64 rlast] 24)) := hb2.alloc hb2.size _
                exact ⟨ls, last, rfl, Lib.hid (Goes.refl HR.out), hMU.below kA, bW.below kA lW, reads_below rd kA, kU.trans (kA.mono kU.size)⟩

            · have hz0 : (a0 == 0) = false := by simpa using hw0
              have hz1 : (a0 == 1) = false := by simpa using hw1
              clear hw0 hw1
              obtain ⟨⟨⟨rl, rlast⟩, err⟩, hRG⟩ : ∃ r, giveZ ls last G a3 = r := ⟨_, rfl⟩
              have HRG := Lib.hid hRG
              clear hRG
              have x3 : U.cell? ⟨xb, 3, none⟩ = some (.int .i64 a3) := bX.cell 3
              go_wp2_with fail
              refine (give_any A1 p c1 last G a3 ls _ rd (by omega) hc).mono ?_
              rw [HRG.out]
              rintro e w2 ⟨A2, c2, rfl, rd2, hc2, hA2, hb2⟩
              try simp only at rd2 hc2
              clear x3
              try clear x5
              by_cases he : err = 0
              · subst he
                obtain ⟨hgo, rfl⟩ := give_goes (now := nw) HRG.out
                have hrl : rl.length = p := hgo.len.trans HLS.out
                have HGO := Lib.hid hgo
                rw [hrl] at rd2 hc2 ⊢
                clear hrl hgo
                have kA : Below U.heap.size U (w2.alloc (.cells #[.slice A2 p c2, .int .i64 rlast] 24)) := hb2.alloc hb2.size _
                have bT3 := bT.below hb2 lT
                have lT3 := bT3.lt
                have t4 : w2.cell? ⟨tb, 0, none⟩ = some (.slice A1 p c1) := bT3.cell 0
                have t5 : w2.cell? ⟨tb, 1, none⟩ = some (.int .i64 rlast) := bT3.cell 1
                have fT4 := bT3.frozen
                have hA2' : ∀ ad, A2 = some ad → ad.block ≠ tb ∧ ad.block ≠ mb := fun ad e => by have := hA2 ad e; omega
                have hAt : ∀ ad', A1 = some ad' → some tb ≠ some ad'.block := fun ad e h => (hA ad e).1 (by injection h with h; exact h.symm)
                have EN3 := (EN.below hb2 lM).weak (fun key val h => FenQ.goes HGO.out h)
                go_wp2_with fail
                go_meet
                have hfin := (fe_store bT3 rd2 hc2 hA2' hmt EN3).below ((Below.refl _ _).alloc (Nat.le_refl _) (.cells #[.slice A2 p c2, .int .i64 rlast] 24))
                have hfw := (((bW.below hb2 lW).far (p := ⟨tb, 0, none⟩) (by simp; omega) (.slice A2 p c2)).far (p := ⟨tb, 1, none⟩) (by simp; omega) (.int .i64 rlast)).alloc (.cells #[.slice A2 p c2, .int .i64 rlast] 24)
                have hfr := reads_alloc (o := (.cells #[.slice A2 p c2, .int .i64 rlast] 24)) (reads_grown (reads_grown (reads_below rd hb2) (grown_set _ ⟨tb, 0, none⟩ (.slice A2 p c2)) hAt) (grown_set _ ⟨tb, 1, none⟩ (.int .i64 rlast)) hAt)
                have hfk := kU.trans (hb2.mono kU.size)
                have hfb := ((hfk.setCell (p := ⟨tb, 0, none⟩) htb (.slice A2 p c2)).setCell (p := ⟨tb, 1, none⟩) htb (.int .i64 rlast)).alloc (by have := hfk.size; simp; omega) (.cells #[.slice A2 p c2, .int .i64 rlast] 24)
                exact ⟨rl, rlast, rfl, HGO, hfin, hfw, hfr, hfb⟩
              · have hez : (err == 0) = false := by simpa using he
                clear he
                go_wp2_with fail
                go_meet
                have kA : Below U.heap.size U (w2.alloc (.cells #[.slice A2 rl.length c2, .int .i64 rlast] 24)) := hb2.alloc hb2.size _
                exact ⟨ls, last, rfl, Lib.hid (Goes.refl HR.out), hMU.below kA, bW.below kA lW, reads_below rd kA, kU.trans (kA.mono kU.size)⟩

        case rest =>
        obtain ⟨ls', last', rfl, HGO, hM', bW', rdw, kW⟩ := hcut
        clear t0 t1 bX bW bT rd EN kU hVl hMU lT lM lW
        obtain ⟨A3, c3, ne3, bT3, rd3, hc3, hA3, EN3⟩ := hM'
        have HL3 := Lib.hid (lse_len rd3)
        have lT3 := bT3.lt
        have lW3 := bW'.lt
        have t0 : wc.cell? ⟨tb, 0, none⟩ = some (.slice A3 p c3) := bT3.cell 0
        have t1 : wc.cell? ⟨tb, 1, none⟩ = some (.int .i64 last') := bT3.cell 1
        go_wp2_with fail
        refine (right_any A3 p c3 last' ls' _ rd3 (by omega) hc3).mono ?_
        rw [HGO.out.rt]
        rintro e w5 ⟨rfl, hb5⟩
        clear t0 t1
        have bT5 := bT3.below hb5 lT3
        have bW5 := bW'.below hb5 lW3
        have rd5 := reads_below rd3 hb5
        have rdw5 := reads_below rdw hb5
        have EN5 := EN3.below hb5 EN3.lt
        have k5 := kW.trans (hb5.mono kW.size)
        have lT5 := bT5.lt
        have lW5 := bW5.lt
        have t0 : w5.cell? ⟨tb, 0, none⟩ = some (.slice A3 p c3) := bT5.cell 0
        have u0 : w5.cell? ⟨xb + 1, 0, none⟩ = some (.slice A1 p c1) := bW5.cell 0
        clear bT3 bW' rd3 rdw EN3 kW hb5 lT3 lW3
        go_wp2_with fail
        clear t0 u0
        go_loopw [152] (fun i wx => ∃ (g : Nat), i = .int .i64 g ∧ g ≤ p ∧ Below w5.heap.size w5 wx) (fun i _ => p + 1 - (intOf i).toNat)
        case atStart => exact ⟨0, rfl, Nat.zero_le _, Below.refl _ _⟩
        case round =>
          obtain ⟨g, rfl, hg, hx⟩ := hrel
          obtain ⟨wx, hwx⟩ : ∃ wx, wx = wr := ⟨_, rfl⟩
          subst hwx
          by_cases hgp : g < p
          · have hwg : IntKind.i64.wrap ((g : Int) + 1) = (g : Int) + 1 := IntWalk.i64_in _ (by omega)
            have hgi : (g : Int) < (p : Int) := by omega
            have u0 : wx.cell? ⟨xb + 1, 0, none⟩ = some (.slice A1 p c1) := (bW5.below hx lW5).cell 0
            obtain ⟨ag, hlg, hag, hagb, e0, e1, e2⟩ := lse_at (reads_below rd5 hx) hgp
            obtain ⟨bg, hlg', hbg, hbgb, z0, z1, z2⟩ := lse_at (reads_below rdw5 hx) hgp
            have hkp := HGO.out.keep g hlg' hlg
            have hcx := counts_eq (now := nw) HR.out hlg'
            generalize ls'[g] = l at *
            generalize ls[g] = x at *
            subst hag hbg
            have HCX := Lib.hid hcx
            have hlb2 : (bg.add (g * 3)).block < wx.heap.size := by rw [block_of_add]; exact hbgb
            replace z0 := alloc_cell hlb2 z0
            replace z1 := alloc_cell (a := ⟨(bg.add (g * 3)).block, (bg.add (g * 3)).off + 1, none⟩) hlb2 z1
            replace z2 := alloc_cell (a := ⟨(bg.add (g * 3)).block, (bg.add (g * 3)).off + 2, none⟩) hlb2 z2
            clear hlb2
            have lu : xb + 1 < wx.heap.size := Nat.lt_of_lt_of_le lW5 hx.size
            have bL : Blk ((wx.alloc (.cells #[.int .i64 l.own, .int .i64 l.tok, .int .i64 l.til] 40)).alloc (.cells #[.int .i64 x.own, .int .i64 x.tok, .int .i64 x.til] 40)) wx.heap.size 40 #[.int .i64 l.own, .int .i64 l.tok, .int .i64 l.til] := (Blk.new wx _ _).alloc _
            have bY : Blk ((wx.alloc (.cells #[.int .i64 l.own, .int .i64 l.tok, .int .i64 l.til] 40)).alloc (.cells #[.int .i64 x.own, .int .i64 x.tok, .int .i64 x.til] 40)) (wx.heap.size + 1) 40 #[.int .i64 x.own, .int .i64 x.tok, .int .i64 x.til] := by simpa using Blk.new (wx.alloc (.cells #[.int .i64 l.own, .int .i64 l.tok, .int .i64 l.til] 40)) 40 #[.int .i64 x.own, .int .i64 x.tok, .int .i64 x.til]
            have hk3 : countsB nw x = false ∨ (countsB nw x = true ∧ l.own = 0) ∨ (countsB nw x = true ∧ (x.own == 0) = false ∧ l.own = x.own ∧ l.tok = x.tok) := by
              unfold keepB at hkp
              cases hcc : countsB nw x
              · exact .inl rfl
              · rw [hcc] at hkp
                right
                by_cases h0 : l.own = 0
                · exact .inl ⟨rfl, h0⟩
                · right
                  have hb1 : (l.own == 0) = false := by simpa using h0
                  rw [hb1] at hkp
                  simp at hkp
                  exact ⟨rfl, by rw [← hkp.1]; exact hb1, hkp.1, hkp.2⟩
            clear hkp hcx
            rcases hk3 with hcb | ⟨hcb, hl0⟩ | ⟨hcb, hx0, hl0, hl1⟩
            · have HCB := Lib.hid hcb
              clear hcb
              go_wp2_with fail
              refine (refCounts_any nw x.own x.tok x.til _).mono ?_
              rw [HCX.out, HCB.out]
              rintro e w6 ⟨rfl, hb6⟩
              have bL6 := bL.below hb6 bL.lt
              have bY6 := bY.below hb6 bY.lt
              have f0 : w6.cell? ⟨wx.heap.size, 0, none⟩ = some (.int .i64 l.own) := bL6.cell 0
              have f1 : w6.cell? ⟨wx.heap.size, 1, none⟩ = some (.int .i64 l.tok) := bL6.cell 1
              have y0 : w6.cell? ⟨wx.heap.size + 1, 0, none⟩ = some (.int .i64 x.own) := bY6.cell 0
              have y1 : w6.cell? ⟨wx.heap.size + 1, 1, none⟩ = some (.int .i64 x.tok) := bY6.cell 1
              have kk : Below w5.heap.size w5 w6 := ((hx.alloc hx.size (.cells #[.int .i64 l.own, .int .i64 l.tok, .int .i64 l.til] 40)).alloc (by have := hx.size; simp; omega) (.cells #[.int .i64 x.own, .int .i64 x.tok, .int .i64 x.til] 40)).trans (hb6.mono (by have := hx.size; simp; omega))
              clear u0 e0 e1 e2 z0 z1 z2
              go_wp2_with fail
              go_roundw
              case rel => exact ⟨g + 1, by go_num, by omega, kk⟩
              case measure => simp [intOf]; omega

            · have HCB := Lib.hid hcb
              have HL0 := Lib.hid hl0
              clear hcb hl0
              go_wp2_with fail
              refine (refCounts_any nw x.own x.tok x.til _).mono ?_
              rw [HCX.out, HCB.out]
              rintro e w6 ⟨rfl, hb6⟩
              have bL6 := bL.below hb6 bL.lt
              have bY6 := bY.below hb6 bY.lt
              have f0 : w6.cell? ⟨wx.heap.size, 0, none⟩ = some (.int .i64 0) := by rw [← HL0.out]; exact bL6.cell 0
              have f1 : w6.cell? ⟨wx.heap.size, 1, none⟩ = some (.int .i64 l.tok) := bL6.cell 1
              have y0 : w6.cell? ⟨wx.heap.size + 1, 0, none⟩ = some (.int .i64 x.own) := bY6.cell 0
              have y1 : w6.cell? ⟨wx.heap.size + 1, 1, none⟩ = some (.int .i64 x.tok) := bY6.cell 1
              have kk : Below w5.heap.size w5 w6 := ((hx.alloc hx.size (.cells #[.int .i64 l.own, .int .i64 l.tok, .int .i64 l.til] 40)).alloc (by have := hx.size; simp; omega) (.cells #[.int .i64 x.own, .int .i64 x.tok, .int .i64 x.til] 40)).trans (hb6.mono (by have := hx.size; simp; omega))
              clear u0 e0 e1 e2 z0 z1 z2
              go_wp2_with fail
              go_roundw
              case rel => exact ⟨g + 1, by go_num, by omega, kk⟩
              case measure => simp [intOf]; omega

            · have HCB := Lib.hid hcb
              have HL0 := Lib.hid hl0
              have HL1 := Lib.hid hl1
              have hx0' : ¬ x.own = 0 := by simpa using hx0
              have hx0n : (x.own != 0) = true := by simpa using hx0
              clear hcb hl0 hl1
              go_wp2_with fail
              refine (refCounts_any nw x.own x.tok x.til _).mono ?_
              rw [HCX.out, HCB.out]
              rintro e w6 ⟨rfl, hb6⟩
              have bL6 := bL.below hb6 bL.lt
              have bY6 := bY.below hb6 bY.lt
              have f0 : w6.cell? ⟨wx.heap.size, 0, none⟩ = some (.int .i64 x.own) := by rw [← HL0.out]; exact bL6.cell 0
              have f1 : w6.cell? ⟨wx.heap.size, 1, none⟩ = some (.int .i64 x.tok) := by rw [← HL1.out]; exact bL6.cell 1
              have y0 : w6.cell? ⟨wx.heap.size + 1, 0, none⟩ = some (.int .i64 x.own) := bY6.cell 0
              have y1 : w6.cell? ⟨wx.heap.size + 1, 1, none⟩ = some (.int .i64 x.tok) := bY6.cell 1
              have kk : Below w5.heap.size w5 w6 := ((hx.alloc hx.size (.cells #[.int .i64 l.own, .int .i64 l.tok, .int .i64 l.til] 40)).alloc (by have := hx.size; simp; omega) (.cells #[.int .i64 x.own, .int .i64 x.tok, .int .i64 x.til] 40)).trans (hb6.mono (by have := hx.size; simp; omega))
              clear u0 e0 e1 e2 z0 z1 z2
              go_wp2_with fail
              go_roundw
              case rel => exact ⟨g + 1, by go_num, by omega, kk⟩
              case measure => simp [intOf]; omega

          · obtain rfl : g = p := by omega
            have bTx := bT5.below hx lT5
            have rdx := reads_below rd5 hx
            have ENx := EN5.below hx EN5.lt
            have kx := k5.trans (hx.mono k5.size)
            have lTx := bTx.lt
            have lMx := ENx.lt
            have hA3m : ∀ ad, A3 = some ad → some mb ≠ some ad.block := fun ad e h => (hA3 ad e).2 (by injection h with h; exact h.symm)
            clear bT5 bW5 rd5 rdw5 EN5 k5 lT5 lW5
            go_wp2_with (at_range; refine wpList_range_ents _ rfl _ 45 rfl 49 4 Try.underlying45 mb ne3 rfl ENx ?_; intro w7 cnt0 hrg0 hb7 hs7)
            go_frame
            have hg7 : wx.grownBy w7 (some mb) := ⟨hb7.os, hb7.tape, hb7.output, hb7.size, fun i hi _ => hb7.block i hi⟩
            go_loopw [] (fun wy => ∃ cnt, Rng wy mb wx.heap.size ne3 (FenQ ls' last') cnt ∧ wx.grownBy wy (some mb)) (fun wy => wy.rangeLeft mb wx.heap.size)
            case atStart => exact ⟨_, hrg0, hg7⟩
            case round =>
              clear hrg0 hb7 hs7 hg7
              obtain ⟨cnt, hrg, hgw⟩ := hrel
              go_wp2_with (at_next; refine wpList_next_rng _ rfl _ rfl mb wx.heap.size ne3 cnt rfl hrg (fun x : Giv => .agg #[.int .i64 x.grp, .int .i64 x.tok]) (fun c : Isb => Value.bool c.yes) FenQ.inv ?_ ?_)
              · intro _
                have kB := below_grown kx kx.size hgw hmw kx.size
                have hMy : FeM tb mb g ls' last' _ := ⟨A3, c3, ne3, bTx.grown hgw (by intro h; injection h with h; exact hmt h.symm), reads_grown rdx hgw hA3m, hc3, hA3, hrg.ents⟩
                go_wp2_with fail
                go_roundw
                case rel =>
                  exact ⟨q + 1, ls', last', nw, rfl, rfl, by go_num, by omega, by omega, hnb, Lib.hid HGO.out.rt, hMy, kB⟩
                case measure => simp [intOf]; omega
              · rintro ⟨gx, gt⟩ ⟨cb⟩ w8 cnt1 hq hin hrg1 hlt1 hg8 hs8 hen
                try simp only at hq hin hen
                have G8 : wx.grownBy w8 (some mb) := hgw.andThen hg8 (fun j e => .inl (by injection e with e; omega))
                have bT8 := bTx.grown G8 (by intro h; injection h with h; exact hmt h.symm)
                have rd8 := reads_grown rdx G8 hA3m
                have lT8 := bT8.lt
                have t0 : w8.cell? ⟨tb, 0, none⟩ = some (.slice A3 g c3) := bT8.cell 0
                have t1 : w8.cell? ⟨tb, 1, none⟩ = some (.int .i64 last') := bT8.cell 1
                replace t0 := alloc_cell (a := ⟨tb, 0, none⟩) lT8 t0
                replace t1 := alloc_cell (a := ⟨tb, 1, none⟩) lT8 t1
                obtain ⟨⟨gx', gt'⟩, b1', ek, ev, wf1, wf2, hle, hfq⟩ := hq
                injection ev with ev
                subst ev
                simp only at wf1 wf2 hle hfq ek
                simp at ek
                obtain ⟨rfl, rfl⟩ := ek
                obtain ⟨f, hf⟩ : ∃ f, fencedB ls' last' gx gt = f := ⟨_, rfl⟩
                have hff : cb = false ∨ (cb = true ∧ f = true) := by
                  cases cb
                  · exact .inl rfl
                  · exact .inr ⟨rfl, by rw [← hf]; exact hfq rfl⟩
                have hq' : FenQ ls' last' (.agg #[.int .i64 gx, .int .i64 gt]) (.bool f) := ⟨(gx, gt), f, rfl, rfl, wf1, wf2, hle, fun h => by rw [hf]; exact h⟩
                have HFF := Lib.hid hf
                have bG := Blk.new w8 49 #[.int .i64 gx, .int .i64 gt]
                rw [hs8] at bG
                clear hf hfq
                rcases hff with rfl | ⟨rfl, rfl⟩
                all_goals
                  go_wp2_with fail
                  refine (fenced_any A3 g c3 last' gx gt ls' _ (reads_alloc rd8) (by omega) hc3).mono ?_
                  rw [HFF.out]
                  rintro e w9 ⟨rfl, hb9⟩
                  have k9 : Below w8.heap.size w8 w9 := next_below ((Below.refl _ w8).alloc (Nat.le_refl _) _) hb9
                  have bG9 := bG.below hb9 bG.lt
                  have g0 : w9.cell? ⟨wr.heap.size, 0, none⟩ = some (.int .i64 gx) := bG9.cell 0
                  have g1 : w9.cell? ⟨wr.heap.size, 1, none⟩ = some (.int .i64 gt) := bG9.cell 1
                  have hrg9 := hrg1.below k9
                  have hin9 := hin.below k9
                  clear t0 t1
                  go_wp2_with (at_mapUpdate; refine wpList_update_rng _ rfl _ _ _ 45 rfl 49 4 (Keyed.of_law lawFe) Try.underlying45 mb wx.heap.size ne3 cnt1 rfl hrg9 FenQ.keys _ _ rfl rfl hq' hin9 ?_; intro w10 hrg10 hg10)
                  have G9 : wx.grownBy w9 (some mb) := G8.andThen (⟨k9.os, k9.tape, k9.output, k9.size, fun i hi _ => k9.block i hi⟩ : w8.grownBy w9 none) (fun j e => by cases e)
                  have G10 : wx.grownBy w10 (some mb) := G9.andThen hg10 (fun j e => .inr e)
                  go_frame
                  go_roundw
                  case rel => exact ⟨cnt1, hrg10, G10⟩
                  case measure => rw [hrg10.left_eq, hrg.left_eq]; exact hlt1
      · have h3' : decide ((100 : Int) ≤ (q : Int)) = true := by simp; omega
        have h3i : (100 : Int) ≤ (q : Int) := by omega
        go_wp2_with fail
        refine (alive_any _).mono ?_
        rintro e w9 ⟨rfl, hb9⟩
        go_wp2
        go_ret
        exact ⟨rfl, next_below (hB.alloc hlb _) hb9⟩
    · obtain rfl : q = n := by omega
      go_wp2_with fail
      refine (alive_any _).mono ?_
      rintro e w9 ⟨rfl, hb9⟩
      go_wp2
      go_ret
      exact ⟨rfl, next_below hB hb9⟩
end Go.Proofs.Ytinccckpohaoiaa
