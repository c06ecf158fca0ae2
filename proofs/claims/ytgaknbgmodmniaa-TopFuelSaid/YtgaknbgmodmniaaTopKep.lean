/- Walk of package model's Run at the one event of 'alive'. -/
import Derived.Test.YtgaknbgmodmniaaTopTak
namespace Go.Proofs.Ytgaknbgmodmniaa
open Go.RowKit Go.Shelf
set_option linter.unusedVariables false
set_option linter.unusedSimpArgs false
attribute [local go_sem] Oper.semAt_some

/-- As range_all; the iterator may make loops of its own, too, and what is told is known. A range over a function whose body never leaves: the iterator may turn memory of its own between two rounds (St), as long as nothing but cells turns and the caller's word I stands. -/
theorem range_in {α : Type} {F : Fence} {n : Nat} {P : Program} {g : Operand} {ps : Array Tmp} {assign body : Code} {Q : Exit → Act → World → Prop} {a : Act} {w : World}
    (hro : F.round = none) (h1 : 1 ≤ n) {gf : Nat} {lb : Array Value} (hg : a.eval g = .func (.func gf) #[] lb) (hF : F.fn gf) (eg : ∀ args w, (callFunc gf args).run P w = .ok (.enter gf args) w)
    (encs : α → Array Value) (hps : ∀ x, (encs x).size = ps.size) (I : List α → World → Prop) (R : α → Act → World → Prop) (St Kp : World → World → Prop) (S : List α → Prop)
    (Nx : List α → α → Prop) (hSo : ∀ V V' (k : Nat) (o : Obj), St V V' → V.heap[k]? = some o → o.isCells = false → k < w.heap.size + 2 → V'.heap[k]? = some o) (hSI : ∀ pre V V', I pre V → St V V' → I pre V')
    (hIa : ∀ pre V o, I pre V → I pre (V.alloc o)) (hIp : ∀ pre V (k : Nat) (o o' : Obj), I pre V → w.heap.size ≤ k → V.heap[k]? = some o → o.isCells = false → I pre (V.putObj k o'))
    (hRp : ∀ x b V (k : Nat) (o o' : Obj), R x b V → w.heap.size ≤ k → V.heap[k]? = some o → o.isCells = false → R x b (V.putObj k o'))
    (hKt : ∀ A B C, Kp A B → Kp B C → Kp A C) (hKp : ∀ V (k : Nat) (o o' : Obj), w.heap.size ≤ k → k < w.heap.size + 2 → V.heap[k]? = some o → o.isCells = false → Kp V (V.putObj k o')) (h0 : I [] w)
    (hiter : ∀ (l : Nat) (J : List α → World → Prop) (W : World), Below w.heap.size w W → w.heap.size + 2 ≤ W.heap.size → (∀ pre V o, J pre V → J pre (V.alloc o)) → (∀ pre V V', J pre V → St V V' → J pre V') →
      (∀ pre x V, J pre V → Nx pre x → YieldAt F (n - 1 - 1) P l (encs x) V fun e V' => e = .returned (.bool true) ∧ J (pre ++ [x]) V' ∧ Kp V V') → J [] W →
      CallsIn F (n - 1) P gf (#[.func (.yield l) #[] #[]] ++ lb) W fun e V => (∃ v, e = .returned v) ∧ ∃ xs, S xs ∧ J xs V)
    (hassign : ∀ l pre x V, I pre V → assign.wpIn (F.inRound l) (n - 1 - 1) P (Exit.then (fun b V' => KeepsFrom w.heap.size V V' ∧ Kp V V' ∧ I pre V' ∧ R x b V') (fun _ _ _ => False)) { tmps := (ps.zip (encs x)).foldl (fun t (p, v) => t.setIfInBounds p v) a.tmps, defers := [] } V)
    (hbody : ∀ l pre x b V, I pre V → R x b V → Nx pre x → body.wpIn (F.inRound l) (n - 1 - 1) P (fun e _ V' => e = .normal ∧ KeepsFrom w.heap.size V V' ∧ Kp V V' ∧ I (pre ++ [x]) V') b V)
    (hdone : ∀ D xs V, w.heap.size ≤ D → S xs → I xs V → V.heap[D]? = some (.deferred (some [])) → Q .normal { a with defers := { target := .collected D, args := #[] } :: a.defers } V) :
    (Code.rangeFunc g ps assign body).wpIn F n P Q a w := by
  refine wpIn_rangeFunc fun fn hfn => ?_
  rw [hro]
  obtain ⟨rec, hrec⟩ : ∃ rec : LoopState → Loop, rec = fun st => { state := st, pending := none, fn, tmps := a.tmps, params := ps, assign, body, defers := w.heap.size } := ⟨_, rfl⟩
  have hent := run_enterLoop_outer (P := P) (w := w) fn a.tmps ps assign body
  have hD : ((w.alloc (.deferred (some []))).alloc (.loop (rec .ready))).heap[w.heap.size]? = some (.deferred (some [])) := (Below.heap_alloc _ _ _ (by simp)).trans (World.alloc_heap_new w _)
  have hL : ((w.alloc (.deferred (some []))).alloc (.loop (rec .ready))).heap[w.heap.size + 1]? = some (.loop (rec .ready)) := by
    have := World.alloc_heap_new (w.alloc (.deferred (some []))) (.loop (rec .ready))
    rwa [World.size_alloc] at this
  have hB : Below w.heap.size w ((w.alloc (.deferred (some []))).alloc (.loop (rec .ready))) := ((Below.refl _ w).alloc (Nat.le_refl _) _).alloc (by simp) _
  have hI : I [] ((w.alloc (.deferred (some []))).alloc (.loop (rec .ready))) := hIa _ _ _ (hIa _ _ _ h0)
  have hS1 : w.heap.size + 2 ≤ ((w.alloc (.deferred (some []))).alloc (.loop (rec .ready))).heap.size := by simp
  rw [show ({ state := .ready, pending := none, fn := fn, tmps := a.tmps, params := ps, assign := assign, body := body, defers := w.heap.size } : Loop) = rec .ready by rw [hrec]] at hent
  generalize (w.alloc (.deferred (some []))).alloc (.loop (rec .ready)) = W1 at hent hD hL hB hI hS1
  have hlt : ∀ {V : World} {k : Nat} {o : Obj}, V.heap[k]? = some o → k < V.heap.size := fun h => (Array.getElem?_eq_some_iff.1 h).1
  refine ⟨w.heap.size + 1, _, W1, { target := .fn (.func gf) lb, args := #[.func (.yield (w.heap.size + 1)) #[] #[]] }, W1, gf, #[.func (.yield (w.heap.size + 1)) #[] #[]] ++ lb, W1, hent, ?_, ?_, ?_, fun _ => h1, ?_⟩
  · simp only [resolve, hg]
    simp [go_sem]
  · intro f' hf'
    simp [Target.leads] at hf'
    subst hf'
    exact hF
  · simp [invoke, go_sem, eg]
  refine (hiter (w.heap.size + 1) (fun pre V => I pre V ∧ V.heap[w.heap.size + 1]? = some (.loop (rec .ready)) ∧ V.heap[w.heap.size]? = some (.deferred (some []))) W1 hB hS1
    (fun pre V o h => ⟨hIa _ _ _ h.1, (Below.heap_alloc _ _ _ (hlt h.2.1)).trans h.2.1, (Below.heap_alloc _ _ _ (hlt h.2.2)).trans h.2.2⟩)
    (fun pre V V' h hS => ⟨hSI _ _ _ h.1 hS, hSo _ _ _ _ hS h.2.1 rfl (by omega), hSo _ _ _ _ hS h.2.2 rfl (by omega)⟩) ?_ ⟨hI, hL, hD⟩).mono ?_
  · rintro pre x V ⟨hi, hl, hd⟩ hN
    have hy := run_yield (P := P) (args := encs x) hl (by rw [hrec]; exact hps x)
    rw [hrec] at hy
    refine ⟨fn, _, assign, body, hy, roundIn_of_wpIn hfn (wpIn_mono (hassign (w.heap.size + 1) pre x V hi) ?_)⟩
    intro e b V1 hp
    cases e with
    | normal =>
      obtain ⟨hk1, hp1, hi1, hr1⟩ := hp
      have hl1 := hk1.same _ _ (Nat.le_succ _) hl rfl
      have hd1 := hk1.same _ _ (Nat.le_refl _) hd rfl
      refine ⟨_, run_beginRound hl1 (by rw [hrec]), ?_⟩
      have hl2 : (V1.putObj (w.heap.size + 1) (.loop { rec .ready with state := .busy })).heap[w.heap.size + 1]? = some (.loop { rec .ready with state := .busy }) := World.putObj_heap_same (hlt hl1)
      have hd2 : (V1.putObj (w.heap.size + 1) (.loop { rec .ready with state := .busy })).heap[w.heap.size]? = some (.deferred (some [])) := (World.putObj_heap_other (by omega)).trans hd1
      have hp2 := hKp V1 _ _ (.loop { rec .ready with state := .busy }) (Nat.le_succ _) (by omega) hl1 rfl
      refine wpIn_mono (hbody (w.heap.size + 1) pre x b _ (hIp _ _ _ _ _ hi1 (Nat.le_succ _) hl1 rfl) (hRp _ _ _ _ _ _ hr1 (Nat.le_succ _) hl1 rfl) hN) ?_
      rintro e b' V3 ⟨rfl, hk3, hp3, hi3⟩
      have hl3 := hk3.same _ _ (Nat.le_succ _) hl2 rfl
      have hd3 := hk3.same _ _ (Nat.le_refl _) hd2 rfl
      have hend := run_endRound (P := P) none hl3
      refine ⟨_, _, hend, rfl, ⟨hIp _ _ _ _ _ hi3 (Nat.le_succ _) hl3 rfl, ?_, (World.putObj_heap_other (by omega)).trans hd3⟩, hKt _ _ _ hp1 (hKt _ _ _ hp2 (hKt _ _ _ hp3 (hKp _ _ _ _ (Nat.le_succ _) (by omega) hl3 rfl)))⟩
      rw [World.putObj_heap_same (hlt hl3), hrec]
      rfl
    | _ => exact hp.elim
  · rintro e V ⟨⟨v, rfl⟩, xs, hS, hi, hl, hd⟩
    have hend := run_endLoop (P := P) hl (by rw [hrec]; simp)
    refine ⟨none, _, by rw [hend, hrec], hdone _ xs _ (Nat.le_refl _) hS (hIp _ _ _ _ _ hi (Nat.le_succ _) hl rfl) ((World.putObj_heap_other (by omega)).trans hd)⟩

theorem keptF_app (j : Jb) : ∀ (a b : List Ev) (m : Int), keptF j m (a ++ b) = keptF j m a ++ keptF j (a.foldl (markZ j) m) b
  | [], b, m => rfl
  | x :: a, b, m => by
    have e := keptF_app j a b (markZ j m x)
    show (if m ≤ x.at_ then [runE j x] else []) ++ keptF j (markZ j m x) (a ++ b) = ((if m ≤ x.at_ then [runE j x] else []) ++ keptF j (markZ j m x) a) ++ keptF j (a.foldl (markZ j) (markZ j m x)) b
    rw [e, List.append_assoc]
theorem keptF_pre (j : Jb) (l : List Ev) (k : Nat) : keptF j 0 (l.take k) <+: keptF j 0 l := by
  have e := keptF_app j (l.take k) (l.drop k) 0
  rw [List.take_append_drop] at e
  exact ⟨_, e.symm⟩

set_option maxRecDepth 100000 in
set_option maxHeartbeats 2000000 in
theorem kept1_nx (n : Nat) (hn : 1 ≤ n) (l bj bl n₀ : Nat) (j : Jb) (A : Option Addr) (m c : Nat) (ls : List Ev) (hv : ∀ z ∈ ls, -9223372036854775808 ≤ z.v ∧ z.v ≤ 9223372036854775807) (hm : m ≤ 9223372036854775807) (hj : j.Wf)
    (J : List Ev → World → Prop)
    (hJa : ∀ pre W (o : Obj), J pre W → J pre (W.alloc o)) (hJs : ∀ pre W W', J pre W → Sib n₀ W W' → J pre W')
    (hY : ∀ pre x W, J pre W → pre ++ [x] <+: keptF j 0 ls → YieldAt Fence.wide (n - 1) Try.prog l #[.agg #[.string x.key, .int .i64 x.at_, .int .i64 x.v]] W fun e W' =>
      e = .returned (.bool true) ∧ J (pre ++ [x]) W' ∧ KeepT n₀ W W')
    (W : World) (cj : Blk W bj 23 #[.int .i64 j.groups, .int .i64 j.size, .int .i64 j.slide, .int .i64 j.fold, .int .i64 j.fuel, .int .i64 j.limit, .int .i64 j.delay, .int .i64 j.idle]) (cl : W.cell? ⟨bl, 0, none⟩ = some (.slice A m c)) (hlb : bl < W.heap.size) (hn0 : n₀ ≤ W.heap.size) (hr : Reads W n₀ 3 A m (evs ls)) (h0 : J [] W) :
    CallsIn Fence.wide n Try.prog 15 #[.func (.yield l) #[] #[], .pointer (some ⟨bj, 0, none⟩), .pointer (some ⟨bl, 0, none⟩)] W fun e W' => (∃ v, e = .returned v) ∧ J (keptF j 0 ls) W' := by
  refine callsIn_of_wp Try.func15 rfl trivial ?_ rfl
  simp only [Try.ntmps15, List.size_toArray, List.length_cons, List.length_nil, Nat.reduceAdd, Nat.reduceSub, Array.replicate_succ, Array.replicate_zero, List.push_toArray, List.append_toArray, List.nil_append, List.cons_append]
  have j0 : W.cell? ⟨bj, 0, none⟩ = some (.int .i64 j.groups) := cj.cell 0
  have j1 : W.cell? ⟨bj, 1, none⟩ = some (.int .i64 j.size) := cj.cell 1
  have j2 : W.cell? ⟨bj, 2, none⟩ = some (.int .i64 j.slide) := cj.cell 2
  have j3 : W.cell? ⟨bj, 3, none⟩ = some (.int .i64 j.fold) := cj.cell 3
  have j4 : W.cell? ⟨bj, 4, none⟩ = some (.int .i64 j.fuel) := cj.cell 4
  have j5 : W.cell? ⟨bj, 5, none⟩ = some (.int .i64 j.limit) := cj.cell 5
  have j6 : W.cell? ⟨bj, 6, none⟩ = some (.int .i64 j.delay) := cj.cell 6
  have j7 : W.cell? ⟨bj, 7, none⟩ = some (.int .i64 j.idle) := cj.cell 7
  have HLn := Lib.hid (evs_len hr)
  have HV := Lib.hid hv
  have H0 : Hid (J [] W) := Lib.hid h0
  clear hv h0
  gi_wp2
  have bM := Blk.new W 53 (seeC j 0)
  have H1 : Hid (J [] (W.alloc (.cells (seeC j 0) 53))) := Lib.hid (hJa _ _ _ H0.out)
  have hb : Below W.heap.size W (W.alloc (.cells (seeC j 0) 53)) := by go_grown
  have hlt0 : W.heap.size < (W.alloc (.cells (seeC j 0) 53)).heap.size := by simp
  generalize hsb : W.heap.size = sb at *
  gi_loopw [15] (fun i wr => ∃ k : Nat, k ≤ m ∧ i = .int .i64 k ∧ sb < wr.heap.size ∧ Reads wr n₀ 3 A m (evs ls) ∧ Blk wr sb 53 (seeC j (markL j (ls.take k))) ∧ Hid (J (keptF j 0 (ls.take k)) wr)) (fun i _ => m - (intOf i).toNat)
  case atStart => exact ⟨0, Nat.zero_le _, rfl, hlt0, hr.below (hb.mono hn0), bM, H1⟩
  case round =>
    clear j0 j1 j2 j3 j4 j5 j6 j7 bM H1 hb hlt0 H0 hr
    obtain ⟨k, hk, rfl, hsz, hr, bM, HJ⟩ := hrel
    by_cases hlt : k < m
    · obtain ⟨ad, hl, rfl, hab, x0, x1, x2⟩ := evs_get hr hlt
      have hx := HV.out ls[k] (List.getElem_mem hl)
      have HT := Lib.hid (markL_take (j := j) hl)
      have HK := Lib.hid (keptF_take (j := j) hl)
      generalize ls[k] = x at *
      obtain ⟨M, hM⟩ : ∃ M, markL j (ls.take k) = M := ⟨_, rfl⟩
      rw [hM] at bM HT HK
      clear hM
      obtain ⟨y, hy⟩ : ∃ y, runE j x = y := ⟨_, rfl⟩
      have bM1 := bM.alloc (.cells #[.string x.key, .int .i64 x.at_, .int .i64 x.v] 30)
      have HJ1 : Hid (J (keptF j 0 (ls.take k)) (wr.alloc (.cells #[.string x.key, .int .i64 x.at_, .int .i64 x.v] 30))) := Lib.hid (hJa _ _ _ HJ.out)
      have hnw : n₀ ≤ wr.heap.size := by omega
      have hr1 := hr.below ((Below.refl n₀ wr).alloc hnw (.cells #[.string x.key, .int .i64 x.at_, .int .i64 x.v] 30))
      gi_wp2_with fail
      refine ⟨trivial, ?_⟩
      refine (callsIn_wide.2 (see_any sb j M x _ bM1 hj.limit hx)).mono ?_
      unfold SeePost
      rw [hy]
      rintro e w2 ⟨rfl, bM2, hT2⟩
      have HJ2 : Hid (J (keptF j 0 (ls.take k)) w2) := Lib.hid (hJs _ _ _ HJ1.out ⟨sb, _, by omega, bM1, hT2⟩)
      have hr2 := hr1.below (hT2.lift n₀ _ (Below.refl _ _) (by omega) (by omega) (by simp; omega))
      have lM2 := bM2.lt
      clear HJ HJ1 hr hr1 bM bM1 x0 x1 x2 hT2
      by_cases hle : M ≤ x.at_
      · have hdl : decide (x.at_ < M) = false := by simp; omega
        have HK2 := Lib.hid (HK.out.trans (by rw [if_pos hle, hy]))
        rw [← HT.out] at bM2
        clear HK HT hy hle
        have bM3 := bM2.alloc (.cells #[.string y.key, .int .i64 y.at_, .int .i64 y.v] 30)
        have HJ3 : Hid (J (keptF j 0 (ls.take k)) (w2.alloc (.cells #[.string y.key, .int .i64 y.at_, .int .i64 y.v] 30))) := Lib.hid (hJa _ _ _ HJ2.out)
        have hr3 := hr2.below ((Below.refl n₀ w2).alloc (by omega) (.cells #[.string y.key, .int .i64 y.at_, .int .i64 y.v] 30))
        obtain ⟨fn, tmps, assign, body, hyy, hR⟩ := hY _ y _ HJ3.out (by rw [← HK2.out]; exact keptF_pre j ls (k + 1))
        rw [← HK2.out] at hR
        gi_wp2_with fail
        refine hR.mono ?_
        rintro e w4 ⟨rfl, hJ4, hk4⟩
        have HJ4 := Lib.hid hJ4
        have hr4 := hr3.below hk4.below
        have bM4 := hk4.src _ _ bM3
        clear hR hyy hJ4 hJa hJs hY
        gi_wp2
        go_roundw
        case rel => exact ⟨k + 1, by omega, by go_num, bM4.lt, hr4, bM4, HJ4⟩
        case measure => simp [intOf]; omega
      · have hdl : decide (x.at_ < M) = true := by simp; omega
        have HK2 := Lib.hid (HK.out.trans (by rw [if_neg hle, List.append_nil]))
        rw [← HT.out] at bM2
        have hr3 := hr2.below ((Below.refl n₀ w2).alloc (by omega) (.cells #[.string y.key, .int .i64 y.at_, .int .i64 y.v] 30))
        have HJ3 : Hid (J (keptF j 0 (ls.take (k + 1))) (w2.alloc (.cells #[.string y.key, .int .i64 y.at_, .int .i64 y.v] 30))) := Lib.hid (by rw [HK2.out]; exact hJa _ _ _ HJ2.out)
        clear hJa hJs hY HK HT hle
        gi_wp2
        repeat (refine ⟨(fun _ h => nomatch h), ?_⟩; gi_wp2)
        go_roundw
        case rel => exact ⟨k + 1, by omega, by go_num, by simp; omega, hr3, bM2.alloc _, HJ3⟩
        case measure => simp [intOf]; omega
    · obtain rfl : k = m := by omega
      have HF : Hid (J (keptF j 0 ls) wr) := Lib.hid (by have := HJ.out; rwa [List.take_of_length_le (by have := HLn.out; omega)] at this)
      clear HJ hJa hJs hY
      gi_wp2
      go_end0
      first | exact ⟨⟨_, rfl⟩, HF.out⟩ | exact ⟨_, HF.out⟩

end Go.Proofs.Ytgaknbgmodmniaa
