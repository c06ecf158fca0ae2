/- Walk of the iterator that package model's kept hands back: the events of a source that are kept. -/
import Derived.RangeFuncNested
import Derived.RangeFuncCalls
import Derived.RangeFuncLeaves
import Derived.Shelf.Abstract
import Derived.Shelf.RegionOpen
import Derived.OwnWalkIn
import Derived.TacticsInMore
import Derived.LoopNIn
import Derived.LoopIn
import Derived.Test.YtgaknbgmodmniaaTellQ
namespace Go.Proofs.Ytgaknbgmodmniaa
open Go.RowKit Go.Shelf
set_option linter.unusedVariables false
set_option linter.unusedSimpArgs false
attribute [local go_sem] Oper.semAt_some

theorem keptF_snoc (j : Jb) (x : Ev) : ∀ (l : List Ev) (m : Int), keptF j m (l ++ [x]) = keptF j m l ++ (if l.foldl (markZ j) m ≤ x.at_ then [runE j x] else [])
  | [], m => by by_cases h : m ≤ x.at_ <;> simp [keptF, h]
  | y :: l, m => by
    have e := keptF_snoc j x l (markZ j m y)
    rw [List.cons_append]
    unfold keptF
    rw [e, List.append_assoc]
    rfl
theorem keptF_take {j : Jb} {ls : List Ev} {k : Nat} (h : k < ls.length) : keptF j 0 (ls.take (k + 1)) = keptF j 0 (ls.take k) ++ (if markL j (ls.take k) ≤ ls[k].at_ then [runE j ls[k]] else []) := by
  rw [List.take_succ_eq_append_getElem h, keptF_snoc]
  rfl
theorem keptF_len (j : Jb) : ∀ (l : List Ev) (m : Int), (keptF j m l).length ≤ l.length
  | [], m => by simp [keptF]
  | y :: l, m => by
    have := keptF_len j l (markZ j m y)
    unfold keptF
    by_cases h : m ≤ y.at_
    · simp [h]; omega
    · simp [h]; omega
/-- What the caller's memory may turn by while the iterator is on its way. -/
def Sib (n₀ : Nat) (W W' : World) : Prop := ∃ sb cs, n₀ ≤ sb ∧ Blk W sb 53 cs ∧ Turn sb sb (.slice none 0 0) (.slice none 0 0) W W'
/-- What a round keeps: what lay below n₀, and each source of package model. -/
structure KeepT (n₀ : Nat) (W W' : World) : Prop where
  below : Below n₀ W W'
  src : ∀ b cs, Blk W b 53 cs → Blk W' b 53 cs

set_option maxRecDepth 100000 in
set_option maxHeartbeats 2000000 in
theorem kept1_in (n : Nat) (hn : 1 ≤ n) (l bj bl n₀ : Nat) (j : Jb) (A : Option Addr) (m c : Nat) (ls : List Ev) (hv : ∀ z ∈ ls, -9223372036854775808 ≤ z.v ∧ z.v ≤ 9223372036854775807) (hm : m ≤ 9223372036854775807) (hj : j.Wf)
    (J : List Ev → World → Prop)
    (hJa : ∀ pre W (o : Obj), J pre W → J pre (W.alloc o)) (hJs : ∀ pre W W', J pre W → Sib n₀ W W' → J pre W')
    (hY : ∀ pre x W, J pre W → pre.length < m → YieldAt Fence.wide (n - 1) Try.prog l #[.agg #[.string x.key, .int .i64 x.at_, .int .i64 x.v]] W fun e W' =>
      e = .returned (.bool true) ∧ J (pre ++ [x]) W' ∧ KeepT n₀ W W')
    (W : World) (cj : Blk W bj 23 #[.int .i64 j.groups, .int .i64 j.size, .int .i64 j.slide, .int .i64 j.fold, .int .i64 j.fuel, .int .i64 j.limit, .int .i64 j.delay, .int .i64 j.idle]) (cl : W.cell? ⟨bl, 0, none⟩ = some (.slice A m c)) (hlb : bl < W.heap.size) (hn0 : n₀ ≤ W.heap.size) (hr : Reads W n₀ 3 A m (evs ls)) (h0 : J [] W) :
    CallsIn Fence.wide n Try.prog 15 #[.func (.yield l) #[] #[], .pointer (some ⟨bj, 0, none⟩), .pointer (some ⟨bl, 0, none⟩)] W fun e W' => (∃ v, e = .returned v) ∧ J (keptF j 0 ls) W' := by
  refine callsIn_of_wp Try.func15 rfl trivial ?_ rfl
  simp only [Try.ntmps15, List.size_toArray, List.length_cons, List.length_nil, Nat.reduceAdd, Nat.reduceSub, Array.replicate_succ, Array.replicate_zero, List.push_toArray, List.append_toArray, List.nil_append, List.cons_append]
  have j0 : W.cell? ⟨bj, 0, none⟩ = some (.int .i64 j.groups) := cj.cell 0
  have j1 : W.cell? ⟨bj, 1, none⟩ = some (.int .i64 j.size) := cj.cell 1
  have j2 : W.cell? ⟨bj, 2, none⟩ = some (.int .i64 j.slide) := cj.cell 2
  have j3 : W.cell? ⟨bj, 3, none⟩ = some (.int .i64 j.fold) := cj.cell 3
  have j4 : W.cell? ⟨bj, 4, none⟩ = some (.int .i64 j.fuel) := cj.cell 4
  have j5 : W.cell? ⟨bj, 5, none⟩ = some (.int .i64 j.limit) := cj.cell 5
  have j6 : W.cell? ⟨bj, 6, none⟩ = some (.int .i64 j.delay) := cj.cell 6
  have j7 : W.cell? ⟨bj, 7, none⟩ = some (.int .i64 j.idle) := cj.cell 7
  have HLn := Lib.hid (evs_len hr)
  have HV := Lib.hid hv
  have H0 : Hid (J [] W) := Lib.hid h0
  clear hv h0
  gi_wp2
  have bM := Blk.new W 53 (seeC j 0)
  have H1 : Hid (J [] (W.alloc (.cells (seeC j 0) 53))) := Lib.hid (hJa _ _ _ H0.out)
  have hb : Below W.heap.size W (W.alloc (.cells (seeC j 0) 53)) := by go_grown
  have hlt0 : W.heap.size < (W.alloc (.cells (seeC j 0) 53)).heap.size := by simp
  generalize hsb : W.heap.size = sb at *
  gi_loopw [15] (fun i wr => ∃ k : Nat, k ≤ m ∧ i = .int .i64 k ∧ sb < wr.heap.size ∧ Reads wr n₀ 3 A m (evs ls) ∧ Blk wr sb 53 (seeC j (markL j (ls.take k))) ∧ Hid (J (keptF j 0 (ls.take k)) wr)) (fun i _ => m - (intOf i).toNat)
  case atStart => exact ⟨0, Nat.zero_le _, rfl, hlt0, hr.below (hb.mono hn0), bM, H1⟩
  case round =>
    clear j0 j1 j2 j3 j4 j5 j6 j7 bM H1 hb hlt0 H0 hr
    obtain ⟨k, hk, rfl, hsz, hr, bM, HJ⟩ := hrel
    by_cases hlt : k < m
    · obtain ⟨ad, hl, rfl, hab, x0, x1, x2⟩ := evs_get hr hlt
      have hx := HV.out ls[k] (List.getElem_mem hl)
      have HT := Lib.hid (markL_take (j := j) hl)
      have HK := Lib.hid (keptF_take (j := j) hl)
      have HKL : Hid ((keptF j 0 (ls.take k)).length < m) := Lib.hid (Nat.lt_of_le_of_lt (keptF_len j _ _) (by rw [List.length_take]; omega))
      generalize ls[k] = x at *
      obtain ⟨M, hM⟩ : ∃ M, markL j (ls.take k) = M := ⟨_, rfl⟩
      rw [hM] at bM HT HK
      clear hM
      obtain ⟨y, hy⟩ : ∃ y, runE j x = y := ⟨_, rfl⟩
      have bM1 := bM.alloc (.cells #[.string x.key, .int .i64 x.at_, .int .i64 x.v] 30)
      have HJ1 : Hid (J (keptF j 0 (ls.take k)) (wr.alloc (.cells #[.string x.key, .int .i64 x.at_, .int .i64 x.v] 30))) := Lib.hid (hJa _ _ _ HJ.out)
      have hnw : n₀ ≤ wr.heap.size := by omega
      have hr1 := hr.below ((Below.refl n₀ wr).alloc hnw (.cells #[.string x.key, .int .i64 x.at_, .int .i64 x.v] 30))
      gi_wp2_with fail
      refine ⟨trivial, ?_⟩
      refine (callsIn_wide.2 (see_any sb j M x _ bM1 hj.limit hx)).mono ?_
      unfold SeePost
      rw [hy]
      rintro e w2 ⟨rfl, bM2, hT2⟩
      have HJ2 : Hid (J (keptF j 0 (ls.take k)) w2) := Lib.hid (hJs _ _ _ HJ1.out ⟨sb, _, by omega, bM1, hT2⟩)
      have hr2 := hr1.below (hT2.lift n₀ _ (Below.refl _ _) (by omega) (by omega) (by simp; omega))
      have lM2 := bM2.lt
      clear HJ HJ1 hr hr1 bM bM1 x0 x1 x2 hT2
      by_cases hle : M ≤ x.at_
      · have hdl : decide (x.at_ < M) = false := by simp; omega
        have HK2 := Lib.hid (HK.out.trans (by rw [if_pos hle, hy]))
        rw [← HT.out] at bM2
        clear HK HT hy hle
        have bM3 := bM2.alloc (.cells #[.string y.key, .int .i64 y.at_, .int .i64 y.v] 30)
        have HJ3 : Hid (J (keptF j 0 (ls.take k)) (w2.alloc (.cells #[.string y.key, .int .i64 y.at_, .int .i64 y.v] 30))) := Lib.hid (hJa _ _ _ HJ2.out)
        have hr3 := hr2.below ((Below.refl n₀ w2).alloc (by omega) (.cells #[.string y.key, .int .i64 y.at_, .int .i64 y.v] 30))
        obtain ⟨fn, tmps, assign, body, hyy, hR⟩ := hY _ y _ HJ3.out HKL.out
        rw [← HK2.out] at hR
        gi_wp2_with fail
        refine hR.mono ?_
        rintro e w4 ⟨rfl, hJ4, hk4⟩
        have HJ4 := Lib.hid hJ4
        have hr4 := hr3.below hk4.below
        have bM4 := hk4.src _ _ bM3
        clear hR hyy hJ4 hJa hJs hY
        gi_wp2
        go_roundw
        case rel => exact ⟨k + 1, by omega, by go_num, bM4.lt, hr4, bM4, HJ4⟩
        case measure => simp [intOf]; omega
      · have hdl : decide (x.at_ < M) = true := by simp; omega
        have HK2 := Lib.hid (HK.out.trans (by rw [if_neg hle, List.append_nil]))
        rw [← HT.out] at bM2
        have hr3 := hr2.below ((Below.refl n₀ w2).alloc (by omega) (.cells #[.string y.key, .int .i64 y.at_, .int .i64 y.v] 30))
        have HJ3 : Hid (J (keptF j 0 (ls.take (k + 1))) (w2.alloc (.cells #[.string y.key, .int .i64 y.at_, .int .i64 y.v] 30))) := Lib.hid (by rw [HK2.out]; exact hJa _ _ _ HJ2.out)
        clear hJa hJs hY HK HT hle
        gi_wp2
        repeat (refine ⟨(fun _ h => nomatch h), ?_⟩; gi_wp2)
        go_roundw
        case rel => exact ⟨k + 1, by omega, by go_num, by simp; omega, hr3, bM2.alloc _, HJ3⟩
        case measure => simp [intOf]; omega
    · obtain rfl : k = m := by omega
      have HF : Hid (J (keptF j 0 ls) wr) := Lib.hid (by have := HJ.out; rwa [List.take_of_length_le (by have := HLn.out; omega)] at this)
      clear HJ hJa hJs hY
      gi_wp2
      go_end0
      first | exact ⟨⟨_, rfl⟩, HF.out⟩ | exact ⟨_, HF.out⟩

end Go.Proofs.Ytgaknbgmodmniaa
