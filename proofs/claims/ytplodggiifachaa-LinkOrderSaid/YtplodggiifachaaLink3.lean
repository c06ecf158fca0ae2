/- Walks of slices.Clone at a row of bodies, and of link.Ack. -/
import Derived.Test.YtplodggiifachaaLink2
import Derived.Lib.SliceRun
namespace Go.Proofs.Ytplodggiifachaa
open Go.RowKit
set_option linter.unusedVariables false
set_option linter.unusedSimpArgs false

theorem infoStr : (Try.prog.info? 9).map (fun i => (i.zero, i.size, i.bytes)) = some (some (.string .empty), 1, 16) := by kernel_rfl

theorem set_set (w : World) (g o : Nat) (v v' : Value) : (w.setCell ⟨g, o, none⟩ v).setCell ⟨g, o, none⟩ v' = w.setCell ⟨g, o, none⟩ v' := by
  unfold World.setCell
  congr 1
  apply Array.ext_getElem?
  intro i
  simp only [Array.getElem?_modify]
  by_cases h : g = i
  · simp only [h, if_true]
    cases hx : w.heap[i]? with
    | none => rfl
    | some o' => cases o' <;> simp
  · simp [h]

theorem one_strs (l : List ByteArray) : ∀ u ∈ l.map Value.string, u.oneCell' = true := by
  intro u hu
  obtain ⟨b, _, rfl⟩ := List.mem_map.1 hu
  rfl

/-- What a call leaves that returns a row of bodies in memory of its own. -/
def RowPost (zs : List ByteArray) (w : World) (e : Ending) (w' : World) : Prop := ∃ A c, e = .returned (.slice A zs.length c) ∧ w'.ownsRow w.heap.size 9 1 (.slice A zs.length c) zs.length (zs.map Value.string) ∧ Below w.heap.size w w'

set_option maxHeartbeats 1000000 in
theorem clone_any (A : Option Addr) (n c : Nat) (zs : List ByteArray) (w : World) (hr : Reads w w.heap.size 1 A n (zs.map Value.string)) (hm : n ≤ 1000) :
    Calls Try.prog 28 #[.slice A n c] w (RowPost zs w) := by
  have hlen : zs.length = n := by have := hr.1; simpa using this
  obtain ⟨i0, hi, hz0, hz1, hz2⟩ := info_parts infoStr
  unfold RowPost
  rw [hlen]
  rcases A with _ | ad
  · have h0 : n = 0 := by
      rcases Nat.eq_zero_or_pos n with h | h
      · exact h
      · obtain ⟨ad, h, _⟩ := hr.2 h
        cases h
    subst h0
    obtain rfl : zs = [] := List.eq_nil_of_length_eq_zero hlen
    have q22 := fun (w : World) (a : Option Addr) (n c n' c' : Nat) => Lib.run_eql_slice_nil w _ _ a n c n' c' Try.underlying29
    go_enter Try.func28, Try.ntmps28
    go_wp2
    go_ret
    exact ⟨_, _, rfl, World.ownsRow_nil _ _ _ _, Below.refl _ _⟩
  · have q22 := fun (w : World) (a : Option Addr) (n c n' c' : Nat) => Lib.run_eql_slice_nil w _ _ a n c n' c' Try.underlying29
    have h0 : (w.alloc (.cells #[] 9)).ownsRow w.heap.size 9 1 (.slice (some ⟨w.heap.size, 0, none⟩) 0 0) 0 [] := World.ownsRow_made w #[] 0 (Nat.le_refl _) (by unfold maxLen; omega) rfl
    go_enter Try.func28, Try.ntmps28
    go_wp2_with (at_builtin; refine wpList_append_any _ rfl (.tmp 5) (.tmp 6) 29 rfl w.heap.size 9 i0 _ 1 16 Try.underlying29 hi hz0 hz1 hz2 rfl (by decide) _ _ _ rfl h0 w.heap.size (some ad) n c (zs.map Value.string) rfl (hr.alloc (Nat.le_refl _) _) (one_strs zs) (by unfold maxLen; omega) (by omega) (by simp) ?_; intro v' w1 hown hgrow _)
    rw [Nat.zero_add] at hown
    obtain ⟨A', c', rfl⟩ : ∃ A' c', v' = .slice A' n c' := by
      rcases hown.2 with ⟨rfl, rfl⟩ | ⟨g, cap, cur, rfl, _⟩
      · exact ⟨_, _, rfl⟩
      · exact ⟨_, _, rfl⟩
    go_wp2
    go_ret
    exact ⟨_, _, rfl, by simpa using hown, ((Below.refl _ w).alloc (Nat.le_refl _) _).grown hgrow (by simp) (fun k hk => (h0.lt k hk).1)⟩

/-- What an acknowledgement makes of a sender, and the error's number. -/
def ackZ (s : Snd) (epoch want : Int) : Snd × Int :=
  if rightB s = false then (⟨0, 0, [], 0⟩, 1)
  else if epoch ≠ s.ep then (⟨0, 0, [], 0⟩, 150)
  else if s.base + s.bodies.length < want then (⟨0, 0, [], 0⟩, 1)
  else if want ≤ s.base then (s, 0)
  else (⟨s.ep, want, s.bodies.drop (want - s.base).toNat, if s.bodies.length ≤ (want - s.base).toNat then 0 else 4⟩, 0)
/-- A sender and an error's number that are returned. -/
def SndPost (A0 : Option Addr) (r : Snd × Int) (w : World) (e : Ending) (w' : World) : Prop :=
  ∃ A c, e = .returned (.tuple #[.agg #[.int .i64 r.1.ep, .int .i64 r.1.base, .slice A r.1.bodies.length c, .int .i64 r.1.timer], .int .i64 r.2]) ∧ Reads w' w'.heap.size 1 A r.1.bodies.length (r.1.bodies.map Value.string) ∧ r.1.bodies.length ≤ c ∧ (A = A0 ∨ ∀ ad, A = some ad → w.heap.size ≤ ad.block) ∧ Below w.heap.size w w'

theorem rightB_iff {s : Snd} : rightB s = true ↔ (0 ≤ s.ep ∧ s.ep ≤ 1073741824) ∧ s.bodies.length ≤ 8 ∧ (0 ≤ s.base ∧ s.base ≤ 1073741824 - s.bodies.length) ∧ (0 ≤ s.timer ∧ s.timer ≤ 4) ∧ (s.timer = 0 ↔ s.bodies.length = 0) ∧ longB s.bodies = false := by
  unfold rightB
  simp only [Bool.and_eq_true, withinB_true, Bool.not_eq_true']
  have e : ((s.timer == 0) == ((s.bodies.length : Int) == 0)) = true ↔ (s.timer = 0 ↔ s.bodies.length = 0) := by
    rw [beq_iff_eq, Bool.eq_iff_iff, beq_iff_eq, beq_iff_eq]
    omega
  rw [e]
  constructor
  · rintro ⟨⟨⟨⟨⟨a, b⟩, c⟩, d⟩, f⟩, g⟩
    exact ⟨a, by omega, c, d, f, g⟩
  · rintro ⟨a, b, c, d, f, g⟩
    exact ⟨⟨⟨⟨⟨a, by omega, by omega⟩, c⟩, d⟩, f⟩, g⟩

theorem reads_len {w : World} {B n : Nat} {A : Option Addr} {zs : List ByteArray} (h : Reads w B 1 A n (zs.map Value.string)) : zs.length = n := by have := h.1; simpa using this

theorem snd_kept {w w' : World} {A A0 : Option Addr} {c : Nat} {ep base timer err : Int} {zs : List ByteArray} (hr : Reads w w.heap.size 1 A zs.length (zs.map Value.string)) (hc : zs.length ≤ c) (hA : A = A0 ∨ ∀ ad, A = some ad → w.heap.size ≤ ad.block) (hB : Below w.heap.size w w') :
    SndPost A0 (⟨ep, base, zs, timer⟩, err) w (.returned (.tuple #[.agg #[.int .i64 ep, .int .i64 base, .slice A zs.length c, .int .i64 timer], .int .i64 err])) w' := ⟨A, c, rfl, (hr.below hB).more hB.size, hc, hA, hB⟩

theorem own_cap {w : World} {base : Nat} {e : TypeId} {size : Nat} {A : Option Addr} {n c : Nat} {xs : List Value} (h : w.ownsRow base e size (.slice A n c) n xs) : n ≤ c := by
  rcases h.2 with ⟨h1, h2⟩ | ⟨g, cap, cur, h1, _, _, h2, _⟩
  · injection h1 with _ e1 e2
    omega
  · injection h1 with _ e1 e2
    omega
theorem own_setCell {w : World} {base : Nat} {e : TypeId} {size : Nat} {v : Value} {n : Nat} {xs : List Value} (h : w.ownsRow base e size v n xs) (g o : Nat) (u : Value) (hg : g < base) : (w.setCell ⟨g, o, none⟩ u).ownsRow base e size v n xs :=
  h.kept (only_setCell (World.grownBy.refl w (some g)) (.inl rfl) u) (.inr fun e => by have := (h.lt _ e).1; omega)
theorem snd_new {w w' : World} {A A0 : Option Addr} {n c b : Nat} {ep base timer err : Int} {zs : List ByteArray} (hN : zs.length = n) (ho : w'.ownsRow b 9 1 (.slice A n c) n (zs.map Value.string)) (hbb : w.heap.size ≤ b) (hB : Below w.heap.size w w') :
    SndPost A0 (⟨ep, base, zs, timer⟩, err) w (.returned (.tuple #[.agg #[.int .i64 ep, .int .i64 base, .slice A n c, .int .i64 timer], .int .i64 err])) w' := by
  subst hN
  refine ⟨A, c, rfl, Reads.of_own ho, own_cap ho, .inr fun ad had => ?_, hB⟩
  subst had
  have := (ho.lt ad.block (by simp [Value.ownBlock])).1
  omega

set_option maxHeartbeats 2000000 in
theorem ack_any (ep base timer epoch want : Int) (zs : List ByteArray) (A : Option Addr) (n c : Nat) (w : World) (hr : Reads w w.heap.size 1 A n (zs.map Value.string)) (hm : n ≤ 9223372036854775807) (hs : ∀ z ∈ zs, z.size ≤ maxLen) (hc : n ≤ c) :
    Calls Try.prog 15 #[.agg #[.int .i64 ep, .int .i64 base, .slice A n c, .int .i64 timer], .int .i64 epoch, .int .i64 want] w (SndPost A (ackZ ⟨ep, base, zs, timer⟩ epoch want) w) := by
  obtain rfl := (reads_len hr).symm
  have hr2 : ∀ o o', Reads ((w.alloc o).alloc o') ((w.alloc o).alloc o').heap.size 1 A zs.length (zs.map Value.string) := fun o o' => ((hr.alloc (Nat.le_refl _) o).alloc (by simp) o').more (by simp; omega)
  cases hR : rightB ⟨ep, base, zs, timer⟩
  · rw [show ackZ ⟨ep, base, zs, timer⟩ epoch want = (⟨0, 0, [], 0⟩, 1) from by unfold ackZ; rw [if_pos hR]]
    go_enter Try.func15, Try.ntmps15
    go_wp2_with fail
    refine (right_any ep base timer zs A zs.length c _ (hr2 _ _) hm hs).mono ?_
    rw [hR]
    rintro e w1 ⟨rfl, hb1⟩
    obtain ⟨c1, f1⟩ := bcell hb1
    have y1 := hb1.size
    try simp at y1
    have z0_0_1 : w.heap.size < w1.heap.size := by omega
    have z0_1_1 : w.heap.size + 1 < w1.heap.size := by omega
    have k1 : Below w.heap.size w w1 := next_below (by go_grown) hb1
    go_wp2
    exact bodyPost_ret (v := .tuple #[.agg #[.int .i64 0, .int .i64 0, .slice none 0 0, .int .i64 0], .int .i64 1]) (by simp [results, Try.results15, go_sem, c1, f1, z0_0_1, z0_1_1, World.cell?_setCell_other]) rfl (snd_kept Reads.none_ (by first | assumption | simp) (by first | exact .inl rfl | exact .inr (fun _ h => nomatch h)) (by go_grown))
  have hR' : ¬ rightB ⟨ep, base, zs, timer⟩ = false := by rw [hR]; simp
  obtain ⟨⟨e1, e2⟩, l8, ⟨b1, b2⟩, _⟩ := rightB_iff.1 hR
  simp only at e1 e2 l8 b1 b2
  cases h1 : (epoch != ep)
  rotate_left
  · rw [show ackZ ⟨ep, base, zs, timer⟩ epoch want = (⟨0, 0, [], 0⟩, 150) from by unfold ackZ; rw [if_neg hR', if_pos (by simpa using h1)]]
    go_enter Try.func15, Try.ntmps15
    go_wp2_with fail
    refine (right_any ep base timer zs A zs.length c _ (hr2 _ _) hm hs).mono ?_
    rw [hR]
    rintro e w1 ⟨rfl, hb1⟩
    obtain ⟨c1, f1⟩ := bcell hb1
    have y1 := hb1.size
    try simp at y1
    have z0_0_1 : w.heap.size < w1.heap.size := by omega
    have z0_1_1 : w.heap.size + 1 < w1.heap.size := by omega
    have k1 : Below w.heap.size w w1 := next_below (by go_grown) hb1
    go_wp2
    exact bodyPost_ret (v := .tuple #[.agg #[.int .i64 0, .int .i64 0, .slice none 0 0, .int .i64 0], .int .i64 150]) (by simp [results, Try.results15, go_sem, c1, f1, z0_0_1, z0_1_1, World.cell?_setCell_other]) rfl (snd_kept Reads.none_ (by first | assumption | simp) (by first | exact .inl rfl | exact .inr (fun _ h => nomatch h)) (by go_grown))
  have h1' : ¬ epoch ≠ ep := by simpa using h1
  by_cases h2 : base + zs.length < want
  · rw [show ackZ ⟨ep, base, zs, timer⟩ epoch want = (⟨0, 0, [], 0⟩, 1) from by unfold ackZ; rw [if_neg hR', if_neg h1', if_pos h2]]
    go_enter Try.func15, Try.ntmps15
    go_wp2_with fail
    refine (right_any ep base timer zs A zs.length c _ (hr2 _ _) hm hs).mono ?_
    rw [hR]
    rintro e w1 ⟨rfl, hb1⟩
    obtain ⟨c1, f1⟩ := bcell hb1
    have y1 := hb1.size
    try simp at y1
    have z0_0_1 : w.heap.size < w1.heap.size := by omega
    have z0_1_1 : w.heap.size + 1 < w1.heap.size := by omega
    have k1 : Below w.heap.size w w1 := next_below (by go_grown) hb1
    go_wp2
    exact bodyPost_ret (v := .tuple #[.agg #[.int .i64 0, .int .i64 0, .slice none 0 0, .int .i64 0], .int .i64 1]) (by simp [results, Try.results15, go_sem, c1, f1, z0_0_1, z0_1_1, World.cell?_setCell_other]) rfl (snd_kept Reads.none_ (by first | assumption | simp) (by first | exact .inl rfl | exact .inr (fun _ h => nomatch h)) (by go_grown))
  by_cases h3 : want ≤ base
  · rw [show ackZ ⟨ep, base, zs, timer⟩ epoch want = (⟨ep, base, zs, timer⟩, 0) from by unfold ackZ; rw [if_neg hR', if_neg h1', if_neg h2, if_pos h3]]
    go_enter Try.func15, Try.ntmps15
    go_wp2_with fail
    refine (right_any ep base timer zs A zs.length c _ (hr2 _ _) hm hs).mono ?_
    rw [hR]
    rintro e w1 ⟨rfl, hb1⟩
    obtain ⟨c1, f1⟩ := bcell hb1
    have y1 := hb1.size
    try simp at y1
    have z0_0_1 : w.heap.size < w1.heap.size := by omega
    have z0_1_1 : w.heap.size + 1 < w1.heap.size := by omega
    have k1 : Below w.heap.size w w1 := next_below (by go_grown) hb1
    go_wp2
    exact bodyPost_ret (v := .tuple #[.agg #[.int .i64 ep, .int .i64 base, .slice A zs.length c, .int .i64 timer], .int .i64 0]) (by simp [results, Try.results15, go_sem, c1, f1, z0_0_1, z0_1_1, World.cell?_setCell_other]) rfl (snd_kept hr (by first | assumption | simp) (by first | exact .inl rfl | exact .inr (fun _ h => nomatch h)) (by go_grown))
  obtain ⟨d, hd⟩ : ∃ d : Nat, want - base = d := ⟨(want - base).toNat, by omega⟩
  obtain rfl : want = base + d := by omega
  clear hd
  have hd1 : d ≤ zs.length := by omega
  have hsub : base + (d : Int) - base = d := by omega
  have hC := fun (w1 : World) (h : Below w.heap.size w w1) => ((hr.below h).more h.size).cut hd1 hc
  simp only [← List.map_drop, Nat.mul_one] at hC
  by_cases h4 : zs.length ≤ d
  · rw [show ackZ ⟨ep, base, zs, timer⟩ epoch (base + d) = (⟨ep, base + d, zs.drop d, 0⟩, 0) from by unfold ackZ; rw [if_neg hR', if_neg h1', if_neg h2, if_neg h3]; simp [show base + (d : Int) - base = d from by omega, h4]]
    go_enter Try.func15, Try.ntmps15
    go_wp2_with fail
    refine (right_any ep base timer zs A zs.length c _ (hr2 _ _) hm hs).mono ?_
    rw [hR]
    rintro e w1 ⟨rfl, hb1⟩
    obtain ⟨c1, f1⟩ := bcell hb1
    have y1 := hb1.size
    try simp at y1
    have z0_0_1 : w.heap.size < w1.heap.size := by omega
    have z0_1_1 : w.heap.size + 1 < w1.heap.size := by omega
    have k1 : Below w.heap.size w w1 := next_below (by go_grown) hb1
    go_wp2_with fail
    all_goals
      have hC1 := hC w1 k1
      first
        | rw [if_pos (by assumption)] at hC1
        | rw [if_neg (by assumption)] at hC1
      try rw [show zs.length - d = 0 from by omega] at hC1
      refine (clone_any _ _ _ (zs.drop d) _ hC1 (by omega)).mono ?_
      rintro e w2 ⟨A2, c2', rfl, ho2, hb2⟩
      rw [show (zs.drop d).length = 0 from by rw [List.length_drop]; try omega] at ho2 ⊢
      obtain ⟨c2, f2⟩ := bcell hb2
      have y2 := hb2.size
      have z1 : w.heap.size < w2.heap.size := by omega
      have z2 : w.heap.size + 1 < w2.heap.size := by omega
      have k2 : Below w.heap.size w w2 := k1.trans (hb2.mono k1.size)
      have bS : Blk w2 w.heap.size 31 #[.int .i64 ep, .int .i64 base, .slice A zs.length c, .int .i64 timer] := (((Blk.new w _ _).alloc _).below hb1 (by simp; omega)).below hb2 z0_0_1
      have bR : Blk w2 (w.heap.size + 1) 31 #[.int .i64 0, .int .i64 0, .slice none 0 0, .int .i64 0] := ((by simpa using Blk.new (w.alloc (.cells #[.int .i64 ep, .int .i64 base, .slice A zs.length c, .int .i64 timer] 31)) 31 #[.int .i64 0, .int .i64 0, .slice none 0 0, .int .i64 0] : Blk _ (w.heap.size + 1) _ _).below hb1 (by simp)).below hb2 z0_1_1
      have e0 : w2.cell? ⟨w.heap.size, 0, none⟩ = some (.int .i64 ep) := bS.cell 0
      have e1' : w2.cell? ⟨w.heap.size, 1, none⟩ = some (.int .i64 base) := bS.cell 1
      have e2' : w2.cell? ⟨w.heap.size, 2, none⟩ = some (.slice A zs.length c) := bS.cell 2
      have e3 : w2.cell? ⟨w.heap.size, 3, none⟩ = some (.int .i64 timer) := bS.cell 3
      have r0 : w2.cell? ⟨w.heap.size + 1, 0, none⟩ = some (.int .i64 0) := bR.cell 0
      have r1 : w2.cell? ⟨w.heap.size + 1, 1, none⟩ = some (.int .i64 0) := bR.cell 1
      have r2 : w2.cell? ⟨w.heap.size + 1, 2, none⟩ = some (.slice none 0 0) := bR.cell 2
      have r3 : w2.cell? ⟨w.heap.size + 1, 3, none⟩ = some (.int .i64 0) := bR.cell 3
      have fS := bS.frozen
      have fR := bR.frozen
      clear c1 c2 f1 f2
      have hss := set_set
      go_wp2
      have hN : (zs.drop d).length = 0 := by rw [List.length_drop]; try omega
      exact bodyPost_ret (v := .tuple #[.agg #[.int .i64 ep, .int .i64 (base + d), .slice A2 (0) c2', .int .i64 0], .int .i64 0]) (by simp [results, Try.results15, go_sem, r0, r1, r2, r3, World.cell?_setCell_other]) rfl
        (snd_new hN (own_setCell (own_setCell (own_setCell (own_setCell (own_setCell (own_setCell (own_setCell ho2 _ _ _ z0_0_1) _ _ _ z0_0_1) _ _ _ z0_0_1) _ _ _ z0_1_1) _ _ _ z0_1_1) _ _ _ z0_1_1) _ _ _ z0_1_1) (Nat.le_of_lt z0_0_1) (by go_grown))
  · rw [show ackZ ⟨ep, base, zs, timer⟩ epoch (base + d) = (⟨ep, base + d, zs.drop d, 4⟩, 0) from by unfold ackZ; rw [if_neg hR', if_neg h1', if_neg h2, if_neg h3]; simp [show base + (d : Int) - base = d from by omega, h4]]
    go_enter Try.func15, Try.ntmps15
    go_wp2_with fail
    refine (right_any ep base timer zs A zs.length c _ (hr2 _ _) hm hs).mono ?_
    rw [hR]
    rintro e w1 ⟨rfl, hb1⟩
    obtain ⟨c1, f1⟩ := bcell hb1
    have y1 := hb1.size
    try simp at y1
    have z0_0_1 : w.heap.size < w1.heap.size := by omega
    have z0_1_1 : w.heap.size + 1 < w1.heap.size := by omega
    have k1 : Below w.heap.size w w1 := next_below (by go_grown) hb1
    go_wp2_with fail
    all_goals
      have hC1 := hC w1 k1
      first
        | rw [if_pos (by assumption)] at hC1
        | rw [if_neg (by assumption)] at hC1
      try rw [show zs.length - d = zs.length - d from by omega] at hC1
      refine (clone_any _ _ _ (zs.drop d) _ hC1 (by omega)).mono ?_
      rintro e w2 ⟨A2, c2', rfl, ho2, hb2⟩
      rw [show (zs.drop d).length = zs.length - d from by rw [List.length_drop]; try omega] at ho2 ⊢
      obtain ⟨c2, f2⟩ := bcell hb2
      have y2 := hb2.size
      have z1 : w.heap.size < w2.heap.size := by omega
      have z2 : w.heap.size + 1 < w2.heap.size := by omega
      have k2 : Below w.heap.size w w2 := k1.trans (hb2.mono k1.size)
      have bS : Blk w2 w.heap.size 31 #[.int .i64 ep, .int .i64 base, .slice A zs.length c, .int .i64 timer] := (((Blk.new w _ _).alloc _).below hb1 (by simp; omega)).below hb2 z0_0_1
      have bR : Blk w2 (w.heap.size + 1) 31 #[.int .i64 0, .int .i64 0, .slice none 0 0, .int .i64 0] := ((by simpa using Blk.new (w.alloc (.cells #[.int .i64 ep, .int .i64 base, .slice A zs.length c, .int .i64 timer] 31)) 31 #[.int .i64 0, .int .i64 0, .slice none 0 0, .int .i64 0] : Blk _ (w.heap.size + 1) _ _).below hb1 (by simp)).below hb2 z0_1_1
      have e0 : w2.cell? ⟨w.heap.size, 0, none⟩ = some (.int .i64 ep) := bS.cell 0
      have e1' : w2.cell? ⟨w.heap.size, 1, none⟩ = some (.int .i64 base) := bS.cell 1
      have e2' : w2.cell? ⟨w.heap.size, 2, none⟩ = some (.slice A zs.length c) := bS.cell 2
      have e3 : w2.cell? ⟨w.heap.size, 3, none⟩ = some (.int .i64 timer) := bS.cell 3
      have r0 : w2.cell? ⟨w.heap.size + 1, 0, none⟩ = some (.int .i64 0) := bR.cell 0
      have r1 : w2.cell? ⟨w.heap.size + 1, 1, none⟩ = some (.int .i64 0) := bR.cell 1
      have r2 : w2.cell? ⟨w.heap.size + 1, 2, none⟩ = some (.slice none 0 0) := bR.cell 2
      have r3 : w2.cell? ⟨w.heap.size + 1, 3, none⟩ = some (.int .i64 0) := bR.cell 3
      have fS := bS.frozen
      have fR := bR.frozen
      clear c1 c2 f1 f2
      have hss := set_set
      go_wp2
      have hN : (zs.drop d).length = zs.length - d := by rw [List.length_drop]; try omega
      exact bodyPost_ret (v := .tuple #[.agg #[.int .i64 ep, .int .i64 (base + d), .slice A2 (zs.length - d) c2', .int .i64 4], .int .i64 0]) (by simp [results, Try.results15, go_sem, r0, r1, r2, r3, World.cell?_setCell_other]) rfl
        (snd_new hN (own_setCell (own_setCell (own_setCell (own_setCell (own_setCell (own_setCell (own_setCell ho2 _ _ _ z0_0_1) _ _ _ z0_0_1) _ _ _ z0_0_1) _ _ _ z0_1_1) _ _ _ z0_1_1) _ _ _ z0_1_1) _ _ _ z0_1_1) (Nat.le_of_lt z0_0_1) (by go_grown))

end Go.Proofs.Ytplodggiifachaa
