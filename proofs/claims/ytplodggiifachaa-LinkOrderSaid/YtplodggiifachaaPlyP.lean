/- The plain law of the play: what holds of it whatever happens. -/
import Derived.Test.YtplodggiifachaaPly3
namespace Go.Proofs.Ytplodggiifachaa
open Go.RowKit
set_option linter.unusedVariables false
set_option linter.unusedSimpArgs false

/-- What holds of a play of the epoch E, so many steps on, its sender's base n. -/
structure Inv (E : Int) (k : Nat) (p : Ply) (n : Nat) : Prop where
  e0 : 0 ≤ E ∧ E ≤ 536870912
  re : p.rE = E
  se : p.s.ep = E
  rt : rightB p.s = true
  ok : p.ok = true
  rw_ : p.rW = p.got.length
  ba : p.s.base = n
  nb : n ≤ p.got.length
  np : p.got.length ≤ p.put.length
  bo : p.s.bodies = p.put.drop n
  go : p.got = p.put.take p.got.length
  wa : ∀ x ∈ p.way, x.ep = E ∧ ∃ j : Nat, x.no = j ∧ p.put[j]? = some x.body
  pu : ∀ b ∈ p.put, b.size ≤ 100
  wn : ∀ x ∈ p.wants, ∃ j : Nat, x = j ∧ j ≤ p.got.length
  l1 : p.way.length ≤ 9 * k
  l2 : p.put.length ≤ k
  l3 : p.wants.length ≤ k
variable {E : Int} {k : Nat} {p : Ply} {n : Nat}
theorem Inv.more (h : Inv E k p n) : Inv E (k + 1) p n :=
  { h with l1 := by have := h.l1; omega, l2 := by have := h.l2; omega, l3 := by have := h.l3; omega }
theorem Inv.blen (h : Inv E k p n) : p.s.bodies.length = p.put.length - n := by rw [h.bo, List.length_drop]
theorem Inv.b8 (h : Inv E k p n) : p.s.bodies.length ≤ 8 := (rightB_iff.1 h.rt).2.1
theorem Inv.pkOk (h : Inv E k p n) (hk : k ≤ 1000) {x : Pk} (hx : x ∈ p.way) : PkOk p x := by
  obtain ⟨e, j, hj, hb⟩ := h.wa x hx
  have hjl := (List.getElem?_eq_some_iff.1 hb).1
  have hbs := h.pu x.body (List.mem_of_getElem? hb)
  have := h.e0
  have := h.re
  have := h.rw_
  have := h.np
  have := h.l2
  exact ⟨by omega, by omega, by omega, by omega, by omega⟩
theorem Inv.tell (h : Inv E k p n) {x : Pk} (hx : x ∈ p.way) : Inv E (k + 1) (tellZ p x) n := by
  obtain ⟨e, j, hj, hb⟩ := h.wa x hx
  have hjl := (List.getElem?_eq_some_iff.1 hb).1
  have h1 := h.rw_
  have h2 := h.nb
  have h3 := h.np
  have h4 := h.l2
  have h5 := h.l3
  by_cases hd : x.no = p.rW
  · have hjg : j = p.got.length := by omega
    subst hjg
    refine { e0 := h.e0, re := h.re, se := h.se, rt := h.rt, ok := h.ok, rw_ := ?_, ba := h.ba, nb := ?_, np := ?_, bo := h.bo, go := ?_, wa := h.wa, pu := h.pu, wn := ?_, l1 := ?_, l2 := ?_, l3 := ?_ }
    · simp only [tellZ, if_pos hd, List.length_append, List.length_singleton]; omega
    · simp only [tellZ, if_pos hd, List.length_append, List.length_singleton]; omega
    · simp only [tellZ, if_pos hd, List.length_append, List.length_singleton]; omega
    · simp only [tellZ, if_pos hd, List.length_append, List.length_singleton]
      rw [List.take_add_one, hb, ← h.go]; rfl
    · intro y hy
      simp only [tellZ, if_pos hd, List.length_append, List.length_singleton, List.mem_append, List.mem_singleton] at hy ⊢
      rcases hy with hy | hy
      · obtain ⟨i, hi, hl⟩ := h.wn y hy
        exact ⟨i, hi, by omega⟩
      · exact ⟨p.got.length + 1, by omega, by omega⟩
    · have := h.l1; show p.way.length ≤ _; omega
    · show p.put.length ≤ _; omega
    · simp only [tellZ, List.length_append, List.length_singleton]; omega
  · refine { e0 := h.e0, re := h.re, se := h.se, rt := h.rt, ok := h.ok, rw_ := ?_, ba := h.ba, nb := ?_, np := ?_, bo := h.bo, go := ?_, wa := h.wa, pu := h.pu, wn := ?_, l1 := ?_, l2 := ?_, l3 := ?_ }
    · simp only [tellZ, if_neg hd]; omega
    · simp only [tellZ, if_neg hd]; omega
    · simp only [tellZ, if_neg hd]; omega
    · simp only [tellZ, if_neg hd]; exact h.go
    · intro y hy
      simp only [tellZ, if_neg hd, List.mem_append, List.mem_singleton] at hy ⊢
      rcases hy with hy | hy
      · exact h.wn y hy
      · exact ⟨p.got.length, by omega, by omega⟩
    · have := h.l1; show p.way.length ≤ _; omega
    · show p.put.length ≤ _; omega
    · simp only [tellZ, List.length_append, List.length_singleton]; omega
theorem Inv.lose (h : Inv E k p n) (i : Nat) : Inv E k (loseZ p i) n :=
  { h with
    wa := fun x hx => by
      simp only [loseZ, List.mem_append] at hx
      exact h.wa x (hx.elim List.mem_of_mem_take List.mem_of_mem_drop)
    l1 := by
      have := h.l1
      simp only [loseZ, List.length_append, List.length_take, List.length_drop]
      omega }
/-- What pushing makes of a play. -/
def pushP (p : Ply) (b : ByteArray) : Ply :=
  if 8 ≤ p.s.bodies.length then p
  else { p with s := ⟨p.s.ep, p.s.base, p.s.bodies ++ [b], if p.s.bodies.length = 0 then 4 else p.s.timer⟩, way := p.way ++ [⟨p.s.ep, p.s.base + p.s.bodies.length, b⟩], put := p.put ++ [b] }
theorem Inv.push (h : Inv E k p n) (hk : k ≤ 1000) {b : ByteArray} (hb : b.size ≤ 100) : Inv E (k + 1) (pushP p b) n := by
  unfold pushP
  split
  · exact h.more
  have h1 := h.rw_
  have h2 := h.nb
  have h3 := h.np
  have h4 := h.l2
  have h5 := h.l3
  have h6 := h.blen
  have h7 := h.ba
  obtain ⟨r1, r2, r3, r4, r5, r6⟩ := rightB_iff.1 h.rt
  refine { e0 := h.e0, re := h.re, se := h.se, rt := ?_, ok := h.ok, rw_ := h1, ba := h.ba, nb := h2, np := ?_, bo := ?_, go := ?_, wa := ?_, pu := ?_, wn := h.wn, l1 := ?_, l2 := ?_, l3 := ?_ }
  · rw [rightB_iff]
    simp only [List.length_append, List.length_singleton]
    refine ⟨r1, by omega, by omega, ?_, ?_, ?_⟩
    · split <;> omega
    · split <;> omega
    · unfold longB at *
      rw [List.any_append, r6]
      simp; omega
  · simp only [List.length_append, List.length_singleton]; omega
  · simp only
    rw [List.drop_append_of_le_length (by omega), ← h.bo]
  · simp only
    rw [List.take_append_of_le_length h3]
    exact h.go
  · intro x hx
    simp only [List.mem_append, List.mem_singleton] at hx ⊢
    rcases hx with hx | rfl
    · obtain ⟨e, j, hj, hb⟩ := h.wa x hx
      exact ⟨e, j, hj, by rw [List.getElem?_append_left (List.getElem?_eq_some_iff.1 hb).1]; exact hb⟩
    · exact ⟨h.se, p.put.length, by simp only; omega, by simp⟩
  · intro y hy
    simp only [List.mem_append, List.mem_singleton] at hy
    rcases hy with hy | rfl
    · exact h.pu y hy
    · exact hb
  · have := h.l1
    simp only [List.length_append, List.length_singleton]; omega
  · simp only [List.length_append, List.length_singleton]; omega
  · show p.wants.length ≤ _; omega
/-- What telling the sender what is waited for makes of a play. -/
def ackP (p : Ply) (x : Int) : Ply := { p with s := (ackZ p.s p.s.ep x).1 }
theorem Inv.ack_ok (h : Inv E k p n) {x : Int} {j : Nat} (hx : x = j) (hj : j ≤ p.got.length) :
    (ackZ p.s p.s.ep x).2 = 0 ∧ ∃ n', Inv E k (ackP p x) n' := by
  have h1 := h.rw_
  have h2 := h.nb
  have h3 := h.np
  have h6 := h.blen
  have h7 := h.ba
  obtain ⟨r1, r2, r3, r4, r5, r6⟩ := rightB_iff.1 h.rt
  by_cases hb : x ≤ p.s.base
  · have hz : ackZ p.s p.s.ep x = (p.s, 0) := by
      unfold ackZ
      rw [if_neg (by simp [h.rt]), if_neg (by simp), if_neg (by omega), if_pos hb]
    unfold ackP
    rw [hz]
    exact ⟨rfl, n, h⟩
  · have hz : ackZ p.s p.s.ep x = (⟨p.s.ep, x, p.s.bodies.drop (j - n), if p.s.bodies.length ≤ j - n then 0 else 4⟩, 0) := by
      unfold ackZ
      rw [if_neg (by simp [h.rt]), if_neg (by simp), if_neg (by omega), if_neg hb, show (x - p.s.base).toNat = j - n from by omega]
    unfold ackP
    rw [hz]
    refine ⟨rfl, j, { h with se := h.se, rt := ?_, ba := hx, nb := hj, bo := ?_ }⟩
    · rw [rightB_iff]
      simp only [List.length_drop]
      refine ⟨r1, by omega, by omega, ?_, ?_, ?_⟩
      · split <;> omega
      · split <;> omega
      · unfold longB at *
        rw [List.any_eq_false] at *
        exact fun b hb => r6 b (List.mem_of_mem_drop hb)
    · simp only
      rw [h.bo, List.drop_drop, show n + (j - n) = j from by omega]
theorem pkL_mem (ep : Int) : ∀ (zs : List ByteArray) (base : Int) (x : Pk), x ∈ pkL ep base zs → x.ep = ep ∧ ∃ i : Nat, x.no = base + i ∧ zs[i]? = some x.body
  | [], _, x, h => by simp [pkL] at h
  | z :: zs, base, x, h => by
    rw [pkL, List.mem_cons] at h
    rcases h with rfl | h
    · exact ⟨rfl, 0, by simp, rfl⟩
    · obtain ⟨e, i, hi, hz⟩ := pkL_mem ep zs (base + 1) x h
      exact ⟨e, i + 1, by omega, by simpa using hz⟩
/-- What a tick makes of a play. -/
def tickP (p : Ply) : Ply :=
  { p with s := { p.s with timer := (tickT p.s).1 }, way := if p.way.length < 100 then p.way ++ (if (tickT p.s).2 then pkL p.s.ep p.s.base p.s.bodies else []) else p.way }
theorem tickT_right {s : Snd} (h : rightB s = true) : rightB { s with timer := (tickT s).1 } = true := by
  unfold tickT
  obtain ⟨r1, r2, r3, r4, r5, r6⟩ := rightB_iff.1 h
  split
  · exact h
  · rename_i h0
    have h1 : ¬ s.bodies.length = 0 := fun e => h0 (.inr e)
    split <;> rw [rightB_iff] <;> exact ⟨r1, r2, r3, by simp only; omega, by simp only; omega, r6⟩
theorem Inv.tick (h : Inv E k p n) : Inv E (k + 1) (tickP p) n := by
  have h1 := h.rw_
  have h2 := h.nb
  have h3 := h.np
  have h4 := h.l2
  have h5 := h.l3
  have h6 := h.blen
  have h7 := h.ba
  have h8 := h.b8
  refine { e0 := h.e0, re := h.re, se := h.se, rt := tickT_right h.rt, ok := h.ok, rw_ := h1, ba := h.ba, nb := h2, np := h3, bo := h.bo, go := h.go, wa := ?_, pu := h.pu, wn := h.wn, l1 := ?_, l2 := ?_, l3 := ?_ }
  · intro x hx
    simp only [tickP] at hx
    split at hx
    · rcases List.mem_append.1 hx with hx | hx
      · exact h.wa x hx
      · split at hx
        · obtain ⟨e, i, hi, hz⟩ := pkL_mem _ _ _ _ hx
          refine ⟨e.trans h.se, n + i, by omega, ?_⟩
          rw [h.bo, List.getElem?_drop] at hz
          exact hz
        · cases hx
    · exact h.wa x hx
  · have := h.l1
    simp only [tickP]
    split
    · split
      · rw [List.length_append, pkL_length]; omega
      · simp; omega
    · omega
  · show p.put.length ≤ _; omega
  · show p.wants.length ≤ _; omega
/-- What is left when all is off the way. -/
def bare (p : Ply) : Ply := { p with way := [] }
theorem Inv.bare (h : Inv E k p n) : Inv E k (Go.Proofs.Ytplodggiifachaa.bare p) n :=
  { h with
    wa := fun x hx => by cases hx
    l1 := by show 0 ≤ _; omega }
theorem tick_tick {t : Int} {s : Snd} (hr : rightB s = true) (h0 : ¬ s.bodies.length = 0) : tickT s = if 1 < s.timer then (s.timer - 1, false) else (4, true) := by
  unfold tickT
  rw [if_neg (by simp [hr, h0])]
/-- Four ticks send all bodies once. -/
theorem ticks4 (h : Inv E k p n) (hw : p.way = []) : Inv E (k + 4) (tickP (tickP (tickP (tickP p)))) n ∧ (tickP (tickP (tickP (tickP p)))).way = pkL p.s.ep p.s.base p.s.bodies ∧
    (tickP (tickP (tickP (tickP p)))).s.ep = p.s.ep ∧ (tickP (tickP (tickP (tickP p)))).s.base = p.s.base ∧ (tickP (tickP (tickP (tickP p)))).s.bodies = p.s.bodies ∧ (tickP (tickP (tickP (tickP p)))).got = p.got ∧ (tickP (tickP (tickP (tickP p)))).put = p.put := by
  refine ⟨h.tick.tick.tick.tick, ?_, rfl, rfl, rfl, rfl, rfl⟩
  have h8 := h.b8
  have i1 := h.tick
  have i2 := i1.tick
  have i3 := i2.tick
  by_cases h0 : p.s.bodies.length = 0
  · have hb : p.s.bodies = [] := List.length_eq_zero_iff.1 h0
    have e1 : tickT p.s = (p.s.timer, false) := by unfold tickT; rw [if_pos (.inr h0)]
    have t1 : tickP p = p := by
      unfold tickP
      rw [e1]
      simp
    rw [t1, t1, t1, t1, hw, hb]
    rfl
  · obtain ⟨_, _, _, ⟨t0, t4⟩, t5, _⟩ := rightB_iff.1 h.rt
    have ht : p.s.timer = 1 ∨ p.s.timer = 2 ∨ p.s.timer = 3 ∨ p.s.timer = 4 := by omega
    have hl : (pkL p.s.ep p.s.base p.s.bodies).length < 100 := by rw [pkL_length]; omega
    have T : ∀ q : Ply, rightB q.s = true → ¬ q.s.bodies.length = 0 → tickT q.s = if 1 < q.s.timer then (q.s.timer - 1, false) else (4, true) := fun q a b => tick_tick (t := 0) a b
    have a0 := T p h.rt h0
    have a1 := T _ i1.rt h0
    have a2 := T _ i2.rt h0
    have a3 := T _ i3.rt h0
    have hx : ∀ q : Ply, (tickP q).s.timer = (tickT q.s).1 := fun _ => rfl
    have hy : ∀ q : Ply, (tickP q).way = if q.way.length < 100 then q.way ++ (if (tickT q.s).2 then pkL q.s.ep q.s.base q.s.bodies else []) else q.way := fun _ => rfl
    have hz : ∀ q : Ply, pkL (tickP q).s.ep (tickP q).s.base (tickP q).s.bodies = pkL q.s.ep q.s.base q.s.bodies := fun _ => rfl
    generalize hq1 : tickP p = p1 at *
    generalize hq2 : tickP p1 = p2 at *
    generalize hq3 : tickP p2 = p3 at *
    have x1 := hx p; have x2 := hx p1; have x3 := hx p2
    have y1 := hy p; have y2 := hy p1; have y3 := hy p2; have y4 := hy p3
    have z1 := hz p; have z2 := hz p1; have z3 := hz p2
    rw [hq1] at x1 y1 z1
    rw [hq2] at x2 y2 z2
    rw [hq3] at x3 y3 z3
    rw [y4]
    rcases ht with ht | ht | ht | ht <;> simp [a0, ht] at x1 y1 <;> simp [a1, x1] at x2 y2 <;> simp [a2, x2] at x3 y3 <;> simp [a3, x3] <;> simp_all
/-- One after the other is told in order. -/
theorem pop_all {j : Nat} (h : Inv E k p n) (hj : j ≤ p.s.bodies.length) (hw : p.way = pkL E (n + j : Nat) (p.s.bodies.drop j)) (hr : n + j ≤ p.got.length) (hl : 0 < p.way.length) :
    ∃ x, p.way[whichN 0 p.way.length]? = some x ∧ x ∈ p.way ∧ Inv E (k + 1) (loseZ (tellZ p x) (whichN 0 p.way.length)) n ∧ j + 1 ≤ p.s.bodies.length ∧
      (loseZ (tellZ p x) (whichN 0 p.way.length)).way = pkL E (n + (j + 1) : Nat) (p.s.bodies.drop (j + 1)) ∧ n + (j + 1) ≤ (loseZ (tellZ p x) (whichN 0 p.way.length)).got.length := by
  have hz : whichN 0 p.way.length = 0 := by unfold whichN; simp
  rw [hz]
  have hlt : j < p.s.bodies.length := by
    have : p.way.length = p.s.bodies.length - j := by rw [hw, pkL_length, List.length_drop]
    omega
  have hx : p.way = ⟨E, (n + j : Nat), p.s.bodies[j]⟩ :: pkL E (n + (j + 1) : Nat) (p.s.bodies.drop (j + 1)) := by
    rw [hw, List.drop_eq_getElem_cons hlt, pkL]
    congr 2
  have hm : (⟨E, (n + j : Nat), p.s.bodies[j]⟩ : Pk) ∈ p.way := by rw [hx]; exact List.mem_cons_self
  refine ⟨_, by rw [hx]; rfl, hm, (h.tell hm).lose _, by omega, ?_, ?_⟩
  · show p.way.take 0 ++ p.way.drop 1 = _
    rw [hx]
    rfl
  · have := h.rw_
    have := h.np
    simp only [loseZ, tellZ]
    split
    · rw [List.length_append, List.length_singleton]; omega
    · rename_i hne
      have : (n + j : Nat) ≠ p.got.length := fun e => hne (by omega)
      omega
end Go.Proofs.Ytplodggiifachaa
