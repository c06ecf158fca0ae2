/- Plain law of the queue: which events are still to leave, how many steps it takes; the state of a queue beside a map that counts events. -/
import Derived.Test.YtplfimaopegpmaaBump
import Derived.Test.YtplfimaopegpmaaPlay
namespace Go.Proofs.Ytplfimaopegpmaa
open Go.RowKit
open Go.Maps (Keyed)
set_option linter.unusedVariables false
set_option linter.unusedSimpArgs false

/-- Does the event read as that key (1) or not (0); q: what an event reads as. -/
def oneK (q : ByteArray → Int → Int → Option Lit) (kl : Lit) (r : Rnd) : Int :=
  match q r.key r.at_ r.v with
  | some k' => if k'.sameKey kl then 1 else 0
  | none => 0
theorem oneK_self {q : ByteArray → Int → Int → Option Lit} {r : Rnd} {kl : Lit} (hk : q r.key r.at_ r.v = some kl) (hl : WideAt.IsKeyLit kl) : oneK q kl r = 1 := by
  unfold oneK
  rw [hk]
  exact if_pos (WideAt.sameKey_self hl)
theorem oneK_other {q : ByteArray → Int → Int → Option Lit} {r : Rnd} {kl k' : Lit} (hk : q r.key r.at_ r.v = some kl) (hne : k' ≠ kl) : oneK q k' r = 0 := by
  unfold oneK
  rw [hk]
  simp only
  rw [Maps.sameKey_ne (Ne.symm hne)]
  rfl
def cntK (q : ByteArray → Int → Int → Option Lit) (kl : Lit) : List Rnd → Int
  | [] => 0
  | r :: l => oneK q kl r + cntK q kl l
theorem cntK_append {q : ByteArray → Int → Int → Option Lit} (kl : Lit) (a b : List Rnd) : cntK q kl (a ++ b) = cntK q kl a + cntK q kl b := by
  induction a with
  | nil => simp [cntK]
  | cons r a ih => simp only [List.cons_append, cntK, ih]; omega
theorem oneK_bd {q : ByteArray → Int → Int → Option Lit} (kl : Lit) (r : Rnd) : 0 ≤ oneK q kl r ∧ oneK q kl r ≤ 1 := by unfold oneK; (repeat' split) <;> omega
theorem cntK_bd {q : ByteArray → Int → Int → Option Lit} (kl : Lit) (l : List Rnd) : 0 ≤ cntK q kl l ∧ cntK q kl l ≤ l.length := by
  induction l with
  | nil => simp [cntK]
  | cons r l ih => have := oneK_bd (q := q) kl r; simp only [cntK, List.length_cons]; omega
theorem cntK_reverse {q : ByteArray → Int → Int → Option Lit} (kl : Lit) (l : List Rnd) : cntK q kl l.reverse = cntK q kl l := by
  induction l with
  | nil => rfl
  | cons r l ih => rw [List.reverse_cons, cntK_append, ih]; simp only [cntK]; omega
/-- What an event leaves as. -/
def finR (lim F : Int) (r : Rnd) : Rnd := ⟨r.key, r.at_, (runZ lim (F - r.n).toNat r.v).1, 0⟩
def futK (q : ByteArray → Int → Int → Option Lit) (lim F : Int) (kl : Lit) (xs : List Rnd) : Int := cntK q kl (xs.map (finR lim F))
theorem futK_nil {q : ByteArray → Int → Int → Option Lit} (lim F : Int) (kl : Lit) : futK q lim F kl [] = 0 := rfl
theorem futK_append {q : ByteArray → Int → Int → Option Lit} (lim F : Int) (kl : Lit) (a b : List Rnd) : futK q lim F kl (a ++ b) = futK q lim F kl a + futK q lim F kl b := by unfold futK; rw [List.map_append, cntK_append]
theorem futK_reverse {q : ByteArray → Int → Int → Option Lit} (lim F : Int) (kl : Lit) (a : List Rnd) : futK q lim F kl a.reverse = futK q lim F kl a := by unfold futK; rw [List.map_reverse, cntK_reverse]
theorem futK_bd {q : ByteArray → Int → Int → Option Lit} (lim F : Int) (kl : Lit) (l : List Rnd) : 0 ≤ futK q lim F kl l ∧ futK q lim F kl l ≤ l.length := by have := cntK_bd (q := q) kl (l.map (finR lim F)); rw [List.length_map] at this; exact this
theorem futK_go {q : ByteArray → Int → Int → Option Lit} {lim F : Int} {x : Rnd} {ys : List Rnd} (h : leavesB lim F x.v x.n = true) (kl : Lit) : futK q lim F kl (x :: ys) = oneK q kl x + futK q lim F kl ys := by
  have e : (runZ lim (F - x.n).toNat x.v).1 = x.v := by
    rcases leavesB_true.1 h with h | h
    · rw [show (F - x.n).toNat = 0 by omega]; rfl
    · rw [runZ_stop h]
  show oneK q kl (finR lim F x) + _ = _
  congr 1
  unfold oneK finR
  rw [e]
theorem futK_stay {q : ByteArray → Int → Int → Option Lit} {lim F : Int} {x : Rnd} {ys : List Rnd} (h : leavesB lim F x.v x.n = false) (kl : Lit) : futK q lim F kl (x :: ys) = futK q lim F kl (ys ++ [⟨x.key, x.at_, halfZ x.v, x.n + 1⟩]) := by
  obtain ⟨h1, h2⟩ := leavesB_false.1 h
  obtain ⟨k, hk⟩ : ∃ k : Nat, (F - x.n).toNat = k + 1 := ⟨(F - x.n).toNat - 1, by omega⟩
  have e : finR lim F ⟨x.key, x.at_, halfZ x.v, x.n + 1⟩ = finR lim F x := by
    unfold finR
    simp only
    rw [hk, runZ_go (by omega), show (F - (x.n + 1)).toNat = k by omega]
  rw [futK_append]
  show oneK q kl (finR lim F x) + futK q lim F kl ys = futK q lim F kl ys + (oneK q kl (finR lim F _) + 0)
  rw [e]
  omega
/-- How many steps it takes at most till all have left. -/
def potZ (F : Int) : List Rnd → Int
  | [] => 0
  | r :: l => (F - r.n + 1) + potZ F l
theorem potZ_append (F : Int) (a b : List Rnd) : potZ F (a ++ b) = potZ F a + potZ F b := by
  induction a with
  | nil => simp [potZ]
  | cons r a ih => simp only [List.cons_append, potZ, ih]; omega
/-- What may be in a queue that was filled with events of the call's arguments. -/
def okP (F : Int) (xs : List Rnd) : Prop := okQ F xs ∧ ∀ r ∈ xs, r.n ≤ F ∧ r.key.size ≤ maxLen ∧ (Lit.int .i64 r.at_).wf = true
theorem okP.put {F : Int} {xs : List Rnd} (h : okP F xs) (hl : xs.length < 16) {r : Rnd} (hv : -9223372036854775808 ≤ r.v ∧ r.v ≤ 9223372036854775807) (h0 : 0 ≤ r.n) (hn : r.n ≤ F) (hF : F ≤ 40) (hk : r.key.size ≤ maxLen) (ha : (Lit.int .i64 r.at_).wf = true) : okP F (xs ++ [r]) := by
  refine ⟨h.1.put hl ⟨hv, h0, by omega⟩, fun x hx => ?_⟩
  rcases List.mem_append.1 hx with hx | hx
  · exact h.2 x hx
  · obtain rfl := List.mem_singleton.1 hx
    exact ⟨hn, hk, ha⟩
theorem okP.rest {lim F : Int} {xs : List Rnd} (h : okP F xs) (hF : F ≤ 40) : okP F (restQ lim F xs) := by
  refine ⟨h.1.rest hF, ?_⟩
  match xs, h with
  | [], h => exact h.2
  | x :: ys, h =>
    have hx := h.2 x (by simp)
    cases hz : leavesB lim F x.v x.n
    · rw [restQ_stay hz]
      have := (leavesB_false.1 hz).1
      intro r hr
      rcases List.mem_append.1 hr with hr | hr
      · exact h.2 r (by simp [hr])
      · obtain rfl := List.mem_singleton.1 hr
        exact ⟨by simp only; omega, hx.2.1, hx.2.2⟩
    · rw [restQ_go hz]
      exact fun r hr => h.2 r (by simp [hr])
theorem pot_pos {F : Int} {xs : List Rnd} (h : okP F xs) : (xs.length : Int) ≤ potZ F xs := by
  have h2 := h.2
  clear h
  induction xs with
  | nil => simp [potZ]
  | cons r l ih =>
    have := (h2 r (by simp)).1
    have := ih fun x hx => h2 x (by simp [hx])
    simp only [potZ, List.length_cons]
    omega
theorem pot_rest {lim F : Int} {xs : List Rnd} (h : okP F xs) (hne : xs ≠ []) : potZ F (restQ lim F xs) + 1 ≤ potZ F xs := by
  match xs, h, hne with
  | x :: ys, h, _ =>
    have hx := h.2 x (by simp)
    cases hz : leavesB lim F x.v x.n
    · rw [restQ_stay hz, potZ_append]
      simp only [potZ]
      omega
    · rw [restQ_go hz]
      simp only [potZ]
      omega
theorem pot_rest' {lim F : Int} {xs : List Rnd} (h : okP F xs) : potZ F (restQ lim F xs) = 0 ∨ potZ F (restQ lim F xs) + 1 ≤ potZ F xs := by
  by_cases hne : xs = []
  · subst hne; exact .inl rfl
  · exact .inr (pot_rest h hne)
/-- A step: what is still to leave behind it. -/
theorem fut_step {q : ByteArray → Int → Int → Option Lit} {lim F : Int} {xs : List Rnd} (kl : Lit) : futK q lim F kl xs = (if goesB lim F xs = true then oneK q kl (outR lim F xs) else 0) + futK q lim F kl (restQ lim F xs) := by
  match xs with
  | [] => rfl
  | x :: ys =>
    cases hz : leavesB lim F x.v x.n
    · rw [restQ_stay hz, futK_stay hz, if_neg (by unfold goesB; simp [hz])]; omega
    · rw [restQ_go hz, futK_go hz, outR_go hz, if_pos (by unfold goesB; exact hz)]
theorem out_ok {lim F : Int} {xs : List Rnd} (h : okP F xs) (hg : goesB lim F xs = true) : outR lim F xs ∈ xs := by
  match xs, hg with
  | x :: ys, hg => rw [outR_go hg]; simp
/-- A queue and a map that counts events. -/
structure QSt (qb mb base : Nat) (lim F : Int) (v : Value) (xs : List Rnd) (n : Nat) (D : DataW Unit) (w wr : World) : Prop where
  q : Blk wr qb 56 #[.int .i64 lim, .int .i64 F, v]
  oq : wr.ownsRow base 59 4 v xs.length (rnds xs)
  mp : wr.ownsMap Try.prog 23 (plainElem Try.prog 3) mb n D
  below : Below w.heap.size w wr
  size : base ≤ wr.heap.size
  qlo : w.heap.size ≤ qb
  mlo : w.heap.size ≤ mb
  qhi : qb < base
theorem map_ne_blk {w : World} {P : Program} {k : TypeId} {R : Value → Option (DataW Unit × List MemPlace)} {b n g : Nat} {D : DataW Unit} {t : TypeId} {cs : Array Value} (h : w.ownsMap P k R b n D) (hg : Blk w g t cs) : g ≠ b := by
  rintro rfl
  obtain ⟨es, clock, hb, _⟩ := h
  unfold Blk at hg
  rw [hb] at hg
  cases hg
section
variable {qb mb base n : Nat} {lim F : Int} {v : Value} {xs ys : List Rnd} {D D' : DataW Unit} {w wr w' : World}
theorem own_map_ne (ho : wr.ownsRow base 59 4 v xs.length (rnds xs)) (hm : wr.ownsMap Try.prog 23 (plainElem Try.prog 3) mb n D) : v.ownBlock ≠ some mb := by
  rcases ho.2 with ⟨rfl, _⟩ | ⟨g, cap, cur, rfl, _, hh, _⟩
  · simp [Value.ownBlock]
  · intro he
    have : g = mb := by simpa [Value.ownBlock] using he
    subst this
    exact map_ne_blk (t := 59) (cs := cur) hm hh rfl
theorem QSt.to (h : QSt qb mb base lim F v xs n D w wr) (hb : Below wr.heap.size wr w') : QSt qb mb base lim F v xs n D w w' :=
  ⟨h.q.below hb h.q.lt, h.oq.kept (only_of_below hb none) (by cases v.ownBlock <;> simp), h.mp.kept (only_of_below hb none) (by simp), h.below.trans (hb.mono h.below.size), Nat.le_trans h.size hb.size, h.qlo, h.mlo, h.qhi⟩
theorem QSt.turn (h : QSt qb mb base lim F v xs n D w wr) (hp : QPost qb base lim F v ys wr w') : ∃ v', QSt qb mb base lim F v' ys n D w w' := by
  obtain ⟨v', h1, h2, _, h4, h5, h6⟩ := hp
  have hm := own_map_ne h.oq h.mp
  obtain ⟨es, clock, hb, hF, hs, hD⟩ := h.mp
  have hlt := h.mp.lt
  exact ⟨v', h1, h2, ⟨es, clock, (h5 mb hlt (map_ne_blk h.mp h.q).symm hm).trans hb, hF, hs, hD⟩, h6 _ _ h.below h.qlo (Nat.le_trans h.qlo (Nat.le_of_lt h.qhi)) h.below.size, Nat.le_trans h.size h4, h.qlo, h.mlo, h.qhi⟩
theorem QSt.bump {n' : Nat} (h : QSt qb mb base lim F v xs n D w wr) (hm : w'.ownsMap Try.prog 23 (plainElem Try.prog 3) mb n' D') (hg : wr.grownBy w' (some mb)) : QSt qb mb base lim F v xs n' D' w w' :=
  ⟨h.q.grown hg (fun e => map_ne_blk h.mp h.q (by injection e)), h.oq.kept hg (.inr fun e => own_map_ne h.oq h.mp e), hm, h.below.grown hg h.below.size (fun g e => by injection e with e; have := h.mlo; omega), Nat.le_trans h.size hg.size, h.qlo, h.mlo, h.qhi⟩
theorem QSt.keep (h : QSt qb mb base lim F v xs n D w wr) {g : Nat} {t : TypeId} {cs : Array Value} (hg : Blk wr g t cs) (hgr : wr.grownBy w' (some mb)) : Blk w' g t cs := hg.grown hgr (fun e => map_ne_blk h.mp hg (by injection e))
end
/-- What the map says of each key. -/
def Says (D : DataW Unit) (f : Lit → Int) : Prop := Maps.IsMap D ∧ ∀ kl, D.atKey kl (.lit (.int .i64 0)) = .lit (.int .i64 (f kl))
theorem says_empty (f : Lit → Int) (h : ∀ kl, f kl = 0) : Says (.map []) f := ⟨Maps.isMap_empty, fun kl => by rw [h]; rfl⟩
theorem says_put {q : ByteArray → Int → Int → Option Lit} {D : DataW Unit} {f g : Lit → Int} {r : Rnd} {kl : Lit} {d s : Int} (h : Says D f) (hk : q r.key r.at_ r.v = some kl) (hkl : WideAt.IsKeyLit kl) (hd : d = f kl + s) (hg : ∀ k', g k' = f k' + s * oneK q k' r) : Says (D.put kl (.lit (.int .i64 d))) g := by
  refine ⟨h.1.put _ _, fun k' => ?_⟩
  rw [hg]
  by_cases e : k' = kl
  · subst e
    rw [Maps.atKey_put_same h.1 hkl, oneK_self hk hkl, hd, Int.mul_one]
  · rw [Maps.atKey_put_other e, h.2 k', oneK_other hk e, Int.mul_zero, Int.add_zero]
theorem says_at {D : DataW Unit} {f : Lit → Int} {kl : Lit} {c : Int} (h : Says D f) (hc : D.atKey kl (.lit (.int .i64 0)) = .lit (.int .i64 c)) : c = f kl := by
  rw [h.2 kl] at hc
  injection hc with hc
  injection hc with _ hc
  exact hc.symm
theorem run_le (lim : Int) : ∀ (k : Nat) (v : Int), (runZ lim k v).2 ≤ k
  | 0, v => by simp [runZ]
  | k + 1, v => by
    unfold runZ
    split
    · simp
    · have := run_le lim k (halfZ v)
      simp only
      omega
theorem run_bd (lim : Int) : ∀ (k : Nat) (v : Int), (-9223372036854775808 ≤ v ∧ v ≤ 9223372036854775807) → -9223372036854775808 ≤ (runZ lim k v).1 ∧ (runZ lim k v).1 ≤ 9223372036854775807
  | 0, v, h => h
  | k + 1, v, h => by
    unfold runZ
    split
    · exact h
    · exact run_bd lim k (halfZ v) (half_bd h)
end Go.Proofs.Ytplfimaopegpmaa
