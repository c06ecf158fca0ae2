/- The play's do, whatever happens: what holds of the play goes on holding. -/
import Derived.Test.YtplodggiifachaaPly5
import Derived.Test.YtplodggiifachaaPly6
import Derived.Test.YtplodggiifachaaPly7
namespace Go.Proofs.Ytplodggiifachaa
open Go.RowKit
set_option linter.unusedVariables false
set_option linter.unusedSimpArgs false

section
variable {E : Int} {k : Nat} {p : Ply} {n : Nat}
theorem Inv.lens (h : Inv E k p n) (hk : k ≤ 1000) : p.way.length ≤ 100000 ∧ p.got.length ≤ 100000 ∧ p.wants.length ≤ 100000 := by
  have := h.l1
  have := h.l2
  have := h.l3
  have := h.np
  omega
theorem Inv.small (h : Inv E k p n) : ∀ y ∈ p.s.bodies, y.size ≤ maxLen := by
  intro y hy
  rw [h.bo] at hy
  have := h.pu y (List.mem_of_mem_drop hy)
  unfold maxLen
  omega
end
/-- A tick. -/
theorem do5_inv (pb : Nat) {E : Int} {k : Nat} (p : Ply) {n : Nat} (z : Int) (b : ByteArray) (w : World) (h : Inv E k p n) (hk : k ≤ 1000) (hM : PlyM pb p w) :
    Calls Try.prog 23 #[.pointer (some ⟨pb, 0, none⟩), .agg #[.int .i64 5, .int .i64 z, .string b]] w (PlyPost pb (tickP p) w) := by
  have h8 := h.b8
  by_cases hw : p.way.length < 100
  · exact do5_free pb p z b w (h.lens hk) hM hw (by omega) h.small
  · exact do5_full pb p z b w (h.lens hk) hM (by omega) (by omega) h.small
/-- Something happens to a link. -/
theorem do_inv (pb : Nat) {E : Int} {k : Nat} (p : Ply) {n : Nat} (what z : Int) (b : ByteArray) (w : World) (h : Inv E k p n) (hk : k ≤ 500) (hbm : b.size ≤ maxLen) (hM : PlyM pb p w) :
    Calls Try.prog 23 #[.pointer (some ⟨pb, 0, none⟩), .agg #[.int .i64 what, .int .i64 z, .string b]] w (fun e w' => ∃ p' n', Inv E (k + 1) p' n' ∧ PlyPost pb p' w e w') := by
  have hl := h.lens (by omega)
  have hs := h.small
  have h8 := h.b8
  have h1 := h.rw_
  have h2 := h.nb
  have h3 := h.np
  have h4 := h.l2
  have h6 := h.blen
  have h7 := h.ba
  have he := h.e0
  have hre := h.re
  by_cases c0 : what = 0
  · subst c0
    exact (do0_cut pb p z b w hl hM (cutB b) rfl (by omega) h.ok hbm h.rt (by omega) hs).mono fun e w' hp => ⟨_, _, h.push (by omega) (cutB_le b), hp⟩
  by_cases c1 : what = 1
  · subst c1
    rcases Nat.eq_zero_or_pos p.way.length with hn | hn
    · exact (do1_none pb p z b w hl hM hn).mono fun e w' hp => ⟨_, _, h.more, hp⟩
    · obtain ⟨_, e2, _⟩ := which_at z hn (by omega)
      have hi := List.getElem?_eq_getElem e2
      have hx := List.getElem_mem e2
      exact (do1_any pb p z b w hl hM _ hn hi (h.pkOk (by omega) hx)).mono fun e w' hp => ⟨_, _, (h.tell hx).lose _, hp⟩
  by_cases c2 : what = 2
  · subst c2
    rcases Nat.eq_zero_or_pos p.way.length with hn | hn
    · exact (do2_none pb p z b w hl hM hn).mono fun e w' hp => ⟨_, _, h.more, hp⟩
    · obtain ⟨_, e2, _⟩ := which_at z hn (by omega)
      have hi := List.getElem?_eq_getElem e2
      have hx := List.getElem_mem e2
      exact (do2_any pb p z b w hl hM _ hn hi (h.pkOk (by omega) hx)).mono fun e w' hp => ⟨_, _, h.tell hx, hp⟩
  by_cases c3 : what = 3
  · subst c3
    rcases Nat.eq_zero_or_pos p.way.length with hn | hn
    · exact (do3_none pb p z b w hl hM hn).mono fun e w' hp => ⟨_, _, h.more, hp⟩
    · exact (do3_any pb p z b w hl hM hn).mono fun e w' hp => ⟨_, _, (h.lose _).more, hp⟩
  by_cases c4 : what = 4
  · subst c4
    rcases Nat.eq_zero_or_pos p.wants.length with hn | hn
    · exact (do4_none pb p z b w hl hM hn).mono fun e w' hp => ⟨_, _, h.more, hp⟩
    · obtain ⟨_, e2, _⟩ := which_at z hn (by omega)
      have hi := List.getElem?_eq_getElem e2
      obtain ⟨j, hj, hjl⟩ := h.wn _ (List.getElem_mem e2)
      obtain ⟨a0, n', hin⟩ := h.ack_ok hj hjl
      exact (do4_any pb p z b w hl hM (ackZ p.s p.s.ep _).1 _ h.ok hn hi (by omega) hs (Prod.ext rfl a0)).mono fun e w' hp => ⟨_, _, hin.more, hp⟩
  by_cases c5 : what = 5
  · subst c5
    exact (do5_inv pb p z b w h (by omega) hM).mono fun e w' hp => ⟨_, _, h.tick, hp⟩
  rcases Nat.eq_zero_or_pos p.way.length with hn | hn
  · by_cases hlo : what < 0
    · exact (do6_low pb p z b w hl hM what hlo hn h.ok (by omega) (by omega)).mono fun e w' hp => ⟨_, _, h.more, hp⟩
    · exact (do6_high pb p z b w hl hM what (by omega) hn h.ok (by omega) (by omega)).mono fun e w' hp => ⟨_, _, h.more, hp⟩
  · exact (do6_some pb p z b w hl hM what (by omega) hn h.ok (by omega) (by omega)).mono fun e w' hp => ⟨_, _, h.more, hp⟩
end Go.Proofs.Ytplodggiifachaa
