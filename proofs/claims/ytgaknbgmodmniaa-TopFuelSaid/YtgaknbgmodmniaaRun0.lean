/- Walk of the law's run, without ticks. -/
import Derived.Test.YtgaknbgmodmniaaLawMa
import Derived.Test.YtgaknbgmodmniaaSrcL
namespace Go.Proofs.Ytgaknbgmodmniaa
open Go.RowKit
set_option linter.unusedVariables false
set_option linter.unusedSimpArgs false

/-- What a source tells at its i-th step; at so many steps from the k-th on. -/
def stepI (j : Jb) (L : List Ev) (i : Nat) : List It := (nextR j ⟨L, i, markL j (L.take i), 0, false⟩).2.1
def accI (j : Jb) (L : List Ev) (k q : Nat) : List It := (List.range q).flatMap fun i => stepI j L (k + i)
theorem accI_succ (j : Jb) (L : List Ev) (k q : Nat) : accI j L k (q + 1) = accI j L k q ++ stepI j L (k + q) := by
  unfold accI
  rw [List.range_succ, List.flatMap_append]
  simp
theorem stepI_len (j : Jb) (L : List Ev) (i : Nat) : (stepI j L i).length ≤ 2 := by
  unfold stepI nextR
  split
  · simp
  split
  · simp
  split
  · simp
  unfold nextZ
  split
  · simp
  split
  · simp
  · unfold toldE toldM
    simp only [List.length_append]
    split <;> split <;> simp
theorem accI_len (j : Jb) (L : List Ev) (k : Nat) : ∀ q, (accI j L k q).length ≤ 2 * q
  | 0 => by simp [accI]
  | q + 1 => by
    rw [accI_succ, List.length_append]
    have := accI_len j L k q
    have := stepI_len j L (k + q)
    omega
theorem next_atI {j : Jb} {L : List Ev} {i : Nat} (hJ : jobB j = true) (hI : inB L = true) (hi : i < L.length) :
    nextR j ⟨L, i, markL j (L.take i), 0, false⟩ = (⟨L, (i : Int) + 1, markL j (L.take (i + 1)), 0, false⟩, stepI j L i, 0) := by
  obtain ⟨l, h⟩ := next_at hJ hI hi
  have e : stepI j L i = l := by unfold stepI; rw [h]
  rw [e]
  exact h
theorem next_endI {j : Jb} {L : List Ev} (hJ : jobB j = true) (hI : inB L = true) :
    nextR j ⟨L, (L.length : Nat), markL j (L.take L.length), 0, false⟩ = (⟨L, (L.length : Nat), markL j (L.take L.length), 0, true⟩, stepI j L L.length, 0) := by
  have h : nextR j ⟨L, (L.length : Nat), markL j (L.take L.length), 0, false⟩ = (⟨L, (L.length : Nat), markL j (L.take L.length), 0, true⟩, [markIt 1099511627776], 0) := by
    unfold nextR
    rw [if_neg (by rw [hJ]; simp), if_neg (by rw [src_at hI (Nat.le_refl _)]; simp), if_neg (by simp)]
    unfold nextZ
    rw [if_neg (by simp)]
    simp only [Int.toNat_natCast]
    rw [List.getElem?_eq_none (Nat.le_refl _)]
  have e : stepI j L L.length = [markIt 1099511627776] := by unfold stepI; rw [h]
  rw [e]
  exact h
theorem next_done {j : Jb} {L : List Ev} (hJ : jobB j = true) (hI : inB L = true) :
    nextR j ⟨L, (L.length : Nat), markL j (L.take L.length), 0, true⟩ = (zeroS, [], 210) := by
  unfold nextR
  rw [if_neg (by rw [hJ]; simp), if_neg ?_, if_pos rfl]
  have : srcB ⟨L, (L.length : Nat), markL j (L.take L.length), 0, true⟩ = true := srcB_iff.2 ⟨hI, ⟨by simp, by simp⟩, markL_bd j _, ⟨by simp, by simp⟩, by simp⟩
  rw [this]
  simp

/-- What run leaves. -/
def RunPost (l : List It) (cnt : Nat) (w : World) (e : Ending) (w' : World) : Prop :=
  ∃ Av cv, e = .returned (.tuple #[.slice Av l.length cv, .int .i64 cnt, .bool true]) ∧ Reads w' w'.heap.size 11 Av l.length (itms l) ∧ Below w.heap.size w w'

theorem reads_sets {w2 : World} {sb : Nat} {A2 : Option Addr} {l : List It} (h : Reads w2 w2.heap.size 11 A2 l.length (itms l)) (hg : ∀ ad, A2 = some ad → 0 < l.length → sb ≠ ad.block) (a b c d e : Value) (o : Obj) :
    Reads ((((((w2.setCell ⟨sb, 0, none⟩ a).setCell ⟨sb, 1, none⟩ b).setCell ⟨sb, 2, none⟩ c).setCell ⟨sb, 3, none⟩ d).setCell ⟨sb, 4, none⟩ e).alloc o) ((((((w2.setCell ⟨sb, 0, none⟩ a).setCell ⟨sb, 1, none⟩ b).setCell ⟨sb, 2, none⟩ c).setCell ⟨sb, 3, none⟩ d).setCell ⟨sb, 4, none⟩ e).alloc o).heap.size 11 A2 l.length (itms l) := by
  apply reads_alloc
  obtain ⟨h1, h2⟩ := h
  refine ⟨h1, fun h0 => ?_⟩
  obtain ⟨ad, ea, hlt, hc⟩ := h2 h0
  have hne := hg ad ea h0
  refine ⟨ad, ea, by simpa using hlt, fun q u hu => ?_⟩
  have hb : (ad.add q).block = ad.block := block_of_add _ _
  rw [World.cell?_setCell_other _ _ _ _ (by intro e; apply hne; rw [← hb, ← e]), World.cell?_setCell_other _ _ _ _ (by intro e; apply hne; rw [← hb, ← e]), World.cell?_setCell_other _ _ _ _ (by intro e; apply hne; rw [← hb, ← e]), World.cell?_setCell_other _ _ _ _ (by intro e; apply hne; rw [← hb, ← e]), World.cell?_setCell_other _ _ _ _ (by intro e; apply hne; rw [← hb, ← e])]
  exact hc q u hu

end Go.Proofs.Ytgaknbgmodmniaa
