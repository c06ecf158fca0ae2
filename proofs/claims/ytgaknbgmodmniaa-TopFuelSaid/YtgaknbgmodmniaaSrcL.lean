/- Walks of LikeEvents, LikeItems and the reference's Like: what reads as the same is alike. -/
import Derived.Test.YtgaknbgmodmniaaSrc8
namespace Go.Proofs.Ytgaknbgmodmniaa
open Go.RowKit
set_option linter.unusedVariables false
set_option linter.unusedSimpArgs false

theorem itms_at : ∀ (ls : List It) (p : Nat), (itms ls)[p * 11]? = (ls[p]?).map (fun x => Value.int .i64 x.kind) ∧ (itms ls)[p * 11 + 1]? = (ls[p]?).map (fun x => Value.string x.ev.key) ∧ (itms ls)[p * 11 + 2]? = (ls[p]?).map (fun x => Value.int .i64 x.ev.at_) ∧ (itms ls)[p * 11 + 3]? = (ls[p]?).map (fun x => Value.int .i64 x.ev.v) ∧
    (itms ls)[p * 11 + 4]? = (ls[p]?).map (fun x => Value.int .i64 x.mark) ∧ (itms ls)[p * 11 + 5]? = (ls[p]?).map (fun _ => Value.int .i64 0) ∧ (itms ls)[p * 11 + 6]? = (ls[p]?).map (fun _ => Value.int .i64 0) ∧ (itms ls)[p * 11 + 7]? = (ls[p]?).map (fun _ => Value.int .i64 0) ∧
    (itms ls)[p * 11 + 8]? = (ls[p]?).map (fun _ => Value.string ⟨#[]⟩) ∧ (itms ls)[p * 11 + 9]? = (ls[p]?).map (fun _ => Value.int .i64 0) ∧ (itms ls)[p * 11 + 10]? = (ls[p]?).map (fun _ => Value.int .i64 0)
  | [], p => by simp [itms]
  | l :: ls, 0 => by simp [itms_cons]
  | l :: ls, p + 1 => by
    have h := itms_at ls p
    have e : ∀ i, (itms (l :: ls))[(p + 1) * 11 + i]? = (itms ls)[p * 11 + i]? := fun i => by
      rw [itms_cons, show (p + 1) * 11 + i = p * 11 + i + 11 from by omega]; rfl
    have e0 := e 0
    rw [Nat.add_zero, Nat.add_zero] at e0
    rw [e0, e 1, e 2, e 3, e 4, e 5, e 6, e 7, e 8, e 9, e 10]
    simpa using h
theorem itms_get {w : World} {B n : Nat} {A : Option Addr} {ls : List It} (h : Reads w B 11 A n (itms ls)) {k : Nat} (hk : k < n) :
    ∃ (ad : Addr) (hl : k < ls.length), A = some ad ∧ ad.block < B ∧ w.cell? (ad.add (k * 11)) = some (.int .i64 ls[k].kind) ∧ w.cell? ⟨(ad.add (k * 11)).block, (ad.add (k * 11)).off + 1, none⟩ = some (.string ls[k].ev.key) ∧ w.cell? ⟨(ad.add (k * 11)).block, (ad.add (k * 11)).off + 2, none⟩ = some (.int .i64 ls[k].ev.at_) ∧
      w.cell? ⟨(ad.add (k * 11)).block, (ad.add (k * 11)).off + 3, none⟩ = some (.int .i64 ls[k].ev.v) ∧ w.cell? ⟨(ad.add (k * 11)).block, (ad.add (k * 11)).off + 4, none⟩ = some (.int .i64 ls[k].mark) ∧ w.cell? ⟨(ad.add (k * 11)).block, (ad.add (k * 11)).off + 5, none⟩ = some (.int .i64 0) ∧
      w.cell? ⟨(ad.add (k * 11)).block, (ad.add (k * 11)).off + 6, none⟩ = some (.int .i64 0) ∧ w.cell? ⟨(ad.add (k * 11)).block, (ad.add (k * 11)).off + 7, none⟩ = some (.int .i64 0) ∧ w.cell? ⟨(ad.add (k * 11)).block, (ad.add (k * 11)).off + 8, none⟩ = some (.string ⟨#[]⟩) ∧
      w.cell? ⟨(ad.add (k * 11)).block, (ad.add (k * 11)).off + 9, none⟩ = some (.int .i64 0) ∧ w.cell? ⟨(ad.add (k * 11)).block, (ad.add (k * 11)).off + 10, none⟩ = some (.int .i64 0) := by
  obtain ⟨hlen, h2⟩ := h
  rw [itms_length] at hlen
  obtain ⟨ad, rfl, hb, hc⟩ := h2 (by omega)
  have hl : k < ls.length := by omega
  obtain ⟨e0, e1, e2, e3, e4, e5, e6, e7, e8, e9, e10⟩ := itms_at ls k
  rw [List.getElem?_eq_getElem hl] at e0 e1 e2 e3 e4 e5 e6 e7 e8 e9 e10
  have g : ∀ i v, i ≠ 0 → (itms ls)[k * 11 + i]? = some v → w.cell? ⟨(ad.add (k * 11)).block, (ad.add (k * 11)).off + i, none⟩ = some v := fun i v hi h => by
    rw [← add_pos_eq _ hi, add_of_add]; exact hc _ _ h
  exact ⟨ad, hl, rfl, hb, hc _ _ e0, g 1 _ (by omega) e1, g 2 _ (by omega) e2, g 3 _ (by omega) e3, g 4 _ (by omega) e4, g 5 _ (by omega) e5, g 6 _ (by omega) e6, g 7 _ (by omega) e7, g 8 _ (by omega) e8, g 9 _ (by omega) e9, g 10 _ (by omega) e10⟩
end Go.Proofs.Ytgaknbgmodmniaa
