/- LinkOrder: the law returns true at every epoch and every row of what happens. Conditions: none. -/
import Derived.Test.YtplodggiifachaaClose
import Derived.Test.YtplodggiifachaaLawOr
import Derived.Lib.SmallJoins
namespace Go.Proofs.Ytplodggiifachaa
open Go.ChangeShapes Go.WideShapes Go.ChangeAt Go.RowKit Go.Joins
set_option linter.unusedVariables false
set_option linter.unusedSimpArgs false
theorem LinkOrder_contract (H : Type) (enc : TypeId × Value → H) (W : World) (base : Nat) (args : Array Value) (ds gs : List (DataW H)) (before : List MemPlace)
    (hval : ∀ (j : Nat) t v, Try.f7.params[j]? = some t → args[j]? = some v → Value.okWide Try.prog W .any base t v)
    (hW : DataW.Whole enc Try.prog Try.f7.params.toList Rows.linkOrderSpec.vars false W args.toList ds gs before) :
    Calls Try.prog 7 args W fun e W' => e = .returned (.bool true) ∧ Below W.heap.size W W' := by
  have hlt : ∀ x ∈ before, x.block < W.heap.size := fun x hx => hW.lt x hx
  obtain ⟨p, q, hA0, hV, rfl, hfz, hnd⟩ := hW
  have hA : DataW.TrodAll enc Try.prog W 0 (fun _ => true) true Try.f7.params.toList args.toList ds p := hA0
  rw [Try.params7] at hA hval
  obtain ⟨v0, vs0, d0, ds0, p0, q0, hargs, rfl, rfl, h0, r0⟩ := trodAll_cons hA
  obtain ⟨v1, vs1, d1, ds1, p1, q1, rfl, rfl, rfl, h1, r1⟩ := trodAll_cons r0
  obtain ⟨rfl, rfl, rfl⟩ := trodAll_nil r1
  obtain rfl : args = #[v0, v1] := by cases args; simp_all
  obtain ⟨ep, rfl, rfl, rfl, wep0⟩ := open_int Try.underlying3 (hval 0 3 v0 rfl rfl) h0
  have wep := i64_of wep0
  obtain ⟨a1, len1, cap1, rfl⟩ := okWide_slice Try.underlying50 (hval 1 50 v1 rfl rfl)
  obtain ⟨k1, hf1⟩ := h1
  obtain ⟨A, n, c, l, e1, hr, hn, hnc, hw⟩ := open_hps Try.underlying50 Try.underlying55 (by kernel_rfl) rfl rfl rfl (by kernel_rfl) (by kernel_rfl) (by kernel_rfl) Try.underlying3 Try.underlying3 Try.underlying9 hf1
  rw [e1]
  exact walkOrder ep l A n c W hr hn (fun z hz => (hw z hz).2.2)
theorem LinkOrder_reads : ∀ t ∈ Try.f7.params.toList, Try.prog.readableRec t = true ∧ t < Try.prog.types.size := by
  rw [Try.params7]
  have e : ∀ t, (Try.prog.readableRec t && decide (t < Try.prog.types.size)) = true → Try.prog.readableRec t = true ∧ t < Try.prog.types.size := fun t h => by simpa using h
  intro t ht
  simp only [List.mem_cons, List.not_mem_nil, or_false] at ht
  rcases ht with rfl | rfl <;> exact e _ (by kernel_rfl)
theorem LinkOrder_fn {H : Type} : ∀ ds : List (DataW H), ds.length = Try.f7.params.size → (Rows.linkOrderSpec.fn H ds).results = [.lit (.bool true)] ∧ (Rows.linkOrderSpec.fn H ds).args = ds ∧ (Rows.linkOrderSpec.fn H ds).vars = [] := by
  intro ds h
  rw [show Try.f7.params.size = 2 by rw [Try.params7]; rfl] at h
  match ds, h with
  | [d0, d1], _ => exact ⟨rfl, rfl, rfl⟩
set_option maxRecDepth 100000 in
theorem LinkOrder_lifted (os : Os) (started : os.Started) (H : Type) (enc : TypeId × Value → H) :
    ReturnsInHanded {} Try.checked os 7 .any (Rows.linkOrderSpec.pre6 enc Try.prog Try.f7 Rows.linkOrderRow.domain false) (Rows.linkOrderSpec.post enc Try.prog Try.f7 false true false false) := by
  refine returnsInHanded_of_change (C := Try.checked) ownNone started (by kernel_rfl) Try.func7
    (ChangeSpec.witness6 (enc := enc) (C := Try.checked) false ⟨#[], #[.int .i64 0, .slice none 0 0], []⟩ 8 (by kernel_rfl) (by kernel_rfl) (by kernel_rfl) (by kernel_rfl)) ?_
  intro W base args ds gs before hval hW _ _
  refine (LinkOrder_contract H enc W base args ds gs before hval hW).mono fun e W' ⟨he, hb⟩ => ⟨_, he, ?_⟩
  exact law_post laidOut rfl (by kernel_rfl) Try.underlying4 LinkOrder_reads LinkOrder_fn hW hb

theorem LinkOrder_over : Rows.linkOrderRow.holds Try.pinned (OpenSpec.ofChange Rows.linkOrderSpec) :=
  OpenClaim.holds_of_wide 7 Try.f7 rfl rfl rfl rfl rfl rfl rfl ⟨rfl, rfl, rfl, rfl, rfl⟩ rfl rfl rfl rfl rfl (by kernel_rfl) Try.func7 (by kernel_rfl)
    (of_decide_eq_true (by kernel_rfl)) (by unfold Func.isWrapper; first | (rw [if_pos (by decide +kernel)]; kernel_rfl) | (rw [if_neg (by decide +kernel)]; exact ⟨rfl, rfl⟩))
    (fun os started H enc _ => LinkOrder_lifted os started H enc)

theorem LinkOrder_holds : Rows.LinkOrderSaid := LinkOrder_over
#print axioms LinkOrder_holds
end Go.Proofs.Ytplodggiifachaa
