/- LinkTakes: the law returns true at every receiver, packet and epoch. Conditions: none. -/
import Derived.Test.YtplodggiifachaaClose
import Derived.Test.YtplodggiifachaaLaw15a
import Derived.Lib.SmallJoins
namespace Go.Proofs.Ytplodggiifachaa
open Go.ChangeShapes Go.WideShapes Go.ChangeAt Go.RowKit Go.Joins
set_option linter.unusedVariables false
theorem LinkTakes_contract (H : Type) (enc : TypeId × Value → H) (W : World) (base : Nat) (args : Array Value) (ds gs : List (DataW H)) (before : List MemPlace)
    (hval : ∀ (j : Nat) t v, Try.f3.params[j]? = some t → args[j]? = some v → Value.okWide Try.prog W .any base t v)
    (hW : DataW.Whole enc Try.prog Try.f3.params.toList Rows.linkTakesSpec.vars false W args.toList ds gs before) :
    Calls Try.prog 3 args W fun e W' => e = .returned (.bool true) ∧ Below W.heap.size W W' := by
  have hlt : ∀ x ∈ before, x.block < W.heap.size := fun x hx => hW.lt x hx
  obtain ⟨p, q, hA0, hV, rfl, hfz, hnd⟩ := hW
  have hA : DataW.TrodAll enc Try.prog W 0 (fun _ => true) true Try.f3.params.toList args.toList ds p := hA0
  rw [Try.params3] at hA hval
  obtain ⟨v0, vs0, d0, ds0, p0, q0, hargs, rfl, rfl, h0, r0⟩ := trodAll_cons hA
  obtain ⟨v1, vs1, d1, ds1, p1, q1, rfl, rfl, rfl, h1, r1⟩ := trodAll_cons r0
  obtain ⟨v2, vs2, d2, ds2, p2, q2, rfl, rfl, rfl, h2, r2⟩ := trodAll_cons r1
  obtain ⟨rfl, rfl, rfl⟩ := trodAll_nil r2
  obtain rfl : args = #[v0, v1, v2] := by cases args; simp_all
  obtain ⟨c00, c01, y00, y01, m0, rfl, rfl, rfl, hy00, hy01⟩ := open_agg2 Try.underlying23 (by kernel_rfl) (show Try.prog.cellsOf 23 = 2 by kernel_rfl) (hval 0 23 v0 rfl rfl) h0
  obtain ⟨re, e00, rfl, wre0⟩ := DataW.trod_int Try.underlying3 hy00
  simp at e00
  subst e00
  have wre := i64_of wre0
  obtain ⟨rw, e01, rfl, wrw0⟩ := DataW.trod_int Try.underlying3 hy01
  simp at e01
  subst e01
  have wrw := i64_of wrw0
  obtain ⟨c10, c11, c12, y10, y11, y12, m1, rfl, rfl, rfl, hy10, hy11, hy12⟩ := open_agg3 Try.underlying25 (by kernel_rfl) (show Try.prog.cellsOf 25 = 3 by kernel_rfl) (hval 1 25 v1 rfl rfl) h1
  obtain ⟨pe, e10, rfl, wpe0⟩ := DataW.trod_int Try.underlying3 hy10
  simp at e10
  subst e10
  have wpe := i64_of wpe0
  obtain ⟨pn, e11, rfl, wpn0⟩ := DataW.trod_int Try.underlying3 hy11
  simp at e11
  subst e11
  have wpn := i64_of wpn0
  obtain ⟨body, e12, rfl, wbody⟩ := DataW.trod_string Try.underlying9 hy12
  simp at e12
  subst e12
  obtain ⟨ep, rfl, rfl, rfl, wep0⟩ := open_int Try.underlying3 (hval 2 3 v2 rfl rfl) h2
  have wep := i64_of wep0
  exact walkTakes re rw pe pn ep body W wbody wep
theorem LinkTakes_reads : ∀ t ∈ Try.f3.params.toList, Try.prog.readableRec t = true ∧ t < Try.prog.types.size := by
  rw [Try.params3]
  have e : ∀ t, (Try.prog.readableRec t && decide (t < Try.prog.types.size)) = true → Try.prog.readableRec t = true ∧ t < Try.prog.types.size := fun t h => by simpa using h
  intro t ht
  simp only [List.mem_cons, List.not_mem_nil, or_false] at ht
  rcases ht with rfl | rfl | rfl <;> exact e _ (by kernel_rfl)
theorem LinkTakes_fn {H : Type} : ∀ ds : List (DataW H), ds.length = Try.f3.params.size → (Rows.linkTakesSpec.fn H ds).results = [.lit (.bool true)] ∧ (Rows.linkTakesSpec.fn H ds).args = ds ∧ (Rows.linkTakesSpec.fn H ds).vars = [] := by
  intro ds h
  rw [show Try.f3.params.size = 3 by rw [Try.params3]; rfl] at h
  match ds, h with
  | [d0, d1, d2], _ => exact ⟨rfl, rfl, rfl⟩
set_option maxRecDepth 100000 in
theorem LinkTakes_lifted (os : Os) (started : os.Started) (H : Type) (enc : TypeId × Value → H) :
    ReturnsInHanded {} Try.checked os 3 .any (Rows.linkTakesSpec.pre6 enc Try.prog Try.f3 Rows.linkTakesRow.domain false) (Rows.linkTakesSpec.post enc Try.prog Try.f3 false true false false) := by
  refine returnsInHanded_of_change (C := Try.checked) ownNone started (by kernel_rfl) Try.func3
    (ChangeSpec.witness6 (enc := enc) (C := Try.checked) false ⟨#[], #[.agg #[.int .i64 0, .int .i64 0], .agg #[.int .i64 0, .int .i64 0, .string .empty], .int .i64 0], []⟩ 8 (by kernel_rfl) (by kernel_rfl) (by kernel_rfl) (by kernel_rfl)) ?_
  intro W base args ds gs before hval hW _ _
  refine (LinkTakes_contract H enc W base args ds gs before hval hW).mono fun e W' ⟨he, hb⟩ => ⟨_, he, ?_⟩
  exact law_post laidOut rfl (by kernel_rfl) Try.underlying4 LinkTakes_reads LinkTakes_fn hW hb

theorem LinkTakes_over : Rows.linkTakesRow.holds Try.pinned (OpenSpec.ofChange Rows.linkTakesSpec) :=
  OpenClaim.holds_of_wide 3 Try.f3 rfl rfl rfl rfl rfl rfl rfl ⟨rfl, rfl, rfl, rfl, rfl⟩ rfl rfl rfl rfl rfl (by kernel_rfl) Try.func3 (by kernel_rfl)
    (of_decide_eq_true (by kernel_rfl)) (by unfold Func.isWrapper; first | (rw [if_pos (by decide +kernel)]; kernel_rfl) | (rw [if_neg (by decide +kernel)]; exact ⟨rfl, rfl⟩))
    (fun os started H enc _ => LinkTakes_lifted os started H enc)

theorem LinkTakes_holds : Rows.LinkTakesSaid := LinkTakes_over
#print axioms LinkTakes_holds
end Go.Proofs.Ytplodggiifachaa
