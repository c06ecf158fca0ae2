/- TopFuel: the law returns true at every job and row of events. Conditions: none. -/
import Derived.Test.YtgaknbgmodmniaaClose
import Derived.Test.YtgaknbgmodmniaaAggs
import Derived.Test.YtgaknbgmodmniaaTopFue
import Derived.Lib.SmallJoins
namespace Go.Proofs.Ytgaknbgmodmniaa
open Go.ChangeShapes Go.WideShapes Go.ChangeAt Go.RowKit Go.Joins
set_option linter.unusedVariables false
set_option linter.unusedSimpArgs false
set_option maxRecDepth 100000 in
theorem TopFuel_contract (H : Type) (enc : TypeId × Value → H) (W : World) (base : Nat) (args : Array Value) (ds gs : List (DataW H)) (before : List MemPlace)
    (hval : ∀ (j : Nat) t v, Try.f3.params[j]? = some t → args[j]? = some v → Value.okWide Try.prog W .any base t v)
    (hW : DataW.Whole enc Try.prog Try.f3.params.toList Rows.topFuelSpec.vars false W args.toList ds gs before) :
    Calls Try.prog 3 args W fun e W' => e = .returned (.bool true) ∧ Below W.heap.size W W' := by
  have hlt : ∀ x ∈ before, x.block < W.heap.size := fun x hx => hW.lt x hx
  obtain ⟨p, q, hA0, hV, rfl, hfz, hnd⟩ := hW
  have hA : DataW.TrodAll enc Try.prog W 0 (fun _ => true) true Try.f3.params.toList args.toList ds p := hA0
  rw [Try.params3] at hA hval
  obtain ⟨v0, vs0, d0, ds0, p0, q0, hargs, rfl, rfl, h0, r0⟩ := trodAll_cons hA
  obtain ⟨v1, vs1, d1, ds1, p1, q1, rfl, rfl, rfl, h1, r1⟩ := trodAll_cons r0
  obtain ⟨rfl, rfl, rfl⟩ := trodAll_nil r1
  obtain rfl : args = #[v0, v1] := by cases args; simp_all
  obtain ⟨c00, c01, c02, c03, c04, c05, c06, c07, y00, y01, y02, y03, y04, y05, y06, y07, m0, rfl, rfl, rfl, hy00, hy01, hy02, hy03, hy04, hy05, hy06, hy07⟩ := open_agg8 Try.underlying23 (by kernel_rfl) (show Try.prog.cellsOf 23 = 8 by kernel_rfl) (hval 0 23 v0 rfl rfl) h0
  obtain ⟨g, e00, rfl, wg0⟩ := DataW.trod_int Try.underlying3 hy00
  simp at e00
  subst e00
  have wg := i64_of wg0
  obtain ⟨si, e01, rfl, wsi0⟩ := DataW.trod_int Try.underlying2 hy01
  simp at e01
  subst e01
  have wsi := i64_of wsi0
  obtain ⟨sl, e02, rfl, wsl0⟩ := DataW.trod_int Try.underlying2 hy02
  simp at e02
  subst e02
  have wsl := i64_of wsl0
  obtain ⟨fo, e03, rfl, wfo0⟩ := DataW.trod_int Try.underlying3 hy03
  simp at e03
  subst e03
  have wfo := i64_of wfo0
  obtain ⟨fu, e04, rfl, wfu0⟩ := DataW.trod_int Try.underlying3 hy04
  simp at e04
  subst e04
  have wfu := i64_of wfu0
  obtain ⟨li, e05, rfl, wli0⟩ := DataW.trod_int Try.underlying2 hy05
  simp at e05
  subst e05
  have wli := i64_of wli0
  obtain ⟨de, e06, rfl, wde0⟩ := DataW.trod_int Try.underlying2 hy06
  simp at e06
  subst e06
  have wde := i64_of wde0
  obtain ⟨id, e07, rfl, wid0⟩ := DataW.trod_int Try.underlying3 hy07
  simp at e07
  subst e07
  have wid := i64_of wid0
  obtain ⟨a1, len1, cap1, rfl⟩ := okWide_slice Try.underlying24 (hval 1 24 v1 rfl rfl)
  obtain ⟨k1, hf1⟩ := h1
  obtain ⟨A, n, c, l, e1, hr, hn, hnc, hw⟩ := open_evs Try.underlying24 Try.underlying30 (by kernel_rfl) rfl rfl rfl (by kernel_rfl) (by kernel_rfl) (by kernel_rfl) Try.underlying9 Try.underlying2 Try.underlying2 hf1
  rw [e1]
  exact walkFuel ⟨g, si, sl, fo, fu, li, de, id⟩ l A n c W ⟨wsi, wsl, wli⟩ hr hn hnc (fun z hz => (hw z hz).1) (fun z hz => i64_of (hw z hz).2.2)
theorem TopFuel_reads : ∀ t ∈ Try.f3.params.toList, Try.prog.readableRec t = true ∧ t < Try.prog.types.size := by
  rw [Try.params3]
  have e : ∀ t, (Try.prog.readableRec t && decide (t < Try.prog.types.size)) = true → Try.prog.readableRec t = true ∧ t < Try.prog.types.size := fun t h => by simpa using h
  intro t ht
  simp only [List.mem_cons, List.not_mem_nil, or_false] at ht
  rcases ht with rfl | rfl <;> exact e _ (by kernel_rfl)
theorem TopFuel_fn {H : Type} : ∀ ds : List (DataW H), ds.length = Try.f3.params.size → (Rows.topFuelSpec.fn H ds).results = [.lit (.bool true)] ∧ (Rows.topFuelSpec.fn H ds).args = ds ∧ (Rows.topFuelSpec.fn H ds).vars = [] := by
  intro ds h
  rw [show Try.f3.params.size = 2 by rw [Try.params3]; rfl] at h
  match ds, h with
  | [d0, d1], _ => exact ⟨rfl, rfl, rfl⟩
set_option maxRecDepth 100000 in
theorem TopFuel_lifted (os : Os) (started : os.Started) (H : Type) (enc : TypeId × Value → H) :
    ReturnsInHanded {} Try.checked os 3 .any (Rows.topFuelSpec.pre6 enc Try.prog Try.f3 Rows.topFuelRow.domain false) (Rows.topFuelSpec.post enc Try.prog Try.f3 false true false false) := by
  refine returnsInHanded_of_change (C := Try.checked) ownNone started (by kernel_rfl) Try.func3
    (ChangeSpec.witness6 (enc := enc) (C := Try.checked) false ⟨#[], #[.agg #[.int .i64 0, .int .i64 0, .int .i64 0, .int .i64 0, .int .i64 0, .int .i64 0, .int .i64 0, .int .i64 0], .slice none 0 0], []⟩ 8 (by kernel_rfl) (by kernel_rfl) (by kernel_rfl) (by kernel_rfl)) ?_
  intro W base args ds gs before hval hW _ _
  refine (TopFuel_contract H enc W base args ds gs before hval hW).mono fun e W' ⟨he, hb⟩ => ⟨_, he, ?_⟩
  exact law_post laidOut rfl (by kernel_rfl) Try.underlying4 TopFuel_reads TopFuel_fn hW hb

theorem TopFuel_over : Rows.topFuelRow.holds Try.pinned (OpenSpec.ofChange Rows.topFuelSpec) :=
  OpenClaim.holds_of_wide 3 Try.f3 rfl rfl rfl rfl rfl rfl rfl ⟨rfl, rfl, rfl, rfl, rfl⟩ rfl rfl rfl rfl rfl (by kernel_rfl) Try.func3 (by kernel_rfl)
    (of_decide_eq_true (by kernel_rfl)) (by unfold Func.isWrapper; first | (rw [if_pos (by decide +kernel)]; kernel_rfl) | (rw [if_neg (by decide +kernel)]; exact ⟨rfl, rfl⟩))
    (fun os started H enc _ => TopFuel_lifted os started H enc)

theorem TopFuel_holds : Rows.TopFuelSaid := TopFuel_over
#print axioms TopFuel_holds
end Go.Proofs.Ytgaknbgmodmniaa
