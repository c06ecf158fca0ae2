/- SourceSteps: the law returns true at every job and source. Conditions: none. -/
import Derived.Test.YtmlejdcanlgpdaaClose
import Derived.Test.YtmlejdcanlgpdaaAggs
import Derived.Test.YtmlejdcanlgpdaaLawSt
import Derived.Lib.SmallJoins
namespace Go.Proofs.Ytmlejdcanlgpdaa
open Go.ChangeShapes Go.WideShapes Go.ChangeAt Go.RowKit Go.Joins
set_option linter.unusedVariables false
set_option linter.unusedSimpArgs false
theorem SourceSteps_contract (H : Type) (enc : TypeId × Value → H) (W : World) (base : Nat) (args : Array Value) (ds gs : List (DataW H)) (before : List MemPlace)
    (hval : ∀ (j : Nat) t v, Try.f3.params[j]? = some t → args[j]? = some v → Value.okWide Try.prog W .any base t v)
    (hW : DataW.Whole enc Try.prog Try.f3.params.toList Rows.sourceStepsSpec.vars false W args.toList ds gs before) :
    Calls Try.prog 3 args W fun e W' => e = .returned (.bool true) ∧ Below W.heap.size W W' := by
  have hlt : ∀ x ∈ before, x.block < W.heap.size := fun x hx => hW.lt x hx
  obtain ⟨p, q, hA0, hV, rfl, hfz, hnd⟩ := hW
  have hA : DataW.TrodAll enc Try.prog W 0 (fun _ => true) true Try.f3.params.toList args.toList ds p := hA0
  rw [Try.params3] at hA hval
  obtain ⟨v0, vs0, d0, ds0, p0, q0, hargs, rfl, rfl, h0, r0⟩ := trodAll_cons hA
  obtain ⟨v1, vs1, d1, ds1, p1, q1, rfl, rfl, rfl, h1, r1⟩ := trodAll_cons r0
  obtain ⟨rfl, rfl, rfl⟩ := trodAll_nil r1
  obtain rfl : args = #[v0, v1] := by cases args; simp_all
  obtain ⟨c00, c01, c02, c03, c04, c05, c06, c07, y00, y01, y02, y03, y04, y05, y06, y07, m0, rfl, rfl, rfl, hy00, hy01, hy02, hy03, hy04, hy05, hy06, hy07⟩ := open_agg8 Try.underlying23 (by kernel_rfl) (show Try.prog.cellsOf 23 = 8 by kernel_rfl) (hval 0 23 v0 rfl rfl) h0
  obtain ⟨g, e00, rfl, wg0⟩ := DataW.trod_int Try.underlying3 hy00
  simp at e00
  subst e00
  have wg := i64_of wg0
  obtain ⟨si, e01, rfl, wsi0⟩ := DataW.trod_int Try.underlying2 hy01
  simp at e01
  subst e01
  have wsi := i64_of wsi0
  obtain ⟨sl, e02, rfl, wsl0⟩ := DataW.trod_int Try.underlying2 hy02
  simp at e02
  subst e02
  have wsl := i64_of wsl0
  obtain ⟨fo, e03, rfl, wfo0⟩ := DataW.trod_int Try.underlying3 hy03
  simp at e03
  subst e03
  have wfo := i64_of wfo0
  obtain ⟨fu, e04, rfl, wfu0⟩ := DataW.trod_int Try.underlying3 hy04
  simp at e04
  subst e04
  have wfu := i64_of wfu0
  obtain ⟨li, e05, rfl, wli0⟩ := DataW.trod_int Try.underlying2 hy05
  simp at e05
  subst e05
  have wli := i64_of wli0
  obtain ⟨de, e06, rfl, wde0⟩ := DataW.trod_int Try.underlying2 hy06
  simp at e06
  subst e06
  have wde := i64_of wde0
  obtain ⟨id, e07, rfl, wid0⟩ := DataW.trod_int Try.underlying3 hy07
  simp at e07
  subst e07
  have wid := i64_of wid0
  obtain ⟨c10, c11, c12, c13, c14, y10, y11, y12, y13, y14, m1, rfl, rfl, rfl, hy10, hy11, hy12, hy13, hy14⟩ := open_agg5 Try.underlying26 (by kernel_rfl) (show Try.prog.cellsOf 26 = 5 by kernel_rfl) (hval 1 26 v1 rfl rfl) h1
  obtain ⟨Aev, nev, cev, lsev, rfl, hrev, hmev, hcev, hwev⟩ := open_evs Try.underlying24 Try.underlying37 (by kernel_rfl) rfl rfl rfl (by kernel_rfl) (by kernel_rfl) (by kernel_rfl) Try.underlying9 Try.underlying2 Try.underlying2 hy10
  obtain ⟨done, e11, rfl, wdone0⟩ := DataW.trod_int Try.underlying3 hy11
  simp at e11
  subst e11
  have wdone := i64_of wdone0
  obtain ⟨mark, e12, rfl, wmark0⟩ := DataW.trod_int Try.underlying2 hy12
  simp at e12
  subst e12
  have wmark := i64_of wmark0
  obtain ⟨quiet, e13, rfl, wquiet0⟩ := DataW.trod_int Try.underlying3 hy13
  simp at e13
  subst e13
  have wquiet := i64_of wquiet0
  obtain ⟨ended, e14, rfl⟩ := DataW.trod_bool Try.underlying4 hy14
  simp at e14
  subst e14
  exact walkSteps ⟨g, si, sl, fo, fu, li, de, id⟩ ⟨lsev, done, mark, quiet, ended⟩ Aev nev cev W ⟨wsi, wsl, wli⟩ ⟨fun z hz => (hwev z hz).1, fun z hz => i64_of (hwev z hz).2.2⟩ hrev hmev hcev
theorem SourceSteps_reads : ∀ t ∈ Try.f3.params.toList, Try.prog.readableRec t = true ∧ t < Try.prog.types.size := by
  rw [Try.params3]
  have e : ∀ t, (Try.prog.readableRec t && decide (t < Try.prog.types.size)) = true → Try.prog.readableRec t = true ∧ t < Try.prog.types.size := fun t h => by simpa using h
  intro t ht
  simp only [List.mem_cons, List.not_mem_nil, or_false] at ht
  rcases ht with rfl | rfl <;> exact e _ (by kernel_rfl)
theorem SourceSteps_fn {H : Type} : ∀ ds : List (DataW H), ds.length = Try.f3.params.size → (Rows.sourceStepsSpec.fn H ds).results = [.lit (.bool true)] ∧ (Rows.sourceStepsSpec.fn H ds).args = ds ∧ (Rows.sourceStepsSpec.fn H ds).vars = [] := by
  intro ds h
  rw [show Try.f3.params.size = 2 by rw [Try.params3]; rfl] at h
  match ds, h with
  | [d0, d1], _ => exact ⟨rfl, rfl, rfl⟩
set_option maxRecDepth 100000 in
theorem SourceSteps_lifted (os : Os) (started : os.Started) (H : Type) (enc : TypeId × Value → H) :
    ReturnsInHanded {} Try.checked os 3 .any (Rows.sourceStepsSpec.pre6 enc Try.prog Try.f3 Rows.sourceStepsRow.domain false) (Rows.sourceStepsSpec.post enc Try.prog Try.f3 false true false false) := by
  refine returnsInHanded_of_change (C := Try.checked) ownNone started (by kernel_rfl) Try.func3
    (ChangeSpec.witness6 (enc := enc) (C := Try.checked) false ⟨#[], #[.agg #[.int .i64 0, .int .i64 0, .int .i64 0, .int .i64 0, .int .i64 0, .int .i64 0, .int .i64 0, .int .i64 0], .agg #[.slice none 0 0, .int .i64 0, .int .i64 0, .int .i64 0, .bool false]], []⟩ 8 (by kernel_rfl) (by kernel_rfl) (by kernel_rfl) (by kernel_rfl)) ?_
  intro W base args ds gs before hval hW _ _
  refine (SourceSteps_contract H enc W base args ds gs before hval hW).mono fun e W' ⟨he, hb⟩ => ⟨_, he, ?_⟩
  exact law_post laidOut rfl (by kernel_rfl) Try.underlying4 SourceSteps_reads SourceSteps_fn hW hb

theorem SourceSteps_over : Rows.sourceStepsRow.holds Try.pinned (OpenSpec.ofChange Rows.sourceStepsSpec) :=
  OpenClaim.holds_of_wide 3 Try.f3 rfl rfl rfl rfl rfl rfl rfl ⟨rfl, rfl, rfl, rfl, rfl⟩ rfl rfl rfl rfl rfl (by kernel_rfl) Try.func3 (by kernel_rfl)
    (of_decide_eq_true (by kernel_rfl)) (by unfold Func.isWrapper; first | (rw [if_pos (by decide +kernel)]; kernel_rfl) | (rw [if_neg (by decide +kernel)]; exact ⟨rfl, rfl⟩))
    (fun os started H enc _ => SourceSteps_lifted os started H enc)

theorem SourceSteps_holds : Rows.SourceStepsSaid := SourceSteps_over
#print axioms SourceSteps_holds
end Go.Proofs.Ytmlejdcanlgpdaa
