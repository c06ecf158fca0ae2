/- SourceTells: the law returns true at every job, row of events and number of ticks. Conditions: none. -/
import Derived.Test.YtmlejdcanlgpdaaClose
import Derived.Test.YtmlejdcanlgpdaaAggs
import Derived.Test.YtmlejdcanlgpdaaLawTe
import Derived.Lib.SmallJoins
namespace Go.Proofs.Ytmlejdcanlgpdaa
open Go.ChangeShapes Go.WideShapes Go.ChangeAt Go.RowKit Go.Joins
set_option linter.unusedVariables false
set_option linter.unusedSimpArgs false
theorem SourceTells_contract (H : Type) (enc : TypeId × Value → H) (W : World) (base : Nat) (args : Array Value) (ds gs : List (DataW H)) (before : List MemPlace)
    (hval : ∀ (j : Nat) t v, Try.f8.params[j]? = some t → args[j]? = some v → Value.okWide Try.prog W .any base t v)
    (hW : DataW.Whole enc Try.prog Try.f8.params.toList Rows.sourceTellsSpec.vars false W args.toList ds gs before) :
    Calls Try.prog 8 args W fun e W' => e = .returned (.bool true) ∧ Below W.heap.size W W' := by
  have hlt : ∀ x ∈ before, x.block < W.heap.size := fun x hx => hW.lt x hx
  obtain ⟨p, q, hA0, hV, rfl, hfz, hnd⟩ := hW
  have hA : DataW.TrodAll enc Try.prog W 0 (fun _ => true) true Try.f8.params.toList args.toList ds p := hA0
  rw [Try.params8] at hA hval
  obtain ⟨v0, vs0, d0, ds0, p0, q0, hargs, rfl, rfl, h0, r0⟩ := trodAll_cons hA
  obtain ⟨v1, vs1, d1, ds1, p1, q1, rfl, rfl, rfl, h1, r1⟩ := trodAll_cons r0
  obtain ⟨v2, vs2, d2, ds2, p2, q2, rfl, rfl, rfl, h2, r2⟩ := trodAll_cons r1
  obtain ⟨rfl, rfl, rfl⟩ := trodAll_nil r2
  obtain rfl : args = #[v0, v1, v2] := by cases args; simp_all
  obtain ⟨c00, c01, c02, c03, c04, c05, c06, c07, y00, y01, y02, y03, y04, y05, y06, y07, m0, rfl, rfl, rfl, hy00, hy01, hy02, hy03, hy04, hy05, hy06, hy07⟩ := open_agg8 Try.underlying23 (by kernel_rfl) (show Try.prog.cellsOf 23 = 8 by kernel_rfl) (hval 0 23 v0 rfl rfl) h0
  obtain ⟨g, e00, rfl, wg0⟩ := DataW.trod_int Try.underlying3 hy00
  simp at e00
  subst e00
  have wg := i64_of wg0
  obtain ⟨si, e01, rfl, wsi0⟩ := DataW.trod_int Try.underlying2 hy01
  simp at e01
  subst e01
  have wsi := i64_of wsi0
  obtain ⟨sl, e02, rfl, wsl0⟩ := DataW.trod_int Try.underlying2 hy02
  simp at e02
  subst e02
  have wsl := i64_of wsl0
  obtain ⟨fo, e03, rfl, wfo0⟩ := DataW.trod_int Try.underlying3 hy03
  simp at e03
  subst e03
  have wfo := i64_of wfo0
  obtain ⟨fu, e04, rfl, wfu0⟩ := DataW.trod_int Try.underlying3 hy04
  simp at e04
  subst e04
  have wfu := i64_of wfu0
  obtain ⟨li, e05, rfl, wli0⟩ := DataW.trod_int Try.underlying2 hy05
  simp at e05
  subst e05
  have wli := i64_of wli0
  obtain ⟨de, e06, rfl, wde0⟩ := DataW.trod_int Try.underlying2 hy06
  simp at e06
  subst e06
  have wde := i64_of wde0
  obtain ⟨id, e07, rfl, wid0⟩ := DataW.trod_int Try.underlying3 hy07
  simp at e07
  subst e07
  have wid := i64_of wid0
  obtain ⟨nn, rfl, rfl, rfl, wnn0⟩ := open_int Try.underlying3 (hval 2 3 v2 rfl rfl) h2
  have wnn := i64_of wnn0
  obtain ⟨a1, len1, cap1, rfl⟩ := okWide_slice Try.underlying24 (hval 1 24 v1 rfl rfl)
  obtain ⟨k1, hf1⟩ := h1
  obtain ⟨A, n, c, l, e1, hr, hn, hnc, hw⟩ := open_evs Try.underlying24 Try.underlying37 (by kernel_rfl) rfl rfl rfl (by kernel_rfl) (by kernel_rfl) (by kernel_rfl) Try.underlying9 Try.underlying2 Try.underlying2 hf1
  rw [e1]
  exact walkTells ⟨g, si, sl, fo, fu, li, de, id⟩ l nn A n c W ⟨wsi, wsl, wli⟩ hr hn hnc (fun z hz => (hw z hz).1) (fun z hz => i64_of (hw z hz).2.2) wnn
theorem SourceTells_reads : ∀ t ∈ Try.f8.params.toList, Try.prog.readableRec t = true ∧ t < Try.prog.types.size := by
  rw [Try.params8]
  have e : ∀ t, (Try.prog.readableRec t && decide (t < Try.prog.types.size)) = true → Try.prog.readableRec t = true ∧ t < Try.prog.types.size := fun t h => by simpa using h
  intro t ht
  simp only [List.mem_cons, List.not_mem_nil, or_false] at ht
  rcases ht with rfl | rfl | rfl <;> exact e _ (by kernel_rfl)
theorem SourceTells_fn {H : Type} : ∀ ds : List (DataW H), ds.length = Try.f8.params.size → (Rows.sourceTellsSpec.fn H ds).results = [.lit (.bool true)] ∧ (Rows.sourceTellsSpec.fn H ds).args = ds ∧ (Rows.sourceTellsSpec.fn H ds).vars = [] := by
  intro ds h
  rw [show Try.f8.params.size = 3 by rw [Try.params8]; rfl] at h
  match ds, h with
  | [d0, d1, d2], _ => exact ⟨rfl, rfl, rfl⟩
set_option maxRecDepth 100000 in
theorem SourceTells_lifted (os : Os) (started : os.Started) (H : Type) (enc : TypeId × Value → H) :
    ReturnsInHanded {} Try.checked os 8 .any (Rows.sourceTellsSpec.pre6 enc Try.prog Try.f8 Rows.sourceTellsRow.domain false) (Rows.sourceTellsSpec.post enc Try.prog Try.f8 false true false false) := by
  refine returnsInHanded_of_change (C := Try.checked) ownNone started (by kernel_rfl) Try.func8
    (ChangeSpec.witness6 (enc := enc) (C := Try.checked) false ⟨#[], #[.agg #[.int .i64 0, .int .i64 0, .int .i64 0, .int .i64 0, .int .i64 0, .int .i64 0, .int .i64 0, .int .i64 0], .slice none 0 0, .int .i64 0], []⟩ 8 (by kernel_rfl) (by kernel_rfl) (by kernel_rfl) (by kernel_rfl)) ?_
  intro W base args ds gs before hval hW _ _
  refine (SourceTells_contract H enc W base args ds gs before hval hW).mono fun e W' ⟨he, hb⟩ => ⟨_, he, ?_⟩
  exact law_post laidOut rfl (by kernel_rfl) Try.underlying4 SourceTells_reads SourceTells_fn hW hb

theorem SourceTells_over : Rows.sourceTellsRow.holds Try.pinned (OpenSpec.ofChange Rows.sourceTellsSpec) :=
  OpenClaim.holds_of_wide 8 Try.f8 rfl rfl rfl rfl rfl rfl rfl ⟨rfl, rfl, rfl, rfl, rfl⟩ rfl rfl rfl rfl rfl (by kernel_rfl) Try.func8 (by kernel_rfl)
    (of_decide_eq_true (by kernel_rfl)) (by unfold Func.isWrapper; first | (rw [if_pos (by decide +kernel)]; kernel_rfl) | (rw [if_neg (by decide +kernel)]; exact ⟨rfl, rfl⟩))
    (fun os started H enc _ => SourceTells_lifted os started H enc)

theorem SourceTells_holds : Rows.SourceTellsSaid := SourceTells_over
#print axioms SourceTells_holds
end Go.Proofs.Ytmlejdcanlgpdaa
