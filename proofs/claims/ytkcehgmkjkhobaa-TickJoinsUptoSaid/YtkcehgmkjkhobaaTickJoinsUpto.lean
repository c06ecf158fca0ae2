/- TickJoins: the law returns true at any two slices of numbers. Condition: the arguments together hold at most 1048576 values (the given second form). -/
import Derived.Test.YtkcehgmkjkhobaaOpens
import Derived.Test.YtkcehgmkjkhobaaJoins
import Derived.Test.YtkcehgmkjkhobaaBulk
namespace Go.Proofs.Ytkcehgmkjkhobaa
open Go.ChangeShapes Go.WideShapes Go.ChangeAt Go.RowKit
set_option linter.unusedVariables false
theorem TickJoins_contract (H : Type) (enc : TypeId × Value → H) (W : World) (base : Nat) (args : Array Value) (ds gs : List (DataW H)) (before : List MemPlace)
    (hval : ∀ (j : Nat) t v, Try.f9.params[j]? = some t → args[j]? = some v → Value.okWide Try.prog W .any base t v)
    (hW : DataW.Whole enc Try.prog Try.f9.params.toList Rows.tickJoinsSpec.vars false W args.toList ds gs before) (hk : Rows.uptoSmall H (ds ++ gs) = true) :
    Calls Try.prog 9 args W fun e W' => e = .returned (.bool true) ∧ Below W.heap.size W W' := by
  have hlt : ∀ x ∈ before, x.block < W.heap.size := fun x hx => hW.lt x hx
  obtain ⟨p, q, hA0, hV, rfl, hfz, hnd⟩ := hW
  have hA : DataW.TrodAll enc Try.prog W 0 (fun _ => true) true Try.f9.params.toList args.toList ds p := hA0
  rw [Try.params9] at hA hval
  obtain ⟨v0, vs0, d0, ds0, p0, q0, hargs, rfl, rfl, h0, r0⟩ := trodAll_cons hA
  obtain ⟨v1, vs1, d1, ds1, p1, q1, rfl, rfl, rfl, h1, r1⟩ := trodAll_cons r0
  obtain ⟨rfl, rfl, rfl⟩ := trodAll_nil r1
  obtain rfl : args = #[v0, v1] := by cases args; simp_all
  obtain ⟨A, n, c, xs, rfl, hra, hma, hwa, hda⟩ := open_ints_reads Try.underlying26 Try.underlying2 (show Try.prog.cellsOf 2 = 1 by kernel_rfl) (hval 0 26 v0 rfl rfl) h0 (fun x hx => hlt x (by simp [hx]))
  obtain ⟨B, m, d, ys, rfl, hrb, hmb, hwb, hdb⟩ := open_ints_reads Try.underlying26 Try.underlying2 (show Try.prog.cellsOf 2 = 1 by kernel_rfl) (hval 1 26 v1 rfl rfl) h1 (fun x hx => hlt x (by simp [hx]))
  obtain ⟨rfl, rfl⟩ := trodVars_none hV
  have hbd := bulk_bound hk
  have la : n ≤ 1048576 := by
    rcases hda with ⟨rfl, h⟩ | ⟨sp, rfl⟩
    · omega
    · have h1 := bulk_part (d := (.slice (xs.map fun z => .lit (.int .i64 z)) sp : DataW H)) (l := [.slice (xs.map fun z => .lit (.int .i64 z)) sp, d1] ++ []) (by simp)
      have h2 := bulk_slice (xs.map fun z => (.lit (.int .i64 z) : DataW H)) sp
      have h3 := hra.1
      simp at h2 h3
      omega
  have lb : m ≤ 1048576 := by
    rcases hdb with ⟨rfl, h⟩ | ⟨sp, rfl⟩
    · omega
    · have h1 := bulk_part (d := (.slice (ys.map fun z => .lit (.int .i64 z)) sp : DataW H)) (l := [d0, .slice (ys.map fun z => .lit (.int .i64 z)) sp] ++ []) (by simp)
      have h2 := bulk_slice (ys.map fun z => (.lit (.int .i64 z) : DataW H)) sp
      have h3 := hrb.1
      simp at h2 h3
      omega
  exact walkJoins A B n m c d xs ys W hra hrb la lb
theorem TickJoins_reads : ∀ t ∈ Try.f9.params.toList, Try.prog.readableRec t = true ∧ t < Try.prog.types.size := by
  rw [Try.params9]
  have e : ∀ t, (Try.prog.readableRec t && decide (t < Try.prog.types.size)) = true → Try.prog.readableRec t = true ∧ t < Try.prog.types.size := fun t h => by simpa using h
  intro t ht
  simp only [List.mem_cons, List.not_mem_nil, or_false] at ht
  rcases ht with rfl | rfl <;> exact e _ (by kernel_rfl)
theorem TickJoins_fn {H : Type} : ∀ ds : List (DataW H), ds.length = Try.f9.params.size → (Rows.tickJoinsSpec.fn H ds).results = [.lit (.bool true)] ∧ (Rows.tickJoinsSpec.fn H ds).args = ds ∧ (Rows.tickJoinsSpec.fn H ds).vars = [] := by
  intro ds h
  rw [show Try.f9.params.size = 2 by rw [Try.params9]; rfl] at h
  match ds, h with
  | [d0, d1], _ => exact ⟨rfl, rfl, rfl⟩
set_option maxRecDepth 100000 in
theorem TickJoinsUpto_lifted (os : Os) (started : os.Started) (H : Type) (enc : TypeId × Value → H) (F : Stop.Interp) :
    ReturnsInHanded {} Try.checked os 9 .any ((Rows.OpenSpec.upto Rows.tickJoinsSpec).pre6 enc Try.prog Try.f9 Rows.tickJoinsUptoRow.domain false) (((Rows.OpenSpec.upto Rows.tickJoinsSpec).at F).post enc Try.prog Try.f9 false true false false) := by
  refine returnsInHanded_of_cond (C := Try.checked) (s := Rows.OpenSpec.upto Rows.tickJoinsSpec) (k := Rows.uptoSmall) rfl ownNone started (by kernel_rfl) Try.func9
    (OpenSpec.witness (enc := enc) (C := Try.checked) (s := Rows.OpenSpec.upto Rows.tickJoinsSpec) (k := Rows.uptoSmall) rfl false ⟨#[], #[.slice none 0 0, .slice none 0 0], []⟩ 8 (by kernel_rfl) (by kernel_rfl) (by kernel_rfl)
      (x := ([.nil, .nil], [], [])) (by kernel_rfl) rfl (by kernel_rfl)) ?_
  intro W base args ds gs before hval hW _ hk _
  refine (TickJoins_contract H enc W base args ds gs before hval hW hk).mono fun e W' ⟨he, hb⟩ => ⟨_, he, ?_⟩
  exact law_post (s := Rows.tickJoinsSpec) laidOut rfl (by kernel_rfl) Try.underlying4 TickJoins_reads TickJoins_fn hW hb

theorem TickJoinsUpto_over : Rows.tickJoinsUptoRow.holds Try.pinned (Rows.OpenSpec.upto Rows.tickJoinsSpec) :=
  OpenClaim.holds_of_cond 9 Try.f9 rfl rfl rfl rfl rfl rfl rfl ⟨rfl, rfl, rfl, rfl, rfl⟩ rfl rfl rfl rfl rfl (by kernel_rfl) Try.func9 (by kernel_rfl)
    (of_decide_eq_true (by kernel_rfl)) (by unfold Func.isWrapper; first | (rw [if_pos (by decide +kernel)]; kernel_rfl) | (rw [if_neg (by decide +kernel)]; exact ⟨rfl, rfl⟩))
    (fun os started H enc _ F => TickJoinsUpto_lifted os started H enc F)

theorem TickJoinsUpto_holds : Rows.TickJoinsUptoSaid := TickJoinsUpto_over
#print axioms TickJoinsUpto_holds
end Go.Proofs.Ytkcehgmkjkhobaa
