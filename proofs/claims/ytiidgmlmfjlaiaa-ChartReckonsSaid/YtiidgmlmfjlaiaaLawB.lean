/-
  ChartReckons returns true for every input: any two spots, added, multiplied, turned and mirrored, or why not, are the document's. No condition.
-/
import Derived.Test.YtiidgmlmfjlaiaaN
import Derived.Test.YtiidgmlmfjlaiaaO
namespace Go.Proofs.Ytiidgmlmfjlaiaa.chartReckons
open Go.ChangeShapes Go.WideShapes Go.ChangeAt Go.RowKit

theorem walk : Row.Walk 4 Try.f4 := by
  intro H enc W base args ds p hval hA hsz
  rw [Try.params4] at hA hval
  obtain ⟨v0, vs0, d0, ds0, p0, q0, hargs, rfl, rfl, h0, r0⟩ := trodAll_cons hA
  obtain ⟨v1, vs1, d1, ds1, p1, q1, rfl, rfl, rfl, h1, r1⟩ := trodAll_cons r0
  obtain ⟨v2, vs2, d2, ds2, p2, q2, rfl, rfl, rfl, h2, r2⟩ := trodAll_cons r1
  obtain ⟨rfl, rfl, rfl⟩ := trodAll_nil r2
  obtain rfl : args = #[v0, v1, v2] := by cases args; simp_all
  obtain ⟨x0, y0, rfl, wx0, wy0⟩ := open_spot (hval 0 29 v0 rfl rfl) h0
  obtain ⟨x1, y1, rfl, wx1, wy1⟩ := open_spot (hval 1 29 v1 rfl rfl) h1
  obtain ⟨a2, rfl, rfl, rfl, w2⟩ := open_int Try.underlying3 (hval 2 3 v2 rfl rfl) h2
  exact chartReckons_walk x0 y0 x1 y1 a2 W

theorem law : Row.Law Rows.chartReckonsSpec Try.f4.params.size := ⟨rfl, fun H ds h => by
  rw [Try.params4] at h
  match ds, h with
  | [_, _, _], _ => rfl⟩

set_option maxRecDepth 100000 in
theorem proved : Rows.ChartReckonsSaid :=
  OpenClaim.holds_of_wide 4 Try.f4 rfl rfl rfl rfl rfl rfl rfl ⟨rfl, rfl, rfl, rfl, rfl⟩ rfl rfl rfl rfl rfl (by kernel_rfl) Try.func4 (by kernel_rfl)
    (of_decide_eq_true (by kernel_rfl)) (by unfold Func.isWrapper; first | (rw [if_pos (by decide +kernel)]; kernel_rfl) | (rw [if_neg (by decide +kernel)]; exact ⟨rfl, rfl⟩))
    (fun os started H enc _ => Row.lifted Try.func4 (by kernel_rfl) (by kernel_rfl) law (of_decide_eq_true (by kernel_rfl)) walk os started H enc
      (ChangeSpec.witness6 (enc := enc) (C := Try.checked) false ⟨#[], #[.agg #[.int .i64 0, .int .i64 0], .agg #[.int .i64 0, .int .i64 0], .int .i64 0], []⟩ 8 (by kernel_rfl) (by kernel_rfl) (by kernel_rfl) (by kernel_rfl)))

#print axioms proved
end Go.Proofs.Ytiidgmlmfjlaiaa.chartReckons
