/-
  SlabNil returns true for every input: a nil slab. No condition.
-/
import Derived.Test.YtjpmepjafkodeaaL
namespace Go.Proofs.Ytjpmepjafkodeaa.slabNil
open Go.ChangeShapes Go.WideShapes Go.ChangeAt Go.RowKit

set_option maxRecDepth 100000 in
theorem walk : Row.Walk 5 Try.f5 := by
  intro H enc W base args ds p hval hA hsz
  rw [Try.params5] at hA hval
  obtain ⟨v0, vs0, d0, ds0, p0, q0, hargs, rfl, rfl, h0, r0⟩ := trodAll_cons hA
  obtain ⟨v1, vs1, d1, ds1, p1, q1, rfl, rfl, rfl, h1, r1⟩ := trodAll_cons r0
  obtain ⟨rfl, rfl, rfl⟩ := trodAll_nil r1
  obtain rfl : args = #[v0, v1] := by cases args; simp_all
  obtain ⟨a0, rfl, rfl, rfl, w0⟩ := open_int Try.underlying3 (hval 0 3 v0 rfl rfl) h0
  obtain ⟨A, l, c, rfl⟩ := okWide_slice Try.underlying25 (hval 1 25 v1 rfl rfl)
  exact slabNil_walk a0 A l c W

theorem law : Row.Law Rows.slabNilSpec Try.f5.params.size := ⟨rfl, fun H ds h => by
  rw [Try.params5] at h
  match ds, h with
  | [_, _], _ => rfl⟩

set_option maxRecDepth 100000 in
theorem proved : Rows.SlabNilSaid :=
  OpenClaim.holds_of_wide 5 Try.f5 rfl rfl rfl rfl rfl rfl rfl ⟨rfl, rfl, rfl, rfl, rfl⟩ rfl rfl rfl rfl rfl (by kernel_rfl) Try.func5 (by kernel_rfl)
    (of_decide_eq_true (by kernel_rfl)) (by unfold Func.isWrapper; first | (rw [if_pos (by decide +kernel)]; kernel_rfl) | (rw [if_neg (by decide +kernel)]; exact ⟨rfl, rfl⟩))
    (fun os started H enc _ => Row.lifted Try.func5 (by kernel_rfl) (by kernel_rfl) law (of_decide_eq_true (by kernel_rfl)) walk os started H enc
      (ChangeSpec.witness6 (enc := enc) (C := Try.checked) false ⟨#[], #[.int .i64 0, .slice none 0 0], []⟩ 8 (by kernel_rfl) (by kernel_rfl) (by kernel_rfl) (by kernel_rfl)))

#print axioms proved
end Go.Proofs.Ytjpmepjafkodeaa.slabNil
