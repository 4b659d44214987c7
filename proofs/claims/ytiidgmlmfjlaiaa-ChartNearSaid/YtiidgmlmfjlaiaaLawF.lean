/-
  ChartNear returns true for every input: of any spots the nearest one is as near as each, and who goes the other way has each spot on the other side. No condition.
-/
import Derived.Test.YtiidgmlmfjlaiaaY
import Derived.Test.YtiidgmlmfjlaiaaO
import Derived.Test.YtiidgmlmfjlaiaaU
namespace Go.Proofs.Ytiidgmlmfjlaiaa.chartNear
open Go.ChangeShapes Go.WideShapes Go.ChangeAt Go.RowKit

theorem walk : Row.Walk 8 Try.f8 := by
  intro H enc W base args ds p hval hA hsz
  rw [Try.params8] at hA hval hsz
  obtain ⟨v0, vs0, d0, ds0, p0, q0, hargs, rfl, rfl, h0, r0⟩ := trodAll_cons hA
  obtain ⟨v1, vs1, d1, ds1, p1, q1, rfl, rfl, rfl, h1, r1⟩ := trodAll_cons r0
  obtain ⟨v2, vs2, d2, ds2, p2, q2, rfl, rfl, rfl, h2, r2⟩ := trodAll_cons r1
  obtain ⟨v3, vs3, d3, ds3, p3, q3, rfl, rfl, rfl, h3, r3⟩ := trodAll_cons r2
  obtain ⟨rfl, rfl, rfl⟩ := trodAll_nil r3
  obtain rfl : args = #[v0, v1, v2, v3] := by cases args; simp_all
  obtain ⟨x0, y0, rfl, wx0, wy0⟩ := open_spot (hval 0 29 v0 rfl rfl) h0
  obtain ⟨x1, y1, rfl, wx1, wy1⟩ := open_spot (hval 1 29 v1 rfl rfl) h1
  obtain ⟨x2, y2, rfl, wx2, wy2⟩ := open_spot (hval 2 29 v2 rfl rfl) h2
  obtain ⟨A, l, n, c, rfl, hl, hc, hnc, hr, hd⟩ := open_spots (hval 3 44 v3 rfl rfl) h3
  have h16 : n * 16 ≤ 140737488355328 := by
    rcases hd with rfl | ⟨es, sp, rfl, he⟩
    · omega
    · have h := sized_slice hsz (j := 3) rfl rfl Try.underlying44
      have hb : Try.prog.bytesOf 29 = 16 := by kernel_rfl
      rw [hb, he] at h
      have := reachBytes_lt
      omega
  exact chartNear_walk x0 y0 x1 y1 x2 y2 l n c A W hl (Nat.le_trans hnc hc) h16 hr

theorem law : Row.Law Rows.chartNearSpec Try.f8.params.size := ⟨rfl, fun H ds h => by
  rw [Try.params8] at h
  match ds, h with
  | [_, _, _, _], _ => rfl⟩

set_option maxRecDepth 100000 in
theorem proved : Rows.ChartNearSaid :=
  OpenClaim.holds_of_wide 8 Try.f8 rfl rfl rfl rfl rfl rfl rfl ⟨rfl, rfl, rfl, rfl, rfl⟩ rfl rfl rfl rfl rfl (by kernel_rfl) Try.func8 (by kernel_rfl)
    (of_decide_eq_true (by kernel_rfl)) (by unfold Func.isWrapper; first | (rw [if_pos (by decide +kernel)]; kernel_rfl) | (rw [if_neg (by decide +kernel)]; exact ⟨rfl, rfl⟩))
    (fun os started H enc _ => Row.lifted Try.func8 (by kernel_rfl) (by kernel_rfl) law (of_decide_eq_true (by kernel_rfl)) walk os started H enc
      (ChangeSpec.witness6 (enc := enc) (C := Try.checked) false ⟨#[], #[.agg #[.int .i64 0, .int .i64 0], .agg #[.int .i64 0, .int .i64 0], .agg #[.int .i64 0, .int .i64 0], .slice none 0 0], []⟩ 8 (by kernel_rfl) (by kernel_rfl) (by kernel_rfl) (by kernel_rfl)))

#print axioms proved
end Go.Proofs.Ytiidgmlmfjlaiaa.chartNear
