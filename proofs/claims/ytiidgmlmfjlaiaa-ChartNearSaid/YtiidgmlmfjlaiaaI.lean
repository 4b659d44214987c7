/-
  Walks: To, is, Nearest.
-/
import Derived.Test.YtiidgmlmfjlaiaaH
namespace Go.Proofs.Ytiidgmlmfjlaiaa
open Go.RowKit Fl Rg

set_option maxHeartbeats 400000 in
theorem to_any (x y : Int) (w : World) :
    Calls Try.prog 11 #[.agg #[.int .i64 x, .int .i64 y]] w fun e w' => e = .returned (.agg #[.int .i64 x, .int .i64 y]) ∧ Gr w w' := by
  go_enter Try.func11, Try.ntmps11
  go_wp2
  refine bodyPost_ret (v := .agg #[.int .i64 x, .int .i64 y]) (by simp [results, Try.results11, go_sem]) rfl ⟨rfl, ?_⟩
  exact ((Gr.refl _).alloc _).alloc _

set_option maxHeartbeats 1000000 in
theorem is_same (x y c : Int) (w : World) :
    Calls Try.prog 21 #[.agg #[.int .i64 x, .int .i64 y], .int .i64 c, .agg #[.int .i64 x, .int .i64 y], .int .i64 c] w fun e w' => e = .returned (.bool true) ∧ Gr w w' := by
  go_enter Try.func21, Try.ntmps21
  go_wp2
  obtain ⟨w1, hw1⟩ : ∃ w1, w1 = (w.alloc (.cells #[.int .i64 x, .int .i64 y] 23)).alloc (.cells #[.int .i64 x, .int .i64 y] 29) := ⟨_, rfl⟩
  rw [← hw1]
  have hg : Gr w w1 := by rw [hw1]; exact ((Gr.refl _).alloc _).alloc _
  have B1 : Blk w1 w.heap.size 23 #[.int .i64 x, .int .i64 y] := by rw [hw1]; exact (Blk.new _ _ _).alloc _
  have B2 : Blk w1 (w.heap.size + 1) 29 #[.int .i64 x, .int .i64 y] := by rw [hw1]; exact Blk.made (by simp) (Gr.refl _)
  clear hw1
  obtain ⟨a0, a1, _, _, _⟩ := B1.two
  obtain ⟨b0, b1, _, _, _⟩ := B2.two
  go_region_held3 (fun u => u.cell? ⟨w.heap.size, 0, none⟩ = some (.int .i64 x) ∧ u.cell? ⟨w.heap.size, 1, none⟩ = some (.int .i64 y) ∧ u.cell? ⟨w.heap.size + 1, 0, none⟩ = some (.int .i64 x) ∧ u.cell? ⟨w.heap.size + 1, 1, none⟩ = some (.int .i64 y))
    (first | (go_keep; done) | (go_split_ands; refine ⟨Gr.cell hb1 ?_, Gr.cell hb1 ?_, Gr.cell hb1 ?_, Gr.cell hb1 ?_⟩ <;> assumption))
    (first
      | (go_at_call 11; refine (to_any _ _ _).mono ?_; rintro e w2 ⟨rfl, hb1⟩; have hg2 : Gr w1 w2 := Gr.trans ((Gr.refl _).drawn _) hb1))
  go_wp2
  go_ret
  exact ⟨ret_eq (by simp), hg.trans hg2⟩

end Go.Proofs.Ytiidgmlmfjlaiaa
