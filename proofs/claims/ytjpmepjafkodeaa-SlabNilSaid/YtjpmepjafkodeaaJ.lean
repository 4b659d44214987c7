/-
  Walks: the calls of a nil slab.
-/
import Derived.Test.YtjpmepjafkodeaaI
namespace Go.Proofs.Ytjpmepjafkodeaa
open Go.RowKit

section
variable (w : World)
set_option maxHeartbeats 4000000 in
theorem append_nil (A : Option Addr) (n c : Nat) : Calls Try.prog 12 #[.pointer none, .slice A n c] w fun e w' => e = .returned (.int .i64 2) ∧ Gr w w' := by
  go_enter Try.func12, Try.ntmps12
  go_wp2_with fail
  refine (up_nil _).mono ?_
  rintro e w1 ⟨rfl, hg1⟩
  go_wp2
  go_ret
  exact ⟨rfl, hg1⟩
set_option maxHeartbeats 4000000 in
theorem sync_nil : Calls Try.prog 13 #[.pointer none] w fun e w' => e = .returned (.int .i64 2) ∧ Gr w w' := by
  go_enter Try.func13, Try.ntmps13
  go_wp2_with fail
  refine (up_nil _).mono ?_
  rintro e w1 ⟨rfl, hg1⟩
  go_wp2
  go_ret
  exact ⟨rfl, hg1⟩
set_option maxHeartbeats 4000000 in
theorem erase_nil : Calls Try.prog 15 #[.pointer none] w fun e w' => e = .returned (.int .i64 2) ∧ Gr w w' := by
  go_enter Try.func15, Try.ntmps15
  go_wp2_with fail
  refine (up_nil _).mono ?_
  rintro e w1 ⟨rfl, hg1⟩
  go_wp2
  go_ret
  exact ⟨rfl, hg1⟩
set_option maxHeartbeats 4000000 in
theorem fuse_nil (n : Int) : Calls Try.prog 16 #[.pointer none, .int .i64 n] w fun e w' => e = .returned (.int .i64 2) ∧ Gr w w' := by
  go_enter Try.func16, Try.ntmps16
  go_wp2_with fail
  refine (up_nil _).mono ?_
  rintro e w1 ⟨rfl, hg1⟩
  go_wp2
  go_ret
  exact ⟨rfl, hg1⟩
set_option maxHeartbeats 4000000 in
set_option maxRecDepth 100000 in
theorem crash_nil (a b : Int) : Calls Try.prog 17 #[.pointer none, .int .i64 a, .int .i64 b] w fun e w' => e = .returned (.int .i64 2) ∧ Gr w w' := by
  go_enter Try.func17, Try.ntmps17
  go_wp2
  go_ret
  exact ⟨rfl, Gr.refl _⟩
set_option maxHeartbeats 4000000 in
theorem read_nil : Calls Try.prog 14 #[.pointer none] w fun e w' => e = .returned (.tuple #[.slice none 0 0, .int .i64 2]) ∧ Gr w w' := by
  go_enter Try.func14, Try.ntmps14
  go_wp2_with fail
  refine (up_nil _).mono ?_
  rintro e w1 ⟨rfl, hg1⟩
  go_wp2
  exact bodyPost_ret (v := .tuple #[.slice none 0 0, .int .i64 2]) (by simp [results, Try.results14, go_sem]) rfl ⟨rfl, hg1⟩
end

end Go.Proofs.Ytjpmepjafkodeaa
