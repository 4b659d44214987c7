/-
  Walk: the law SlabNil.
-/
import Derived.Test.YtjpmepjafkodeaaK
namespace Go.Proofs.Ytjpmepjafkodeaa
open Go.RowKit

set_option maxHeartbeats 16000000 in
set_option maxRecDepth 100000 in
theorem slabNil_walk (n : Int) (A : Option Addr) (l c : Nat) (w : World) : Calls Try.prog 5 #[.int .i64 n, .slice A l c] w fun e w' => e = .returned (.bool true) ∧ Gr w w' := by
  go_enter Try.func5, Try.ntmps5
  go_wp2_with fail
  refine (read_nil _).mono ?_
  rintro e w1 ⟨rfl, hg1⟩
  go_wp2_with fail
  refine (awake16_any _).mono ?_
  rintro e w2 ⟨rfl, hg2⟩
  go_wp2_with fail
  refine (append_nil _ _ _ _).mono ?_
  rintro e w3 ⟨rfl, hg3⟩
  go_wp2_with fail
  refine (sync_nil _).mono ?_
  rintro e w4 ⟨rfl, hg4⟩
  go_wp2_with fail
  refine (erase_nil _).mono ?_
  rintro e w5 ⟨rfl, hg5⟩
  go_wp2_with fail
  refine (fuse_nil _ _).mono ?_
  rintro e w6 ⟨rfl, hg6⟩
  go_wp2_with fail
  refine (crash_nil _ _ _).mono ?_
  rintro e w7 ⟨rfl, hg7⟩
  go_wp2_with fail
  refine (loose_nil _).mono ?_
  rintro e w8 ⟨rfl, hg8⟩
  go_wp2_with fail
  refine (steps_nil _).mono ?_
  rintro e w9 ⟨rfl, hg9⟩
  go_wp2_with fail
  refine (down_nil _).mono ?_
  rintro e w10 ⟨rfl, hg10⟩
  go_wp2
  go_ret
  exact ⟨rfl, (((((((((((Gr.refl w).trans hg1).trans hg2).trans hg3).trans hg4).trans hg5).trans hg6).trans hg7).trans hg8).trans hg9).trans hg10)⟩

end Go.Proofs.Ytjpmepjafkodeaa
