/-
  Walks: quarters, Mirror, Far, Side.
-/
import Derived.Test.YtiidgmlmfjlaiaaB
namespace Go.Proofs.Ytiidgmlmfjlaiaa
open Go.RowKit Fl Rg

/-- a turn by k quarters -/
def rotx (k : Nat) (x y : Int) : Int := if k = 0 then x else if k = 1 then -y else if k = 2 then -x else y
def roty (k : Nat) (x y : Int) : Int := if k = 0 then y else if k = 1 then x else if k = 2 then -y else -x

/-- how many quarters n are -/
def quad (n : Int) : Nat := (n % 4).toNat

theorem quad_lt (n : Int) : quad n < 4 := by unfold quad; omega

theorem quad_go (n : Int) : ((n.tmod 4) + 4).tmod 4 = (quad n : Int) := by
  unfold quad
  have h : n.tmod 4 = n % 4 ∨ n.tmod 4 = n % 4 - 4 := by
    rcases Int.le_total 0 n with h | h
    · left; exact Int.tmod_eq_emod_of_nonneg h
    · have e : n.tmod 4 = -((-n) % 4) := by
        rw [← Int.tmod_eq_emod_of_nonneg (a := -n) (b := 4) (by omega), Int.neg_tmod, Int.neg_neg]
      omega
  have h2 : 0 ≤ n.tmod 4 + 4 := by omega
  rw [Int.tmod_eq_emod_of_nonneg h2]
  omega

theorem rot_step (k : Nat) (hk : k < 3) : rotx (k + 1) 1 0 = rotx k 1 0 * 0 - roty k 1 0 * 1 ∧ roty (k + 1) 1 0 = rotx k 1 0 * 1 + roty k 1 0 * 0 := by
  match k, hk with
  | 0, _ => decide
  | 1, _ => decide
  | 2, _ => decide

theorem rot_abs (k : Nat) : (rotx k 1 0).natAbs ≤ 1 ∧ (roty k 1 0).natAbs ≤ 1 := by
  unfold rotx roty
  refine ⟨?_, ?_⟩ <;> (split; simp; split; simp; split <;> simp)

/-- a complex number comes -/
def RetC (x y : Int) (e : Ending) : Prop := ∃ re im, Rep re x ∧ Rep im y ∧ e = .returned (.complex .f64 re im)

set_option maxHeartbeats 400000 in
theorem quarters_at (n : Int) (q : Nat) (hq : ((wrap64 (n.tmod 4 + 4)).tmod 4) = (q : Int)) (hlt : q < 4) (w : World) :
    Calls Try.prog 33 #[.int .i64 n] w fun e w' => RetC (rotx q 1 0) (roty q 1 0) e ∧ Gr w w' := by
  go_enter Try.func33, Try.ntmps33
  go_wp2
  clear hq
  go_loop [3, 8] (fun z i => ∃ k : Nat, k ≤ q ∧ i = .int .i64 k ∧ ∃ re im, Hid (Rep re (rotx k 1 0)) ∧ Hid (Rep im (roty k 1 0)) ∧ z = .complex .f64 re im) (fun _ i => q - (intOf i).toNat)
  case atStart => exact ⟨0, Nat.zero_le _, rfl, _, _, rep_one, rep_zero, rfl⟩
  case round =>
    obtain ⟨k, hk, rfl, re, im, hr, hi, rfl⟩ := hrel
    by_cases hlt2 : k < q
    · obtain ⟨s1, s2⟩ := rot_step k (by omega)
      have ab := rot_abs k
      obtain ⟨re', im', hc, g1, g2⟩ := rep_cmul hr.out hi.out rep_zero rep_one (by omega) (by omega) (by decide) (by decide)
      rw [← s1] at g1
      rw [← s2] at g2
      have hrun := run_cmul hc
      have G1 := Lib.hid g1
      have G2 := Lib.hid g2
      clear g1 g2 s1 s2 ab hc
      go_wp2
      go_round
      case rel => exact ⟨k + 1, by omega, by go_num, re', im', G1.out, G2.out, rfl⟩
      case measure => simp [intOf]; omega
    · obtain rfl : k = q := by omega
      go_wp2
      go_ret
      exact ⟨⟨re, im, hr.out, hi.out, rfl⟩, Gr.refl _⟩

theorem quarters_any (n : Int) (w : World) :
    Calls Try.prog 33 #[.int .i64 n] w fun e w' => RetC (rotx (quad n) 1 0) (roty (quad n) 1 0) e ∧ Gr w w' := by
  refine quarters_at n (quad n) ?_ (quad_lt n) w
  have h1 : -4 < n.tmod 4 := Int.lt_tmod_of_pos n (by omega)
  have h2 : n.tmod 4 < 4 := Int.tmod_lt_of_pos n (by omega)
  have e : wrap64 (n.tmod 4 + 4) = n.tmod 4 + 4 := by unfold wrap64; omega
  rw [e, quad_go]

end Go.Proofs.Ytiidgmlmfjlaiaa
