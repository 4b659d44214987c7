/-
  Plain laws: the nearest one is as near as each; the other way is the other side.
-/
import Derived.Test.YtiidgmlmfjlaiaaT
import Derived.Test.YtiidgmlmfjlaiaaE
namespace Go.Proofs.Ytiidgmlmfjlaiaa
open Go.RowKit Fl Rg

/-- how far the k-th one is -/
def farK (tx ty : Int) (l : List (Int × Int)) (k : Nat) : Int := farP tx ty (l.getD k (0, 0)).1 (l.getD k (0, 0)).2

theorem near_best (tx ty : Int) (l : List (Int × Int)) (k : Nat) : ∀ j, j < k → 0 ≤ farK tx ty l j →
    ∃ m : Nat, m < k ∧ nearTo tx ty l k = ((m : Int), farK tx ty l m) ∧ farK tx ty l m ≤ farK tx ty l j := by
  induction k with
  | zero => intro j h; omega
  | succ k ih =>
    intro j hj h0
    have hstep : nearTo tx ty l (k + 1) = nearStep (farK tx ty l k) k (nearTo tx ty l k) := rfl
    by_cases hc : 0 ≤ farK tx ty l k ∧ ((nearTo tx ty l k).1 < 0 ∨ farK tx ty l k < (nearTo tx ty l k).2)
    · refine ⟨k, by omega, ?_, ?_⟩
      · rw [hstep]; unfold nearStep; rw [if_pos hc]
      · by_cases hjk : j = k
        · subst hjk; exact Int.le_refl _
        · obtain ⟨m, hm, e, hle⟩ := ih j (by omega) h0
          rw [e] at hc
          simp only at hc
          omega
    · have e1 : nearTo tx ty l (k + 1) = nearTo tx ty l k := by
        rw [hstep]; unfold nearStep; rw [if_neg hc]
      by_cases hjk : j = k
      · subst hjk
        rcases near_inv tx ty l j with hi | ⟨m, h1, h2, h3⟩
        · exact absurd ⟨h0, .inl (by rw [hi]; decide)⟩ hc
        · refine ⟨m, by omega, ?_, ?_⟩
          · rw [e1]; exact Prod.ext h1 h3
          · have : ¬ (farK tx ty l j < (nearTo tx ty l j).2) := fun h => hc ⟨h0, .inr h⟩
            rw [h3] at this
            have e : farP tx ty (l.getD m (0, 0)).1 (l.getD m (0, 0)).2 = farK tx ty l m := rfl
            rw [e] at this
            omega
      · obtain ⟨m, hm, e, hle⟩ := ih j (by omega) h0
        exact ⟨m, by omega, by rw [e1]; exact e, hle⟩

theorem near_law (tx ty : Int) (l : List (Int × Int)) (j : Nat) (hj : j < l.length) (h0 : 0 ≤ farP tx ty (l.getD j (0, 0)).1 (l.getD j (0, 0)).2) :
    ∃ m : Nat, m < l.length ∧ nearP tx ty l = (m : Int) ∧ farP tx ty (l.getD m (0, 0)).1 (l.getD m (0, 0)).2 ≤ farP tx ty (l.getD j (0, 0)).1 (l.getD j (0, 0)).2 := by
  obtain ⟨m, h1, h2, h3⟩ := near_best tx ty l l.length j hj h0
  exact ⟨m, h1, by unfold nearP; rw [h2], h3⟩

theorem cross_anti (ax ay bx by' cx cy : Int) : crossP bx by' ax ay cx cy = -crossP ax ay bx by' cx cy := by
  unfold crossP
  grind
theorem onW_swap (ax ay bx by' cx cy : Int) : onW bx by' ax ay cx cy = onW ax ay bx by' cx cy := by
  unfold onW
  cases inB ax ay <;> cases inB bx by' <;> simp
theorem side_anti (ax ay bx by' cx cy : Int) : sideP bx by' ax ay cx cy = -sideP ax ay bx by' cx cy := by
  unfold sideP
  rw [cross_anti, onW_swap]
  split
  · (repeat' split) <;> omega
  · rfl
theorem side_small (ax ay bx by' cx cy : Int) : -1 ≤ sideP ax ay bx by' cx cy ∧ sideP ax ay bx by' cx cy ≤ 1 := by
  unfold sideP
  split
  · split
    · omega
    · split <;> omega
  · omega

end Go.Proofs.Ytiidgmlmfjlaiaa
