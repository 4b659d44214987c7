/-
  Plain law: the spiral's spots, step by step; two of unlike numbers are unlike.
-/
namespace Go.Proofs.Ytiidgmlmfjlaiaa.Sp

/-- the way of a leg -/
def dx (leg : Nat) : Int := if leg % 4 = 0 then 1 else if leg % 4 = 2 then -1 else 0
def dy (leg : Nat) : Int := if leg % 4 = 1 then 1 else if leg % 4 = 3 then -1 else 0

/-- x, y, the leg, how many steps of it are done -/
structure St where
  x : Int
  y : Int
  leg : Nat
  i : Nat

def St.next (s : St) : St :=
  if s.i + 1 = s.leg / 2 + 1 then ⟨s.x + dx s.leg, s.y + dy s.leg, s.leg + 1, 0⟩ else ⟨s.x + dx s.leg, s.y + dy s.leg, s.leg, s.i + 1⟩

def sp : Nat → St
  | 0 => ⟨0, 0, 0, 0⟩
  | n + 1 => (sp n).next

/-- where a state lies, ring by ring; q: the ring's square -/
def Inv (k : Nat) (s : St) : Prop := ∃ j q : Nat, q = j * j ∧
  ((s.leg = 4 * j ∧ s.i < 2 * j + 1 ∧ s.y = -(j : Int) ∧ s.x = -(j : Int) + s.i ∧ k = 4 * q + 2 * j + s.i) ∨
   (s.leg = 4 * j + 1 ∧ s.i < 2 * j + 1 ∧ s.x = (j : Int) + 1 ∧ s.y = -(j : Int) + s.i ∧ k = 4 * q + 4 * j + 1 + s.i) ∨
   (s.leg = 4 * j + 2 ∧ s.i < 2 * j + 2 ∧ s.y = (j : Int) + 1 ∧ s.x = (j : Int) + 1 - s.i ∧ k = 4 * q + 6 * j + 2 + s.i) ∨
   (s.leg = 4 * j + 3 ∧ s.i < 2 * j + 2 ∧ s.x = -(j : Int) - 1 ∧ s.y = (j : Int) + 1 - s.i ∧ k = 4 * q + 8 * j + 4 + s.i))

theorem inv_zero : Inv 0 ⟨0, 0, 0, 0⟩ := ⟨0, 0, rfl, .inl ⟨rfl, by decide, rfl, rfl, rfl⟩⟩

theorem inv_next {k : Nat} {s : St} (h : Inv k s) : Inv (k + 1) s.next := by
  obtain ⟨x, y, leg, i⟩ := s
  obtain ⟨j, q, hq, h⟩ := h
  simp only at h
  rcases h with ⟨hl, hi, hy, hx, hk⟩ | ⟨hl, hi, hx, hy, hk⟩ | ⟨hl, hi, hy, hx, hk⟩ | ⟨hl, hi, hx, hy, hk⟩
  · have e1 : dx leg = 1 := by unfold dx; rw [if_pos (by omega)]
    have e2 : dy leg = 0 := by unfold dy; rw [if_neg (by omega), if_neg (by omega)]
    unfold St.next
    by_cases hc : i + 1 = leg / 2 + 1
    · simp only [hc, if_true, e1, e2]
      refine ⟨j, q, hq, .inr (.inl ?_)⟩; dsimp only; omega
    · simp only [hc, if_false, e1, e2]
      refine ⟨j, q, hq, .inl ?_⟩; dsimp only; omega
  · have e1 : dx leg = 0 := by unfold dx; rw [if_neg (by omega), if_neg (by omega)]
    have e2 : dy leg = 1 := by unfold dy; rw [if_pos (by omega)]
    unfold St.next
    by_cases hc : i + 1 = leg / 2 + 1
    · simp only [hc, if_true, e1, e2]
      refine ⟨j, q, hq, .inr (.inr (.inl ?_))⟩; dsimp only; omega
    · simp only [hc, if_false, e1, e2]
      refine ⟨j, q, hq, .inr (.inl ?_)⟩; dsimp only; omega
  · have e1 : dx leg = -1 := by unfold dx; rw [if_neg (by omega), if_pos (by omega)]
    have e2 : dy leg = 0 := by unfold dy; rw [if_neg (by omega), if_neg (by omega)]
    unfold St.next
    by_cases hc : i + 1 = leg / 2 + 1
    · simp only [hc, if_true, e1, e2]
      refine ⟨j, q, hq, .inr (.inr (.inr ?_))⟩; dsimp only; omega
    · simp only [hc, if_false, e1, e2]
      refine ⟨j, q, hq, .inr (.inr (.inl ?_))⟩; dsimp only; omega
  · have e1 : dx leg = 0 := by unfold dx; rw [if_neg (by omega), if_neg (by omega)]
    have e2 : dy leg = -1 := by unfold dy; rw [if_neg (by omega), if_pos (by omega)]
    unfold St.next
    by_cases hc : i + 1 = leg / 2 + 1
    · simp only [hc, if_true, e1, e2]
      have hq' : q + 2 * j + 1 = (j + 1) * (j + 1) := by rw [hq, Nat.add_mul, Nat.mul_add]; omega
      refine ⟨j + 1, q + 2 * j + 1, hq', .inl ?_⟩; dsimp only; omega
    · simp only [hc, if_false, e1, e2]
      refine ⟨j, q, hq, .inr (.inr (.inr ?_))⟩; dsimp only; omega

theorem inv_sp (k : Nat) : Inv k (sp k) := by
  induction k with
  | zero => exact inv_zero
  | succ k ih => exact inv_next ih

/-- two spots of unlike numbers are unlike -/
theorem sp_inj {n m : Nat} (hx : (sp n).x = (sp m).x) (hy : (sp n).y = (sp m).y) : n = m := by
  obtain ⟨j, q, hq, h⟩ := inv_sp n
  obtain ⟨j', q', hq', h'⟩ := inv_sp m
  have hj : j = j' := by
    rcases h with h | h | h | h <;> rcases h' with h' | h' | h' | h' <;> omega
  subst hj
  rw [← hq] at hq'
  rcases h with h | h | h | h <;> rcases h' with h' | h' | h' | h' <;> omega

theorem sp_i (k : Nat) : (sp k).i < (sp k).leg / 2 + 1 := by
  obtain ⟨j, q, hq, h⟩ := inv_sp k
  omega

theorem dx_cases (leg : Nat) : dx leg = 1 ∨ dx leg = 0 ∨ dx leg = -1 := by
  unfold dx; split
  · exact .inl rfl
  · split
    · exact .inr (.inr rfl)
    · exact .inr (.inl rfl)
theorem dy_cases (leg : Nat) : dy leg = 1 ∨ dy leg = 0 ∨ dy leg = -1 := by
  unfold dy; split
  · exact .inl rfl
  · split
    · exact .inr (.inr rfl)
    · exact .inr (.inl rfl)

theorem sp_bound (k : Nat) : (sp k).x.natAbs ≤ k ∧ (sp k).y.natAbs ≤ k ∧ (sp k).leg ≤ k := by
  induction k with
  | zero => exact ⟨by simp [sp], by simp [sp], by simp [sp]⟩
  | succ k ih =>
    obtain ⟨h1, h2, h3⟩ := ih
    have a := dx_cases (sp k).leg
    have b := dy_cases (sp k).leg
    simp only [sp, St.next]
    split <;> refine ⟨?_, ?_, ?_⟩ <;> simp only <;> omega

theorem sp_next (k : Nat) : sp (k + 1) = (sp k).next := rfl

/-- the turn of a quarter takes a leg's way to the next one's -/
theorem turn_x (leg : Nat) : dx (leg + 1) = - dy leg := by
  unfold dx dy
  rcases (by omega : leg % 4 = 0 ∨ leg % 4 = 1 ∨ leg % 4 = 2 ∨ leg % 4 = 3) with h | h | h | h
  all_goals
    have e : (leg + 1) % 4 = (leg % 4 + 1) % 4 := by omega
    rw [e, h]; decide
theorem turn_y (leg : Nat) : dy (leg + 1) = dx leg := by
  unfold dx dy
  rcases (by omega : leg % 4 = 0 ∨ leg % 4 = 1 ∨ leg % 4 = 2 ∨ leg % 4 = 3) with h | h | h | h
  all_goals
    have e : (leg + 1) % 4 = (leg % 4 + 1) % 4 := by omega
    rw [e, h]; decide

end Go.Proofs.Ytiidgmlmfjlaiaa.Sp
