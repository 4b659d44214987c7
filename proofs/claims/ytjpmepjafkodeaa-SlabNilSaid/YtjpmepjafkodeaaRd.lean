/-
  Slices that read as lists of cells.
-/
import Derived.Test.YtjpmepjafkodeaaMem
import Derived.Laws.OwnMore
namespace Go.Proofs.Ytjpmepjafkodeaa
open Go.RowKit

/-- from A on lie the cells xs -/
def Rd (w : World) (A : Option Addr) (xs : List Value) : Prop :=
  xs = [] ∨ ∃ b o, A = some ⟨b, o, none⟩ ∧ ∀ j u, xs[j]? = some u → w.cell? ⟨b, o + j, none⟩ = some u

theorem Rd.nil (w : World) (A : Option Addr) : Rd w A [] := .inl rfl
theorem Rd.gr {w w' : World} {A : Option Addr} {xs : List Value} (h : Rd w A xs) (k : Gr w w') : Rd w' A xs := by
  rcases h with h | ⟨b, o, e, hc⟩
  · exact .inl h
  · exact .inr ⟨b, o, e, fun j u hu => k.cell (hc j u hu)⟩
theorem Rd.at_ {w : World} {A : Option Addr} {xs : List Value} (h : Rd w A xs) (hne : xs ≠ []) : ∃ b o, A = some ⟨b, o, none⟩ ∧ ∀ j u, xs[j]? = some u → w.cell? ⟨b, o + j, none⟩ = some u := by
  rcases h with h | h
  · exact absurd h hne
  · exact h
theorem Rd.own {w : World} {base n c : Nat} {e : TypeId} {size : Nat} {A : Option Addr} {xs : List Value} (h : w.ownsRow base e size (.slice A n c) n xs) : Rd w A xs := by
  rcases h.2 with ⟨h0, hn⟩ | ⟨g, cap, cur, hv, _⟩
  · have hl := h.1
    rw [hn, Nat.zero_mul] at hl
    exact .inl (List.eq_nil_of_length_eq_zero hl)
  · injection hv with hA _ hcap
    subst hA
    refine .inr ⟨g, 0, rfl, fun j u hu => ?_⟩
    have := h.cells (g := g) rfl j u hu
    have e : (⟨g, 0, none⟩ : Addr).add j = ⟨g, 0 + j, none⟩ := by unfold Addr.add; split <;> simp_all
    rwa [e] at this

/-- pairs of ints, cell by cell -/
def pairCells (l : List (Int × Int)) : List Value := l.flatMap fun p => [.int .i64 p.1, .int .i64 p.2]

theorem pairCells_length (l : List (Int × Int)) : (pairCells l).length = l.length * 2 := by
  induction l with
  | nil => rfl
  | cons p l ih => simp only [pairCells, List.flatMap_cons, List.length_append, List.length_cons, List.length_nil] at ih ⊢; omega
theorem pairCells_append (l m : List (Int × Int)) : pairCells (l ++ m) = pairCells l ++ pairCells m := by simp [pairCells]
theorem pairCells_get (l : List (Int × Int)) : ∀ i, i < l.length → (pairCells l)[i * 2]? = some (.int .i64 (l.getD i (0, 0)).1) ∧ (pairCells l)[i * 2 + 1]? = some (.int .i64 (l.getD i (0, 0)).2) := by
  induction l with
  | nil => intro i h; simp at h
  | cons p l ih =>
    intro i h
    cases i with
    | zero => exact ⟨rfl, rfl⟩
    | succ i =>
      have := ih i (by simpa using h)
      have e1 : (i + 1) * 2 = i * 2 + 1 + 1 := by omega
      have e2 : pairCells (p :: l) = .int .i64 p.1 :: .int .i64 p.2 :: pairCells l := rfl
      rw [e1, e2]
      simpa using this
theorem pairCells_nil {l : List (Int × Int)} (h : pairCells l = []) : l = [] := by
  have := pairCells_length l
  rw [h] at this
  exact List.eq_nil_of_length_eq_zero (by simp at this; omega)
theorem take_getD {α : Type} (l : List α) (d : α) (k : Nat) (h : k < l.length) : l.take (k + 1) = l.take k ++ [l.getD k d] := by
  rw [List.take_succ_eq_append_getElem h, List.getD_eq_getElem?_getD, List.getElem?_eq_getElem h]; rfl

/-- a pair out of a slice of pairs -/
theorem Rd.pair {w : World} {A : Option Addr} {l : List (Int × Int)} (h : Rd w A (pairCells l)) {k : Nat} (hk : k < l.length) :
    ∃ b o, A = some ⟨b, o, none⟩ ∧ w.cell? ⟨b, o + k * 2, none⟩ = some (.int .i64 (l.getD k (0, 0)).1) ∧ w.cell? ⟨b, o + k * 2 + 1, none⟩ = some (.int .i64 (l.getD k (0, 0)).2) := by
  obtain ⟨b, o, e, hc⟩ := h.at_ (fun e => by rw [pairCells_nil e] at hk; simp at hk)
  have hg := pairCells_get l k hk
  exact ⟨b, o, e, hc _ _ hg.1, by have := hc _ _ hg.2; rwa [← Nat.add_assoc] at this⟩

end Go.Proofs.Ytjpmepjafkodeaa
