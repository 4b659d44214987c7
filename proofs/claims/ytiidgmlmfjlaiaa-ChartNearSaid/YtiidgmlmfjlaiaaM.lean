/-
  Words for a statement that makes several spots at once.
-/
import Derived.Test.YtiidgmlmfjlaiaaL
namespace Go.Proofs.Ytiidgmlmfjlaiaa
open Go.RowKit Fl Rg Sp

/-- a pointer to a block of the call's own, of two cells -/
def PtrTo (t : TypeId) (w : World) (v : Value) : Prop := ∃ g, v = .pointer (some ⟨g, 0, none⟩) ∧ ∃ p q, Blk w g t #[p, q]
/-- a pointer to a spot -/
def HasSpot (t : TypeId) (w : World) (v : Value) (a b : Int) : Prop := ∃ g, v = .pointer (some ⟨g, 0, none⟩) ∧ Blk w g t #[.int .i64 a, .int .i64 b]
/-- not yet, or a pointer to a block of the call's own -/
def Pend (B : Nat) (w : World) (v : Value) : Prop := v = undef ∨ ∃ g, v = .pointer (some ⟨g, 0, none⟩) ∧ B ≤ g ∧ g < w.heap.size
def Apart (u v : Value) : Prop := ∀ g, u = .pointer (some ⟨g, 0, none⟩) → v = .pointer (some ⟨g, 0, none⟩) → False
/-- a store of a spot -/
def PutAt (v : Value) (w w' : World) : Prop := ∃ g p q, v = .pointer (some ⟨g, 0, none⟩) ∧ w' = (w.setCell ⟨g, 0, none⟩ p).setCell ⟨g, 1, none⟩ q

theorem size_put {v : Value} {w w' : World} (h : PutAt v w w') : w'.heap.size = w.heap.size := by
  obtain ⟨g, p, q, _, rfl⟩ := h
  simp [World.setCell]

theorem PtrTo.gr {t : TypeId} {w w' : World} {v : Value} (h : PtrTo t w v) (k : Gr w w') : PtrTo t w' v := by
  obtain ⟨g, e, p, q, hb⟩ := h
  exact ⟨g, e, p, q, hb.gr k⟩
theorem PtrTo.put {t : TypeId} {w w' : World} {u v : Value} (h : PtrTo t w v) (k : PutAt u w w') : PtrTo t w' v := by
  obtain ⟨g, e, p, q, hb⟩ := h
  obtain ⟨g', p', q', e', rfl⟩ := k
  by_cases hg : g = g'
  · subst hg
    exact ⟨g, e, p', q', (hb.set 0 p').set 1 q'⟩
  · exact ⟨g, e, p, q, (hb.far (p := ⟨g', 0, none⟩) hg p').far (p := ⟨g', 1, none⟩) hg q'⟩
theorem HasSpot.gr {t : TypeId} {w w' : World} {v : Value} {a b : Int} (h : HasSpot t w v a b) (k : Gr w w') : HasSpot t w' v a b := by
  obtain ⟨g, e, hb⟩ := h
  exact ⟨g, e, hb.gr k⟩
theorem HasSpot.put {t : TypeId} {w w' : World} {u v : Value} {a b : Int} (h : HasSpot t w v a b) (hne : Apart v u) (k : PutAt u w w') : HasSpot t w' v a b := by
  obtain ⟨g, e, hb⟩ := h
  obtain ⟨g', p', q', e', rfl⟩ := k
  have hg : g ≠ g' := by rintro rfl; exact hne g e e'
  exact ⟨g, e, (hb.far (p := ⟨g', 0, none⟩) hg p').far (p := ⟨g', 1, none⟩) hg q'⟩
theorem Pend.gr {B : Nat} {w w' : World} {v : Value} (h : Pend B w v) (k : w.heap.size ≤ w'.heap.size) : Pend B w' v := by
  rcases h with h | ⟨g, e, h1, h2⟩
  · exact .inl h
  · exact .inr ⟨g, e, h1, Nat.lt_of_lt_of_le h2 k⟩
theorem Pend.new {B : Nat} {w : World} (hB : B ≤ w.heap.size) (o : Obj) : Pend B (w.alloc o) (.pointer (some ⟨w.heap.size, 0, none⟩)) := .inr ⟨_, rfl, hB, by simp⟩
theorem Apart.new {B : Nat} {w : World} {v : Value} (h : Pend B w v) : Apart (.pointer (some ⟨w.heap.size, 0, none⟩)) v := by
  intro g h1 h2
  rcases h with h | ⟨g', e, _, h3⟩
  · rw [h] at h2; cases h2
  · rw [e] at h2
    injection h1 with h1
    injection h1 with h1
    injection h1 with h1
    injection h2 with h2
    injection h2 with h2
    injection h2 with h2
    omega
theorem Apart.symm {u v : Value} (h : Apart u v) : Apart v u := fun g h1 h2 => h g h2 h1
theorem Apart.undef_left (v : Value) : Apart undef v := fun g h1 _ => by cases h1
theorem gr_put {w0 w w' : World} {v : Value} (h : Gr w0 w) (hp : Pend w0.heap.size w v) (k : PutAt v w w') : Gr w0 w' := by
  obtain ⟨g, p, q, e, rfl⟩ := k
  rcases hp with hp | ⟨g', e', h1, _⟩
  · rw [hp] at e; cases e
  · rw [e] at e'
    injection e' with e'
    injection e' with e'
    injection e' with e'
    subst e'
    exact (h.set h1 _).set h1 _

end Go.Proofs.Ytiidgmlmfjlaiaa
