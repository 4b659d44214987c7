/-
  Small words on worlds that only grow.
-/
import Derived.WalkKit
import Derived.Deep.Draws
import Derived.Lib.Hide
namespace Go.Proofs.Ytjpmepjafkodeaa
open Go.RowKit

theorem ret_eq {u v : Value} (h : u = v) : Ending.returned u = .returned v := by rw [h]

/-- w' is w, grown: nothing that was there has turned -/
abbrev Gr (w w' : World) : Prop := Below w.heap.size w w'

theorem Gr.refl (w : World) : Gr w w := Below.refl _ _
theorem Gr.trans {a b c : World} (h : Gr a b) (k : Gr b c) : Gr a c := Below.trans h (Below.mono k h.size)
theorem Gr.alloc {a b : World} (h : Gr a b) (o : Obj) : Gr a (b.alloc o) := Below.alloc h h.size o
theorem Gr.drew {a b : World} (h : Gr a b) : Gr a b.drew := Below.drew h
theorem Gr.drewN {a b : World} (h : Gr a b) (n : Nat) : Gr a (b.drewN n) := ⟨h.os, h.tape, h.output, h.size, h.block⟩
theorem Gr.drawn {a b : World} (h : Gr a b) (n : Nat) : Gr a { b with drawn := n } := ⟨h.os, h.tape, h.output, h.size, h.block⟩
theorem Gr.set {a b : World} (h : Gr a b) {p : Addr} (hp : a.heap.size ≤ p.block) (v : Value) : Gr a (b.setCell p v) := Below.setCell h hp v

theorem Gr.cell {a b : World} (h : Gr a b) {p : Addr} {v : Value} (hc : a.cell? p = some v) : b.cell? p = some v :=
  (Below.cell h (World.block_lt_of_cell? a p hc)).trans hc
theorem Gr.frozen {a b : World} (h : Gr a b) {p : Addr} {v : Value} (hc : a.cell? p = some v) : b.frozen? p = a.frozen? p :=
  Below.frozen h (World.block_lt_of_cell? a p hc)

/-- block g is just these cells, none of them frozen -/
def Blk (w : World) (g : Nat) (t : TypeId) (cs : Array Value) : Prop := w.heap[g]? = some (.cells cs t (0, 0))

theorem Blk.lt {w : World} {g : Nat} {t : TypeId} {cs : Array Value} (h : Blk w g t cs) : g < w.heap.size := by
  unfold Blk at h
  exact (Array.getElem?_eq_some_iff.1 h).1
theorem Blk.cell {w : World} {g : Nat} {t : TypeId} {cs : Array Value} (h : Blk w g t cs) (i : Nat) : w.cell? ⟨g, i, none⟩ = cs[i]? := by
  unfold Blk at h; simp [World.cell?, h]
theorem Blk.thaw {w : World} {g : Nat} {t : TypeId} {cs : Array Value} (h : Blk w g t cs) (i : Nat) : w.frozen? ⟨g, i, none⟩ = false := by
  unfold Blk at h; simp [World.frozen?, h]
theorem Blk.new (w : World) (t : TypeId) (cs : Array Value) : Blk (w.alloc (.cells cs t)) w.heap.size t cs := heap_alloc_new w _
theorem Blk.made {w w' : World} {t : TypeId} {cs : Array Value} {g : Nat} (hg : g = w.heap.size) (k : Gr (w.alloc (.cells cs t)) w') : Blk w' g t cs := by
  subst hg
  exact (k.block _ (Blk.new w t cs).lt).trans (Blk.new w t cs)
theorem Blk.gr {a b : World} {g : Nat} {t : TypeId} {cs : Array Value} (h : Blk a g t cs) (k : Gr a b) : Blk b g t cs := (k.block g h.lt).trans h
theorem Blk.alloc {w : World} {g : Nat} {t : TypeId} {cs : Array Value} (h : Blk w g t cs) (o : Obj) : Blk (w.alloc o) g t cs := h.gr ((Gr.refl w).alloc o)
theorem Blk.set {w : World} {g : Nat} {t : TypeId} {cs : Array Value} (h : Blk w g t cs) (i : Nat) (v : Value) : Blk (w.setCell ⟨g, i, none⟩ v) g t (cs.setIfInBounds i v) := by
  unfold Blk at *; simp [World.setCell, Array.getElem?_modify, h]
theorem Blk.far {w : World} {g : Nat} {t : TypeId} {cs : Array Value} (h : Blk w g t cs) {p : Addr} (hp : g ≠ p.block) (v : Value) : Blk (w.setCell p v) g t cs :=
  (Below.heap_setCell w p v g hp).trans h

theorem Blk.two {w : World} {g : Nat} {t : TypeId} {u v : Value} (h : Blk w g t #[u, v]) :
    w.cell? ⟨g, 0, none⟩ = some u ∧ w.cell? ⟨g, 1, none⟩ = some v ∧ w.frozen? ⟨g, 0, none⟩ = false ∧ w.frozen? ⟨g, 1, none⟩ = false ∧ g < w.heap.size :=
  ⟨h.cell 0, h.cell 1, h.thaw 0, h.thaw 1, h.lt⟩

theorem set_keep {w : World} {p q : Addr} {u v : Value} (hp : p.block ≠ q.block) (h : w.cell? q = some u) : (w.setCell p v).cell? q = some u :=
  (World.cell?_setCell_other w p q v (fun e => hp (by rw [e]))).trans h

end Go.Proofs.Ytjpmepjafkodeaa
