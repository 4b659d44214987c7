/-
  A slab in memory: what its block and its two rows hold; what a call may turn.
-/
import Derived.Test.YtjpmepjafkodeaaApp
namespace Go.Proofs.Ytjpmepjafkodeaa
open Go.RowKit

/-- bytes, cell by cell -/
def bv (l : List UInt8) : List Value := l.map fun b => .int .u8 (b.toNat : Int)
theorem bv_length (l : List UInt8) : (bv l).length = l.length := by simp [bv]
theorem bv_append (l m : List UInt8) : bv (l ++ m) = bv l ++ bv m := by simp [bv]
theorem bv_take (l : List UInt8) (k : Nat) : bv (l.take k) = (bv l).take k := by simp [bv]
theorem bv_one (l : List UInt8) : ∀ u ∈ bv l, u.oneCell' = true := by
  intro u hu
  simp only [bv, List.mem_map] at hu
  obtain ⟨b, _, rfl⟩ := hu
  rfl

/-- w' is w, but for the blocks of F, and grown -/
structure Tur (F : Nat → Prop) (w w' : World) : Prop where
  os : w'.os = w.os
  tape : w'.tape = w.tape
  output : w'.output = w.output
  size : w.heap.size ≤ w'.heap.size
  block : ∀ k, k < w.heap.size → ¬ F k → w'.heap[k]? = w.heap[k]?

/-- a slab: its block g, its rows in F -/
def Sl (T : TypeId) (w : World) (F : Nat → Prop) (g : Nat) (s l : List UInt8) (st fu : Int) (dn : Bool) : Prop :=
  ∃ vs vl, Blk w g T #[vs, vl, .int .i64 st, .int .i64 fu, .bool dn] ∧ w.ownsRow 0 5 1 vs s.length (bv s) ∧ w.ownsRow 0 5 1 vl l.length (bv l) ∧
    vs.ownBlock ≠ some g ∧ vl.ownBlock ≠ some g ∧ (∀ k, vs.ownBlock = some k → vl.ownBlock ≠ some k) ∧ F g ∧ (∀ k, vs.ownBlock = some k → F k) ∧ (∀ k, vl.ownBlock = some k → F k)

theorem Tur.refl (F : Nat → Prop) (w : World) : Tur F w w := ⟨rfl, rfl, rfl, Nat.le_refl _, fun _ _ _ => rfl⟩
theorem Tur.trans {F G : Nat → Prop} {a b c : World} (h : Tur F a b) (k : Tur G b c) (hG : ∀ x, G x → F x ∨ a.heap.size ≤ x) : Tur F a c :=
  ⟨k.os.trans h.os, k.tape.trans h.tape, k.output.trans h.output, Nat.le_trans h.size k.size, fun x hx hn =>
    (k.block x (Nat.lt_of_lt_of_le hx h.size) (fun hg => by rcases hG x hg with h1 | h1; exact hn h1; omega)).trans (h.block x hx hn)⟩
theorem Tur.gr {F : Nat → Prop} {a b : World} (h : Gr a b) : Tur F a b := ⟨h.os, h.tape, h.output, h.size, fun x hx _ => h.block x hx⟩
theorem Tur.to_gr {F : Nat → Prop} {a b : World} (h : Tur F a b) {w : World} (hw : Gr w a) (hF : ∀ x, F x → w.heap.size ≤ x) : Gr w b :=
  ⟨h.os.trans hw.os, h.tape.trans hw.tape, h.output.trans hw.output, Nat.le_trans hw.size h.size, fun x hx =>
    (h.block x (Nat.lt_of_lt_of_le hx hw.size) (fun hf => by have := hF x hf; omega)).trans (hw.block x hx)⟩

theorem Blk.tur {F : Nat → Prop} {a b : World} {g : Nat} {t : TypeId} {cs : Array Value} (h : Blk a g t cs) (k : Tur F a b) (hn : ¬ F g) : Blk b g t cs := (k.block g h.lt hn).trans h
theorem own_tur {F : Nat → Prop} {a b : World} {base size n : Nat} {e : TypeId} {v : Value} {xs : List Value} (h : a.ownsRow base e size v n xs) (k : Tur F a b) (hn : ∀ x, v.ownBlock = some x → ¬ F x) : b.ownsRow base e size v n xs := by
  refine ⟨h.1, ?_⟩
  rcases h.2 with h0 | ⟨g, cap, cur, rfl, hb, hg, rest⟩
  · exact .inl h0
  · exact .inr ⟨g, cap, cur, rfl, hb, (k.block g (Array.getElem?_eq_some_iff.1 hg).1 (hn g (by simp [Value.ownBlock]))).trans hg, rest⟩
/-- another slab is kept -/
theorem Sl.tur {T : TypeId} {F G : Nat → Prop} {a b : World} {g : Nat} {s l : List UInt8} {st fu : Int} {dn : Bool} (h : Sl T a F g s l st fu dn) (k : Tur G a b) (hd : ∀ x, F x → ¬ G x) : Sl T b F g s l st fu dn := by
  obtain ⟨vs, vl, hb, os, ol, n1, n2, n3, f1, f2, f3⟩ := h
  exact ⟨vs, vl, hb.tur k (hd g f1), own_tur os k (fun x hx => hd x (f2 x hx)), own_tur ol k (fun x hx => hd x (f3 x hx)), n1, n2, n3, f1, f2, f3⟩
theorem Sl.gr {T : TypeId} {F : Nat → Prop} {a b : World} {g : Nat} {s l : List UInt8} {st fu : Int} {dn : Bool} (h : Sl T a F g s l st fu dn) (k : Gr a b) : Sl T b F g s l st fu dn :=
  h.tur (Tur.gr (F := fun _ => False) k) (fun _ _ h => h)
theorem Sl.mono {T : TypeId} {F F' : Nat → Prop} {a : World} {g : Nat} {s l : List UInt8} {st fu : Int} {dn : Bool} (h : Sl T a F g s l st fu dn) (hF : ∀ x, F x → F' x) : Sl T a F' g s l st fu dn := by
  obtain ⟨vs, vl, hb, os, ol, n1, n2, n3, f1, f2, f3⟩ := h
  exact ⟨vs, vl, hb, os, ol, n1, n2, n3, hF _ f1, fun k hk => hF _ (f2 k hk), fun k hk => hF _ (f3 k hk)⟩
/-- a slab's cells -/
theorem Sl.five {w : World} {g : Nat} {T : TypeId} {a b c d e : Value} (h : Blk w g T #[a, b, c, d, e]) :
    w.cell? ⟨g, 0, none⟩ = some a ∧ w.cell? ⟨g, 1, none⟩ = some b ∧ w.cell? ⟨g, 2, none⟩ = some c ∧ w.cell? ⟨g, 3, none⟩ = some d ∧ w.cell? ⟨g, 4, none⟩ = some e :=
  ⟨h.cell 0, h.cell 1, h.cell 2, h.cell 3, h.cell 4⟩

end Go.Proofs.Ytjpmepjafkodeaa
