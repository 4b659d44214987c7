/-
  Slices of spots as arguments.
-/
import Derived.Test.YtiidgmlmfjlaiaaO
import Derived.Test.YtiidgmlmfjlaiaaRd
import Derived.Deep.SlicePairs
import Derived.SizedLaws
import Derived.Test.YtiidgmlmfjlaiaaMem
import Derived.Laws.OwnMore
namespace Go.Proofs.Ytiidgmlmfjlaiaa
open Go.ChangeShapes Go.WideShapes Go.ChangeAt Go.RowKit Go.Joins Go.Deep

theorem spots_nil {H : Type} {enc : TypeId × Value → H} {W : World} {v : Value} {d : DataW H} {p : List MemPlace}
    (h : DataW.Trod enc Try.prog W 0 (fun _ => true) true 44 v d p) (hv : ∃ a len cap, v = .slice a len cap) :
    v = .slice none 0 0 ∨ ∃ (a : Addr) (l : List (Int × Int)) (len cap : Nat), v = .slice (some a) len cap ∧ l.length = len ∧ cap ≤ maxLen ∧ len ≤ cap ∧
      (∀ i, i < len → W.cell? (a.add (i * 2)) = some (.int .i64 (l.getD i (0, 0)).1) ∧ W.cell? (a.add (i * 2 + 1)) = some (.int .i64 (l.getD i (0, 0)).2)) ∧
      ∃ es sp, d = .slice es sp ∧ es.length = len := by
  obtain ⟨a0, n0, c0, rfl⟩ := hv
  obtain ⟨fuel, h⟩ := h
  rcases open_slice_pairs Try.underlying44 Try.underlying29 (by kernel_rfl) rfl rfl (by kernel_rfl) (by kernel_rfl) h with ⟨e, _⟩ | ⟨a, len, cap, m, n, V0, V1, D0, D1, P0, P1, e, _, hl, hm, hmm, hx, hi⟩
  · left
    simpa [Value.cells] using e
  · right
    have e' : Value.slice a0 n0 c0 = .slice (some a) len cap := by simpa [Value.cells] using e
    injection e' with e1 e2 e3
    subst e1 e2 e3
    have hlm : n0 ≤ m := by rw [hmm]; split <;> omega
    have key : ∀ i, i < n0 → ∃ q : Int × Int, W.cell? (a.add (i * 2)) = some (.int .i64 q.1) ∧ W.cell? (a.add (i * 2 + 1)) = some (.int .i64 q.2) := by
      intro i hin
      obtain ⟨c1, c2, t1, t2⟩ := hi i (by omega)
      obtain ⟨x, ex, _, _⟩ := DataW.trod_int Try.underlying3 t1
      obtain ⟨y, ey, _, _⟩ := DataW.trod_int Try.underlying3 t2
      simp at ex ey
      rw [ex] at c1
      rw [ey] at c2
      exact ⟨(x, y), c1, c2⟩
    obtain ⟨q, hq⟩ := choose_lt key
    refine ⟨a, (List.range n0).map q, n0, c0, rfl, by simp, hm, hl, fun i hin => ?_, _, _, congrArg Prod.fst hx, by simp⟩
    have : ((List.range n0).map q).getD i (0, 0) = q i := by simp [List.getD, hin]
    rw [this]
    exact hq i hin

theorem pairCells_some (l : List (Int × Int)) (j : Nat) (u : Value) (h : (pairCells l)[j]? = some u) :
    ∃ i, i < l.length ∧ ((j = i * 2 ∧ u = .int .i64 (l.getD i (0, 0)).1) ∨ (j = i * 2 + 1 ∧ u = .int .i64 (l.getD i (0, 0)).2)) := by
  have hj : j < l.length * 2 := by
    have := (List.getElem?_eq_some_iff.1 h).1
    rwa [pairCells_length] at this
  have hg := pairCells_get l (j / 2) (by omega)
  refine ⟨j / 2, by omega, ?_⟩
  rcases (by omega : j = j / 2 * 2 ∨ j = j / 2 * 2 + 1) with e | e
  · left
    refine ⟨e, ?_⟩
    rw [e] at h
    simpa [hg.1] using (hg.1.symm.trans h).symm
  · right
    refine ⟨e, ?_⟩
    rw [e] at h
    exact (Option.some.inj (hg.2.symm.trans h)).symm

theorem open_spots {H : Type} {enc : TypeId × Value → H} {W : World} {base : Nat} {v : Value} {d : DataW H} {p : List MemPlace}
    (hv : Value.okWide Try.prog W .any base 44 v) (h : DataW.Trod enc Try.prog W 0 (fun _ => true) true 44 v d p) :
    ∃ (A : Option Addr) (l : List (Int × Int)) (n c : Nat), v = .slice A n c ∧ l.length = n ∧ c ≤ maxLen ∧ n ≤ c ∧ Rd W A (pairCells l) ∧ (n = 0 ∨ ∃ es sp, d = .slice es sp ∧ es.length = n) := by
  obtain ⟨a0, n0, c0, rfl⟩ := okWide_slice Try.underlying44 hv
  rcases spots_nil h ⟨_, _, _, rfl⟩ with e | ⟨a, l, len, cap, e, hl, hc, hlc, hi, es, sp, hd, he⟩
  · injection e with e1 e2 e3
    subst e1 e2 e3
    exact ⟨none, [], 0, 0, rfl, rfl, Nat.zero_le _, Nat.le_refl _, .nil _ _, .inl rfl⟩
  · injection e with e1 e2 e3
    subst e1 e2 e3
    refine ⟨_, l, n0, c0, rfl, hl, hc, hlc, ?_, .inr ⟨es, sp, hd, he⟩⟩
    have hsp : a.spot = none := by
      simp only [Value.okWide, Try.underlying44, Cell.okWide, Cell.ok] at hv
      exact hv.2.2.2.1
    obtain ⟨b, o, s⟩ := a
    simp only at hsp
    subst hsp
    refine .inr ⟨b, o, rfl, fun j u hu => ?_⟩
    obtain ⟨i, hil, hh⟩ := pairCells_some l j u hu
    have hii := hi i (by omega)
    have ea : ∀ k, (⟨b, o, none⟩ : Addr).add k = ⟨b, o + k, none⟩ := by intro k; unfold Addr.add; split <;> simp_all
    rw [ea, ea] at hii
    rcases hh with ⟨rfl, rfl⟩ | ⟨rfl, rfl⟩
    · exact hii.1
    · exact hii.2

theorem spot_info : ∃ i0, Try.prog.info? 23 = some i0 ∧ i0.zero = some (.agg #[.int .i64 0, .int .i64 0]) ∧ i0.size = 2 ∧ i0.bytes = 16 :=
  ⟨(Try.prog.info? 23).get (by kernel_rfl), by kernel_rfl, by kernel_rfl, by kernel_rfl, by kernel_rfl⟩

theorem own_read {w : World} {base n : Nat} {e : TypeId} {v : Value} {l : List (Int × Int)} (h : w.ownsRow base e 2 v n (pairCells l)) : ∃ A c, v = .slice A n c ∧ Rd w A (pairCells l) := by
  rcases h.2 with ⟨rfl, rfl⟩ | ⟨g, cap, cur, rfl, _⟩
  · exact ⟨none, 0, rfl, Rd.own h⟩
  · exact ⟨_, cap, rfl, Rd.own h⟩

theorem gr_own {a w w' : World} {row : Option Nat} (h : Gr a w) (hg : w.grownBy w' row) (hrow : ∀ k, row = some k → a.heap.size ≤ k) : Gr a w' :=
  ⟨hg.os.trans h.os, hg.tape.trans h.tape, hg.output.trans h.output, Nat.le_trans h.size hg.size,
    fun i hi => (hg.block i (Nat.lt_of_lt_of_le hi h.size) (fun e => by have := hrow i e.symm; omega)).trans (h.block i hi)⟩

theorem own_gr {w w' : World} {base size n : Nat} {e : TypeId} {v : Value} {xs : List Value} (h : w.ownsRow base e size v n xs) (hg : Gr w w') : w'.ownsRow base e size v n xs :=
  h.kept (row := none) ⟨hg.os, hg.tape, hg.output, hg.size, fun k hk _ => hg.block k hk⟩ (by cases v.ownBlock <;> simp)

theorem looks_next {a w w1 : World} {e : TypeId} {v v' : Value} {l : List (Int × Int)} {k : Nat} (hk : k < l.length) (hg : Gr a w) (ho : w.ownsRow a.heap.size e 2 v k (pairCells (l.take k))) (hb : w.grownBy w1 v.ownBlock)
    (h1 : w1.ownsRow a.heap.size e 2 v' (k + 1) (pairCells (l.take k) ++ [.int .i64 (l.getD k (0, 0)).1, .int .i64 (l.getD k (0, 0)).2])) :
    w1.ownsRow a.heap.size e 2 v' (k + 1) (pairCells (l.take (k + 1))) ∧ Gr a w1 := by
  refine ⟨?_, gr_own hg hb fun g e => (ho.lt g e).1⟩
  rw [take_getD l (0, 0) k hk, pairCells_append]
  exact h1

end Go.Proofs.Ytiidgmlmfjlaiaa
