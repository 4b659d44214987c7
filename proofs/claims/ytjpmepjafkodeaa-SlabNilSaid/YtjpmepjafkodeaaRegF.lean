/-
  The rule for a region that draws its order, with the act as a letter: what its slots hold is told by facts.
-/
import Derived.Test.YtjpmepjafkodeaaReg
namespace Go.Proofs.Ytjpmepjafkodeaa.Rg
open Go.RowKit

section
variable {P : Program} {ops : Array Oper} {Q : Exit → Act → World → Prop}

/-- what the slots hold: the written ones x, the others l0 -/
structure Eva (D : List Nat) (l0 : List Value) (x : Nat → Value) (a : Act) : Prop where
  inn : ∀ t, D.contains t = true → decide (t < l0.length) = true → a.tmps[t]?.getD undef = x t
  out : ∀ t v, D.contains t = false → l0[t]? = some v → a.tmps[t]?.getD undef = v

theorem fill_get (D : List Nat) (x : Nat → Value) (l : List Value) : ∀ k t, (fill D x k l)[t]? = (l[t]?).map fun v => if D.contains (k + t) = true then x (k + t) else v := by
  induction l with
  | nil => intro k t; simp [fill]
  | cons v l ih =>
    intro k t
    cases t with
    | zero => simp [fill]
    | succ t =>
      simp only [fill, List.getElem?_cons_succ]
      rw [ih (k + 1) t]
      have e : k + 1 + t = k + (t + 1) := by omega
      rw [e]

theorem eva_frame (D : List Nat) (l0 : List Value) (ds : List Deferred) (x : Nat → Value) : Eva D l0 x (frame D l0 ds x) := by
  refine ⟨fun t hc ht => ?_, fun t v hc hv => ?_⟩
  · have ht := of_decide_eq_true ht
    have := fill_get D x l0 0 t
    simp only [Nat.zero_add, List.getElem?_eq_getElem ht, Option.map_some, hc, if_true] at this
    simp only [frame, List.getElem?_toArray, this, Option.getD_some]
  · have := fill_get D x l0 0 t
    simp only [Nat.zero_add, hv, Option.map_some, hc] at this
    simp only [frame, List.getElem?_toArray, this]
    simp

theorem yield_bool {a : Act} {k d : Nat} {b : Bool} (hk : (ops[k]?).bind (·.dst) = some d) (he : a.tmps[d]?.getD undef = .bool b) : yielded ops a.tmps k = some b := by
  unfold yielded
  simp only [hk, Option.bind_some]
  cases h : a.tmps[d]? with
  | none => rw [h] at he; simp [undef] at he
  | some v => rw [h] at he; simp at he; subst he; rfl
theorem yield_none {a : Act} {k d : Nat} (hk : (ops[k]?).bind (·.dst) = some d) (he : a.tmps[d]?.getD undef = undef) : yielded ops a.tmps k = none := by
  unfold yielded
  simp only [hk, Option.bind_some]
  cases h : a.tmps[d]? with
  | none => rfl
  | some v => rw [h] at he; simp at he; subst he; rfl

theorem wpF_want {i k : Nat} {b : Bool} {o : Oper} {K : Act → World → Prop} {a : Act} {w : World} (ho : ops[i]? = some o) (hgd : o.guard = some (k, b)) (hy : yielded ops a.tmps k = some b) (h : o.wp P a w K Q) : wpOp P ops Q i K a w :=
  wpOp_want ho (by unfold Region.wanted; rw [hgd]; simp [hy]) h
theorem wpF_skip {i k : Nat} {b : Bool} {o : Oper} {K : Act → World → Prop} {a : Act} {w : World} (ho : ops[i]? = some o) (hgd : o.guard = some (k, b)) (hy : yielded ops a.tmps k = some (!b)) (h : K (a.put o.dst undef) w) : wpOp P ops Q i K a w :=
  wpOp_skip ho (by unfold Region.wanted; rw [hgd]; simp [hy]) h
theorem wpF_skip0 {i k : Nat} {b : Bool} {o : Oper} {K : Act → World → Prop} {a : Act} {w : World} (ho : ops[i]? = some o) (hgd : o.guard = some (k, b)) (hy : yielded ops a.tmps k = none) (h : K (a.put o.dst undef) w) : wpOp P ops Q i K a w :=
  wpOp_skip ho (by unfold Region.wanted; rw [hgd]; simp [hy]) h

theorem wp_region_F {id : Nat} {l0 : List Value} {ds : List Deferred} {w0 : World} (D : List Nat) (cl : List (List Nat)) (J : (Nat → Value) → World → Prop) (E : Nat → (Nat → Value) → World → World → Prop)
    (V : Nat → (Nat → Value) → World → Prop)
    (hm : P.follows .mixedOrders = true) (hg : good ops D l0.length = true) (hcl : closed ops cl = true)
    (hJ0 : J (fun t => l0.getD t undef) w0.drew)
    (hVd : ∀ i x x' w, (∀ k ∈ cl.getD i [], val ops x k = val ops x' k) → V i x w → V i x' w)
    (hV : ∀ i j x w w', i ≠ j → J x w → V i x w → E j x w w' → V i x w')
    (hstep : ∀ i o, ops[i]? = some o → ∀ x w, J x w → (∀ k ∈ cl.getD i [], k ≠ i → V k x w) → ∀ a, Eva D l0 x a →
      ∀ K : Act → World → Prop, (∀ v w', E i x w w' → J (updO x o.dst v) w' → V i (updO x o.dst v) w' → K (a.put o.dst v) w') → wpOp P ops Q i K a w)
    (hend : ∀ x w, J x w → (∀ i, i < ops.size → V i x w) → Q .normal (frame D l0 ds x) w) :
    (Code.region id ops true).wp P Q { tmps := l0.toArray, defers := ds } w0 :=
  wp_region_D D cl J E V hm hg hcl hJ0 hVd hV (fun i o ho x w hJ hd K hK => hstep i o ho x w hJ hd _ (eva_frame D l0 ds x) K hK) hend

end
end Go.Proofs.Ytjpmepjafkodeaa.Rg
