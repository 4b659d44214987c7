/-
  The row of a law that only makes new memory: from its walk to the statement.
-/
import Derived.Test.YtjpmepjafkodeaaMem
import Derived.Test.YtjpmepjafkodeaaRows
import Derived.ProofKit
import Derived.OpenShut
import Derived.SizedLaws
import Derived.Carry
namespace Go.Proofs.Ytjpmepjafkodeaa.Row
open Go.ChangeShapes Go.WideShapes Go.ChangeAt Go.RowKit

theorem own : ownKnob Try.prog.godebug = none := by kernel_rfl
theorem laid : laidOutB Try.prog = true := by kernel_rfl

section
variable {H : Type} {enc : TypeId × Value → H} {P : Program}

/-- all arguments read behind the call as they did -/
theorem stays (hl : laidOutB P = true) {W W' : World} (hb : Gr W W') : ∀ {ts : List TypeId} {vs : List Value} {ds : List (DataW H)} {ps : List MemPlace},
    (∀ t ∈ ts, P.readableRec t = true ∧ t < P.types.size) → DataW.TrodAll enc P W 0 (fun _ => true) true ts vs ds ps → (∀ p ∈ ps, p.block < W.heap.size) →
    DataW.TrodAll enc P W' 0 (fun b => decide (b < W.heap.size)) true ts vs ds ps
  | [], [], [], _, _, h, _ => h
  | t :: ts, v :: vs, d :: ds, ps, hr, h, hp => by
    obtain ⟨p, q, h1, h2, e⟩ := h
    subst e
    exact ⟨p, q, Below.trod hl (hr t (List.mem_cons_self ..)).1 (hr t (List.mem_cons_self ..)).2 h1 hb (fun x hx => hp x (List.mem_append_left _ hx)),
      stays hl hb (fun t ht => hr t (List.mem_cons_of_mem _ ht)) h2 (fun x hx => hp x (List.mem_append_right _ hx)), rfl⟩

theorem trodAll_length : ∀ {ts : List TypeId} {vs : List Value} {ds : List (DataW H)} {ps : List MemPlace} {w : World} {b : Nat} {sp : Nat → Bool} {hd : Bool},
    DataW.TrodAll enc P w b sp hd ts vs ds ps → ds.length = ts.length ∧ vs.length = ts.length
  | [], [], [], _, _, _, _, _, _ => ⟨rfl, rfl⟩
  | t :: ts, v :: vs, d :: ds, ps, _, _, _, _, h => by
    obtain ⟨p, q, h1, h2, e⟩ := h
    have := trodAll_length h2
    simp [this.1, this.2]
end

/-- what a law's specification says -/
def Law (s : ChangeSpec) (n : Nat) : Prop := s.vars = [] ∧ ∀ (H : Type) (ds : List (DataW H)), ds.length = n → s.fn H ds = { results := [.lit (.bool true)], args := ds }

/-- what a law's walk says: whatever can be read -/
def Walk (K : FuncId) (fn : Func) : Prop :=
  ∀ (H : Type) (enc : TypeId × Value → H) (W : World) (base : Nat) (args : Array Value) (ds : List (DataW H)) (p : List MemPlace),
    (∀ (j : Nat) t v, fn.params[j]? = some t → args[j]? = some v → Value.okWide Try.prog W .any base t v) →
    DataW.TrodAll enc Try.prog W 0 (fun _ => true) true fn.params.toList args.toList ds p →
    (DataW.weightsEach Try.prog fn.params.toList ds).all (· ≤ reachBytes) = true →
    Calls Try.prog K args W fun e W' => e = .returned (.bool true) ∧ Gr W W'

theorem varTypes_nil {s : ChangeSpec} (h : s.vars = []) : s.plain.varTypes Try.prog = [] := by
  unfold DataSpec.varTypes
  have : s.plain.vars = [] := h
  rw [this]; rfl

set_option maxRecDepth 100000 in
theorem lifted {K : FuncId} {fn : Func} {s : ChangeSpec} (hfn : Try.prog.funcs[K]? = some fn) (hinit : Try.prog.inits.idxOf? K = none) (hres : fn.resultTypes = #[4])
    (hlaw : Law s fn.params.size) (hread : ∀ t ∈ fn.params.toList, Try.prog.readableRec t = true ∧ t < Try.prog.types.size) (walk : Walk K fn)
    (os : Os) (started : os.Started) (H : Type) (enc : TypeId × Value → H)
    (witness : ∃ (w : World) (tape : Tape) (i : Input), w.os = os ∧ (w.forCall tape i).Shaped Try.checked.prog ∧ i.vars = [] ∧ Input.okWide Try.checked.prog (w.forCall tape i) .any w.heap.size K i ∧
      s.pre6 enc Try.checked.prog fn [] false (w.forCall tape i).memory i.args ∧ ({} : Assume).holds Try.checked.prog (lone (Frame.enter Try.checked.prog K i.args .normal) [] (w.forCall tape i))) :
    ReturnsInHanded {} Try.checked os K .any (s.pre6 enc Try.prog fn [] false) (s.post enc Try.prog fn false true false false) := by
  refine returnsInHanded_of_change_sized (C := Try.checked) own started hinit hfn witness ?_
  intro W base args ds gs before hval hW _ hsz _
  have hW' := hW
  obtain ⟨p, q, hA, hV, rfl, hfz, hnd⟩ := hW
  rw [hlaw.1] at hV
  obtain ⟨rfl, rfl⟩ := trodVars_none hV
  have hv := varTypes_nil hlaw.1
  have hsz' : (DataW.weightsEach Try.prog fn.params.toList ds).all (· ≤ reachBytes) = true := by
    have h := hsz
    change (DataW.weightsEach Try.prog (fn.params.toList ++ s.plain.varTypes Try.prog) (ds ++ [])).all (· ≤ reachBytes) = true at h
    rw [hv, List.append_nil, List.append_nil] at h
    exact h
  refine (walk H enc W base args ds p hval hA hsz').mono fun e W' ⟨he, hg⟩ => ⟨_, he, ?_⟩
  have hlt : ∀ x ∈ p ++ [], x.block < W.heap.size := fun x hx => hW'.lt x hx
  have hd : ds.length = fn.params.size := by have := trodAll_length hA; simpa using this.1
  have hf : s.fn H (ds ++ []) = { results := [.lit (.bool true)], args := ds } := by rw [List.append_nil]; exact hlaw.2 H ds hd
  refine ⟨ds, [], p ++ [], [], p, [], hW', ?_, ?_, ?_, hg.frame _, fun h => by cases h⟩
  · rw [hf, hres]
    exact trodAll_mk1 (shut_bool Try.underlying4 _)
  · rw [hf]
    exact stays laid hg hread hA (fun x hx => hlt x (List.mem_append_left _ hx))
  · rw [hlaw.1, hf]
    rfl

end Go.Proofs.Ytjpmepjafkodeaa.Row
