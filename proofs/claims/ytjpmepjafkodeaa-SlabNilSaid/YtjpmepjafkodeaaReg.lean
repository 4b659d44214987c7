/-
  A rule for a region that draws its order: each operation is asked once, whatever stands ahead of it; what it leaves must outlive what the others do.
-/
import Derived.RegionTactic
import Derived.WalkKit
namespace Go.Proofs.Ytjpmepjafkodeaa.Rg
open Go.RowKit

section
variable {P : Program} {ops : Array Oper} {Q : Exit → Act → World → Prop}

/-- how many are not listed yet -/
def left (listed : Array Bool) : Nat := (listed.toList.filter (fun b => !b)).length

theorem left_set {listed : Array Bool} {i : Nat} (h : listed.getD i true = false) : left (listed.setIfInBounds i true) + 1 = left listed := by
  obtain ⟨l⟩ := listed
  unfold left
  simp only [List.setIfInBounds_toArray]
  simp only [Array.getD_eq_getD_getElem?, List.getElem?_toArray] at h
  induction l generalizing i with
  | nil => simp at h
  | cons b l ih =>
    cases i with
    | zero => simp at h; subst h; simp
    | succ i =>
      have := ih (i := i) (by simpa using h)
      cases b <;> simp at this ⊢ <;> omega

theorem left_zero {listed : Array Bool} (h : left listed = 0) (i : Nat) : listed.getD i true = true := by
  obtain ⟨l⟩ := listed
  unfold left at h
  simp only [Array.getD_eq_getD_getElem?, List.getElem?_toArray]
  induction l generalizing i with
  | nil => simp
  | cons b l ih =>
    cases b with
    | false => simp at h
    | true =>
      cases i with
      | zero => simp
      | succ i => simpa using ih i (by simpa using h)

theorem wpAny_inv (I : Array Bool → Act → World → Prop)
    (hstep : ∀ listed a w, I listed a w → ∀ i ∈ Region.ready .any ops listed, wpOp P ops Q i (I (listed.setIfInBounds i true)) a w)
    (hend : ∀ listed a w, I listed a w → Region.ready .any ops listed = [] → Q .normal a w) :
    ∀ fuel listed a w, left listed ≤ fuel → I listed a w → wpAny P .any ops Q fuel listed a w := by
  intro fuel
  induction fuel with
  | zero =>
    intro listed a w hl hI
    have h0 : Region.ready .any ops listed = [] := by
      rw [List.eq_nil_iff_forall_not_mem]
      intro j hj
      rw [mem_ready] at hj
      have := left_zero (Nat.le_zero.1 hl) j
      rw [hj.1] at this
      cases this
    exact ⟨h0, hend _ _ _ hI h0⟩
  | succ fuel ih =>
    intro listed a w hl hI
    refine ⟨hend _ _ _ hI, fun i hi => ?_⟩
    refine wpOp_mono (fun a' w' h => ih _ _ _ ?_ h) (hstep _ _ _ hI i hi)
    have := left_set (mem_ready.1 hi).1
    omega

/-- the slots with the written ones open -/
def fill (D : List Nat) (x : Nat → Value) : Nat → List Value → List Value
  | _, [] => []
  | k, v :: l => (if D.contains k = true then x k else v) :: fill D x (k + 1) l

theorem fill_length (D : List Nat) (x : Nat → Value) (l : List Value) : ∀ k, (fill D x k l).length = l.length := by
  induction l with
  | nil => intro k; rfl
  | cons v l ih => intro k; simp [fill, ih]

def upd (x : Nat → Value) (d : Nat) (v : Value) : Nat → Value := fun t => if t = d then v else x t

theorem fill_set (D : List Nat) (x : Nat → Value) (d : Nat) (v : Value) (hd : D.contains d = true) (l : List Value) :
    ∀ k, d < k + l.length → k ≤ d → (fill D x k l).set (d - k) v = fill D (upd x d v) k l := by
  induction l with
  | nil => intro k h1 h2; simp at h1; omega
  | cons u l ih =>
    intro k h1 h2
    by_cases e : d = k
    · subst e
      simp only [fill, Nat.sub_self, List.set_cons_zero, hd, if_true, upd]
      congr 1
      have aux : ∀ (l : List Value) j, d < j → fill D x j l = fill D (upd x d v) j l := by
        intro l
        induction l with
        | nil => intro j _; rfl
        | cons u l ih2 =>
          intro j hj
          simp only [fill]
          rw [ih2 (j + 1) (by omega)]
          congr 1
          unfold upd
          rw [if_neg (show ¬ j = d by omega)]
      exact aux l (d + 1) (by omega)
    · have h3 : d - k = (d - (k + 1)) + 1 := by omega
      rw [h3]
      simp only [fill, List.set_cons_succ]
      rw [ih (k + 1) (by simp at h1; omega) (by omega)]
      congr 1
      unfold upd
      rw [if_neg (show ¬ k = d by omega)]

theorem fill_self (D : List Nat) (l : List Value) : ∀ (k : Nat) (x : Nat → Value), (∀ i, i < l.length → x (k + i) = l.getD i undef) → fill D x k l = l := by
  induction l with
  | nil => intro k x _; rfl
  | cons v l ih =>
    intro k x h
    simp only [fill]
    have h0 := h 0 (by simp)
    simp at h0
    rw [h0, ih (k + 1) x (fun i hi => by have := h (i + 1) (by simp; omega); simpa [Nat.add_assoc, Nat.add_comm 1 i] using this)]
    simp

def frame (D : List Nat) (l0 : List Value) (ds : List Deferred) (x : Nat → Value) : Act := { tmps := (fill D x 0 l0).toArray, defers := ds }

theorem frame_put {D : List Nat} {l0 : List Value} {ds : List Deferred} {x : Nat → Value} {d : Nat} {v : Value} (hd : D.contains d = true) (hl : d < l0.length) :
    (frame D l0 ds x).put (some d) v = frame D l0 ds (upd x d v) := by
  unfold frame Act.put
  simp only [List.setIfInBounds_toArray]
  congr 2
  have := fill_set D x d v hd l0 0 (by omega) (by omega)
  simpa using this

/-- the value that an operation has left -/
def val (ops : Array Oper) (x : Nat → Value) (i : Nat) : Value :=
  match (ops[i]?).bind (·.dst) with
  | some d => x d
  | none => undef

/-- written slots unlike each other, and edges that lead back: a closed test -/
def good (ops : Array Oper) (D : List Nat) (n : Nat) : Bool :=
  (ops.toList.filterMap (·.dst) == D) && D.all (fun d => decide (d < n)) && D.eraseDups.length == D.length &&
  ops.toList.zipIdx.all fun p => p.1.after.toList.all fun e => !Region.binds .any e || decide (e.on < p.2)

theorem pairwise_ne_of_eraseDups : ∀ (D : List Nat), D.eraseDups.length = D.length → D.Pairwise (· ≠ ·) := by
  intro D
  induction D with
  | nil => intro _; exact List.Pairwise.nil
  | cons d D ih =>
    intro h
    rw [List.eraseDups_cons] at h
    simp only [List.length_cons] at h
    have h1 : (D.filter (fun b => !b == d)).length ≤ D.length := List.length_filter_le _ _
    have hlen : ∀ (l : List Nat), l.eraseDups.length ≤ l.length := by
      intro l
      induction hn : l.length using Nat.strongRecOn generalizing l with
      | ind n ih =>
        cases l with
        | nil => simp
        | cons a l =>
          rw [List.eraseDups_cons]
          simp only [List.length_cons] at hn ⊢
          have hf : (l.filter (fun b => !b == a)).length ≤ l.length := List.length_filter_le _ _
          have := ih _ (by omega) (l.filter (fun b => !b == a)) rfl
          omega
    have h2 := hlen (D.filter (fun b => !b == d))
    have h3 : (D.filter (fun b => !b == d)).length = D.length := by omega
    have h4 : D.filter (fun b => !b == d) = D := List.filter_eq_self.2 (by
      have := List.length_filter_eq_length_iff.1 h3
      exact this)
    rw [h4] at h
    refine List.Pairwise.cons (fun b hb => ?_) (ih (by omega))
    have := List.length_filter_eq_length_iff.1 h3 b hb
    intro e
    subst e
    simp at this

theorem filterMap_idx {α β : Type} (f : α → Option β) : ∀ (l : List α) (i j : Nat) (a b : α) (d : β), (l.filterMap f).Pairwise (· ≠ ·) → l[i]? = some a → l[j]? = some b → f a = some d → f b = some d → i = j := by
  intro l
  induction l with
  | nil => intro i j a b d _ h; simp at h
  | cons c l ih =>
    intro i j a b d hp hi hj ha hb
    cases i with
    | zero =>
      cases j with
      | zero => rfl
      | succ j =>
        simp at hi hj
        subst hi
        rw [List.filterMap_cons, ha] at hp
        have := (List.pairwise_cons.1 hp).1 d (List.mem_filterMap.2 ⟨b, List.mem_of_getElem? hj, hb⟩)
        exact absurd rfl this
    | succ i =>
      cases j with
      | zero =>
        simp at hi hj
        subst hj
        rw [List.filterMap_cons, hb] at hp
        have := (List.pairwise_cons.1 hp).1 d (List.mem_filterMap.2 ⟨a, List.mem_of_getElem? hi, ha⟩)
        exact absurd rfl this
      | succ j =>
        simp at hi hj
        have hp' : (l.filterMap f).Pairwise (· ≠ ·) := by
          rw [List.filterMap_cons] at hp
          split at hp
          · exact hp
          · exact (List.pairwise_cons.1 hp).2
        rw [ih i j a b d hp' hi hj ha hb]

theorem good_dst {D : List Nat} {n : Nat} (h : good ops D n = true) {i : Nat} {o : Oper} {d : Nat} (ho : ops[i]? = some o) (hd : o.dst = some d) :
    D.contains d = true ∧ d < n ∧ ∀ j o', ops[j]? = some o' → o'.dst = some d → i = j := by
  unfold good at h
  simp only [Bool.and_eq_true, beq_iff_eq, List.all_eq_true, decide_eq_true_eq] at h
  obtain ⟨⟨⟨h1, h2⟩, h3⟩, _⟩ := h
  have ho' : ops.toList[i]? = some o := by rw [Array.getElem?_toList]; exact ho
  have hmem : d ∈ D := by
    rw [← h1]
    exact List.mem_filterMap.2 ⟨o, List.mem_of_getElem? ho', hd⟩
  refine ⟨List.contains_iff_mem.2 hmem, h2 d hmem, fun j o' hj hd' => ?_⟩
  have hp := pairwise_ne_of_eraseDups D h3
  rw [← h1] at hp
  exact filterMap_idx (·.dst) ops.toList i j o o' d hp ho' (by rw [Array.getElem?_toList]; exact hj) hd hd'

theorem good_edge {D : List Nat} {n : Nat} (h : good ops D n = true) {i : Nat} {o : Oper} (ho : ops[i]? = some o) {e : Edge} (he : e ∈ o.after) (hb : Region.binds .any e = true) : e.on < i := by
  unfold good at h
  simp only [Bool.and_eq_true] at h
  have h4 := h.2
  rw [List.all_eq_true] at h4
  have ho' : ops.toList[i]? = some o := by rw [Array.getElem?_toList]; exact ho
  have hmem : (o, i) ∈ ops.toList.zipIdx := by
    rw [List.mem_zipIdx_iff_getElem?]; exact ho'
  have := h4 _ hmem
  rw [List.all_eq_true] at this
  have := this e (by simpa using he)
  simpa [hb] using this

/-- THE RULE. J: what the world may have become; E i: what operation i does to it; V i v w: what operation i leaves (its value, in a world), and what the others keep. -/
theorem wp_region_each {id : Nat} {l0 : List Value} {ds : List Deferred} {w0 : World} (D : List Nat) (J : World → Prop) (E : Nat → World → World → Prop) (V : Nat → Value → World → Prop)
    (hm : P.follows .mixedOrders = true) (hg : good ops D l0.length = true)
    (hJ0 : J w0.drew) (hJ : ∀ i w w', J w → E i w w' → J w')
    (hV : ∀ i j v w w', i ≠ j → J w → V i v w → E j w w' → V i v w')
    (hstep : ∀ i o, ops[i]? = some o → ∀ x w, J w → (∀ e ∈ o.after, Region.binds .any e = true → V e.on (val ops x e.on) w) →
      wpOp P ops Q i (fun a' w' => ∃ v, a' = (frame D l0 ds x).put o.dst v ∧ E i w w' ∧ V i (if o.dst.isSome then v else undef) w') (frame D l0 ds x) w)
    (hend : ∀ x w, J w → (∀ i, i < ops.size → V i (val ops x i) w) → Q .normal (frame D l0 ds x) w) :
    (Code.region id ops true).wp P Q { tmps := l0.toArray, defers := ds } w0 := by
  refine wp_region_any hm ?_
  refine wpAny_inv (fun listed a w => listed.size = ops.size ∧ ∃ x, a = frame D l0 ds x ∧ J w ∧ ∀ i, listed.getD i false = true → V i (val ops x i) w) ?_ ?_ _ _ _ _ ?_ ?_
  · rintro listed a w ⟨hsz, x, rfl, hR, hl⟩ i hi
    obtain ⟨h0, o, ho, hdep⟩ := mem_ready.1 hi
    refine wpOp_mono ?_ (hstep i o ho x w hR (fun e he hb => hl e.on (hdep e he hb)))
    rintro a' w' ⟨v, rfl, hR', hv⟩
    refine ⟨by simpa using hsz, ?_⟩
    cases hd : o.dst with
    | none =>
      rw [hd] at hv
      refine ⟨x, rfl, hJ _ _ _ hR hR', fun j hj => ?_⟩
      by_cases e : i = j
      · subst e
        have hv' : val ops x i = undef := by unfold val; simp [ho, hd]
        rw [hv']; simpa using hv
      · rw [getD_set_ne false e] at hj
        exact hV j i _ _ _ (Ne.symm e) hR (hl j hj) hR'
    | some d =>
      obtain ⟨hc, hlt, huniq⟩ := good_dst hg ho hd
      rw [hd] at hv
      refine ⟨upd x d v, frame_put hc hlt, hJ _ _ _ hR hR', fun j hj => ?_⟩
      by_cases e : i = j
      · subst e
        have hv' : val ops (upd x d v) i = v := by unfold val; simp [ho, hd, upd]
        rw [hv']; simpa using hv
      · rw [getD_set_ne false e] at hj
        have hvj : val ops (upd x d v) j = val ops x j := by
          unfold val
          cases hoj : ops[j]? with
          | none => rfl
          | some oj =>
            simp only [Option.bind_some]
            cases hdj : oj.dst with
            | none => rfl
            | some d' =>
              simp only [upd]
              rw [if_neg]
              intro hdd
              subst hdd
              exact e (huniq j oj hoj hdj)
        rw [hvj]
        exact hV j i _ _ _ (Ne.symm e) hR (hl j hj) hR'
  · rintro listed a w ⟨hsz, x, rfl, hR, hl⟩ hnil
    refine hend x w hR (fun i hi => ?_)
    suffices h : ∀ n i, i < n → i < ops.size → listed.getD i false = true from hl i (h (i + 1) i (by omega) hi)
    intro n
    induction n with
    | zero => intro i h; omega
    | succ n ih =>
      intro i hin his
      by_cases hli : listed.getD i false = true
      · exact hli
      · exfalso
        have hmem : i ∈ Region.ready .any ops listed := by
          rw [mem_ready]
          have hlt : i < listed.size := by omega
          refine ⟨?_, ops[i], Array.getElem?_eq_getElem his, fun e he hb => ?_⟩
          · simp [Array.getD_eq_getD_getElem?, hlt] at hli ⊢; exact hli
          · have := good_edge hg (Array.getElem?_eq_getElem his) he hb
            exact ih e.on (by omega) (by omega)
        rw [hnil] at hmem
        cases hmem
  · unfold left
    have h : ∀ n : Nat, ((Array.replicate n false).toList.filter (fun b => !b)).length ≤ n := by
      intro n
      refine Nat.le_trans (List.length_filter_le _ _) ?_
      simp
    exact h _
  · refine ⟨by simp, fun t => l0.getD t undef, ?_, hJ0, fun i hi => ?_⟩
    · unfold frame
      rw [fill_self D l0 0 _ (fun i _ => by simp)]
    · exfalso
      rw [Array.getD_eq_getD_getElem?] at hi
      by_cases h : i < ops.size
      · simp [h] at hi
      · simp [h] at hi

/-- an operation without a guard: its own run is asked -/
theorem wpOp_of {i : Nat} {o : Oper} {K : Act → World → Prop} {a : Act} {w : World} (ho : ops[i]? = some o) (hgd : o.guard = none) (h : o.wp P a w K Q) : wpOp P ops Q i K a w := by
  unfold wpOp
  simp only [ho]
  rw [if_pos (by simp [Region.wanted, hgd])]
  exact .inl h

/-- a guard that says yes -/
theorem wpOp_want {i : Nat} {o : Oper} {K : Act → World → Prop} {a : Act} {w : World} (ho : ops[i]? = some o) (hgd : Region.wanted o (yielded ops a.tmps) = true) (h : o.wp P a w K Q) : wpOp P ops Q i K a w := by
  unfold wpOp
  simp only [ho]
  rw [if_pos hgd]
  exact .inl h
/-- a guard that says no -/
theorem wpOp_skip {i : Nat} {o : Oper} {K : Act → World → Prop} {a : Act} {w : World} (ho : ops[i]? = some o) (hgd : Region.wanted o (yielded ops a.tmps) = false) (h : K (a.put o.dst undef) w) : wpOp P ops Q i K a w := by
  unfold wpOp
  simp only [ho]
  rw [if_neg (by rw [hgd]; decide)]
  exact h

/-- THE RULE, handed on: each operation goes on to whatever K takes what it leaves. -/
theorem wp_region_K {id : Nat} {l0 : List Value} {ds : List Deferred} {w0 : World} (D : List Nat) (J : World → Prop) (E : Nat → World → World → Prop) (V : Nat → Value → World → Prop)
    (hm : P.follows .mixedOrders = true) (hg : good ops D l0.length = true)
    (hJ0 : J w0.drew) (hJ : ∀ i w w', J w → E i w w' → J w')
    (hV : ∀ i j v w w', i ≠ j → J w → V i v w → E j w w' → V i v w')
    (hstep : ∀ i o, ops[i]? = some o → ∀ x w, J w → (∀ e ∈ o.after, Region.binds .any e = true → V e.on (val ops x e.on) w) →
      ∀ K : Act → World → Prop, (∀ v w', E i w w' → V i (if o.dst.isSome then v else undef) w' → K ((frame D l0 ds x).put o.dst v) w') → wpOp P ops Q i K (frame D l0 ds x) w)
    (hend : ∀ x w, J w → (∀ i, i < ops.size → V i (val ops x i) w) → Q .normal (frame D l0 ds x) w) :
    (Code.region id ops true).wp P Q { tmps := l0.toArray, defers := ds } w0 :=
  wp_region_each D J E V hm hg hJ0 hJ hV (fun i o ho x w hj hd => hstep i o ho x w hj hd _ (fun v _ hE hv => ⟨v, rfl, hE, hv⟩)) hend
/-- what an operation hangs on, directly -/
def deps (ops : Array Oper) (i : Nat) : List Nat :=
  match ops[i]? with
  | some o => o.after.toList.filterMap fun e => if Region.binds .any e then some e.on else none
  | none => []

/-- cl i: i and all that it hangs on: a closed test -/
def closed (ops : Array Oper) (cl : List (List Nat)) : Bool :=
  (List.range ops.size).all fun i => (cl.getD i []).all fun k => k == i || (deps ops i).any fun d => decide (d < i) && (cl.getD d []).contains k

def updO (x : Nat → Value) (d : Option Nat) (v : Value) : Nat → Value :=
  match d with
  | some d => upd x d v
  | none => x

theorem mem_deps {i : Nat} {o : Oper} {k : Nat} (ho : ops[i]? = some o) : k ∈ deps ops i ↔ ∃ e ∈ o.after, Region.binds .any e = true ∧ e.on = k := by
  unfold deps
  rw [ho]
  simp only [List.mem_filterMap, Array.mem_toList_iff]
  constructor
  · rintro ⟨e, he, h⟩
    by_cases hb : Region.binds .any e = true
    · rw [if_pos hb] at h
      exact ⟨e, he, hb, by simpa using h⟩
    · rw [if_neg hb] at h; cases h
  · rintro ⟨e, he, hb, rfl⟩
    exact ⟨e, he, by rw [if_pos hb]⟩

theorem closed_mem {cl : List (List Nat)} (hcl : closed ops cl = true) {i k : Nat} (hi : i < ops.size) (hk : k ∈ cl.getD i []) : k = i ∨ ∃ d ∈ deps ops i, d < i ∧ k ∈ cl.getD d [] := by
  unfold closed at hcl
  rw [List.all_eq_true] at hcl
  have h := hcl i (List.mem_range.2 hi)
  rw [List.all_eq_true] at h
  have h2 := h k hk
  rw [Bool.or_eq_true] at h2
  rcases h2 with h2 | h2
  · exact .inl (by simpa using h2)
  · obtain ⟨d, hd, h3⟩ := List.any_eq_true.1 h2
    rw [Bool.and_eq_true] at h3
    exact .inr ⟨d, hd, of_decide_eq_true h3.1, List.contains_iff_mem.1 h3.2⟩

theorem closed_listed {cl : List (List Nat)} (hcl : closed ops cl = true) {listed : Array Bool} (hsz : listed.size = ops.size) (hlc : ∀ i, listed.getD i false = true → ∀ k ∈ deps ops i, listed.getD k false = true) :
    ∀ n i, i < n → listed.getD i false = true → ∀ k ∈ cl.getD i [], listed.getD k false = true := by
  intro n
  induction n with
  | zero => intro i h; omega
  | succ n ih =>
    intro i hi hl k hk
    have his : i < ops.size := by
      rcases Nat.lt_or_ge i listed.size with h | h
      · omega
      · rw [Array.getD_eq_getD_getElem?, Array.getElem?_eq_none h] at hl; cases hl
    rcases closed_mem hcl his hk with rfl | ⟨d, hd, hdi, hkd⟩
    · exact hl
    · exact ih d (by omega) (hlc i hl d hd) k hkd

/-- THE RULE, where what an operation leaves speaks of what those have left that it hangs on. -/
theorem wp_region_D {id : Nat} {l0 : List Value} {ds : List Deferred} {w0 : World} (D : List Nat) (cl : List (List Nat)) (J : (Nat → Value) → World → Prop) (E : Nat → (Nat → Value) → World → World → Prop)
    (V : Nat → (Nat → Value) → World → Prop)
    (hm : P.follows .mixedOrders = true) (hg : good ops D l0.length = true) (hcl : closed ops cl = true)
    (hJ0 : J (fun t => l0.getD t undef) w0.drew)
    (hVd : ∀ i x x' w, (∀ k ∈ cl.getD i [], val ops x k = val ops x' k) → V i x w → V i x' w)
    (hV : ∀ i j x w w', i ≠ j → J x w → V i x w → E j x w w' → V i x w')
    (hstep : ∀ i o, ops[i]? = some o → ∀ x w, J x w → (∀ k ∈ cl.getD i [], k ≠ i → V k x w) →
      ∀ K : Act → World → Prop, (∀ v w', E i x w w' → J (updO x o.dst v) w' → V i (updO x o.dst v) w' → K ((frame D l0 ds x).put o.dst v) w') → wpOp P ops Q i K (frame D l0 ds x) w)
    (hend : ∀ x w, J x w → (∀ i, i < ops.size → V i x w) → Q .normal (frame D l0 ds x) w) :
    (Code.region id ops true).wp P Q { tmps := l0.toArray, defers := ds } w0 := by
  refine wp_region_any hm ?_
  refine wpAny_inv (fun listed a w => listed.size = ops.size ∧ (∀ i, listed.getD i false = true → ∀ k ∈ deps ops i, listed.getD k false = true) ∧
    ∃ x, a = frame D l0 ds x ∧ J x w ∧ ∀ i, listed.getD i false = true → V i x w) ?_ ?_ _ _ _ _ ?_ ?_
  · rintro listed a w ⟨hsz, hlc, x, rfl, hR, hl⟩ i hi
    obtain ⟨h0, o, ho, hdone⟩ := mem_ready.1 hi
    have his : i < ops.size := (Array.getElem?_eq_some_iff.1 ho).1
    have hil : i < listed.size := by omega
    have h0' : listed.getD i false = false := by
      rw [Array.getD_eq_getD_getElem?] at h0 ⊢
      simp [hil] at h0 ⊢
      exact h0
    have hdl : ∀ k ∈ deps ops i, listed.getD k false = true := by
      intro k hk
      obtain ⟨e, he, hb, rfl⟩ := (mem_deps ho).1 hk
      exact hdone e he hb
    refine hstep i o ho x w hR (fun k hk hne => ?_) _ ?_
    · rcases closed_mem hcl his hk with rfl | ⟨d, hd, hdi, hkd⟩
      · exact absurd rfl hne
      · exact hl k (closed_listed hcl hsz hlc (d + 1) d (by omega) (hdl d hd) k hkd)
    · rintro v w' hE hJ' hv
      refine ⟨by simpa using hsz, ?_, updO x o.dst v, ?_, hJ', ?_⟩
      · intro i' hi' k hk
        by_cases e : i = i'
        · subst e
          exact getD_set_true (hdl k hk)
        · rw [getD_set_ne false e] at hi'
          exact getD_set_true (hlc i' hi' k hk)
      · cases hd : o.dst with
        | none => rfl
        | some d =>
          obtain ⟨hc, hlt, _⟩ := good_dst hg ho hd
          exact frame_put hc hlt
      · intro j hj
        by_cases e : i = j
        · subst e; exact hv
        · rw [getD_set_ne false e] at hj
          refine hVd j x _ w' ?_ (hV j i x w w' (Ne.symm e) hR (hl j hj) hE)
          intro k hk
          have hkl := closed_listed hcl hsz hlc (j + 1) j (by omega) hj k hk
          have hki : k ≠ i := by
            rintro rfl
            rw [h0'] at hkl; cases hkl
          cases hd : o.dst with
          | none => rfl
          | some d =>
            obtain ⟨_, _, huniq⟩ := good_dst hg ho hd
            unfold val
            cases hok : ops[k]? with
            | none => rfl
            | some ok =>
              simp only [Option.bind_some]
              cases hdk : ok.dst with
              | none => rfl
              | some d' =>
                simp only [updO, upd]
                rw [if_neg]
                intro hdd
                subst hdd
                exact hki (huniq k ok hok hdk).symm
  · rintro listed a w ⟨hsz, hlc, x, rfl, hR, hl⟩ hnil
    refine hend x w hR (fun i hi => ?_)
    suffices h : ∀ n i, i < n → i < ops.size → listed.getD i false = true from hl i (h (i + 1) i (by omega) hi)
    intro n
    induction n with
    | zero => intro i h; omega
    | succ n ih =>
      intro i hin his
      by_cases hli : listed.getD i false = true
      · exact hli
      · exfalso
        have hmem : i ∈ Region.ready .any ops listed := by
          rw [mem_ready]
          have hlt : i < listed.size := by omega
          refine ⟨?_, ops[i], Array.getElem?_eq_getElem his, fun e he hb => ?_⟩
          · simp [Array.getD_eq_getD_getElem?, hlt] at hli ⊢; exact hli
          · have := good_edge hg (Array.getElem?_eq_getElem his) he hb
            exact ih e.on (by omega) (by omega)
        rw [hnil] at hmem
        cases hmem
  · unfold left
    have h : ∀ n : Nat, ((Array.replicate n false).toList.filter (fun b => !b)).length ≤ n := by
      intro n
      refine Nat.le_trans (List.length_filter_le _ _) ?_
      simp
    exact h _
  · have hf : ∀ i : Nat, ¬ (Array.replicate ops.size false).getD i false = true := by
      intro i hi
      rw [Array.getD_eq_getD_getElem?] at hi
      by_cases h : i < ops.size
      · simp [h] at hi
      · simp [h] at hi
    refine ⟨by simp, fun i hi => absurd hi (hf i), fun t => l0.getD t undef, ?_, hJ0, fun i hi => absurd hi (hf i)⟩
    unfold frame
    rw [fill_self D l0 0 _ (fun i _ => by simp)]
end
end Go.Proofs.Ytjpmepjafkodeaa.Rg
