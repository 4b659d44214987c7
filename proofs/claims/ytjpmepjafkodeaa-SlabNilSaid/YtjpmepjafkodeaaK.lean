/-
  Walk: the document's example of the slab.
-/
import Derived.Test.YtjpmepjafkodeaaJ
namespace Go.Proofs.Ytjpmepjafkodeaa
open Go.RowKit

theorem op_up {T : TypeId} {g : Nat} {r : Int × SM} {w0 w w' : World} {e : Ending} (h0 : Gr w0 w) (h : OpPost T (fun x => w0.heap.size ≤ x) g r w e w') :
    e = .returned (.int .i64 r.1) ∧ SlM T w' (fun x => w0.heap.size ≤ x) g r.2 ∧ Gr w0 w' := by
  obtain ⟨he, F', hS, ht, hF⟩ := h
  exact ⟨he, hS.mono (fun x hx => (hF x hx).elim id fun h => Nat.le_trans h0.size h), ht.to_gr h0 (fun _ hx => hx)⟩

theorem new_sl (w0 w : World) (h0 : Gr w0 w) : SlM 74 (w.alloc (.cells #[.slice none 0 0, .slice none 0 0, .int .i64 0, .int .i64 (-1), .bool false] 74)) (fun x => w0.heap.size ≤ x) w.heap.size ⟨[], [], 0, -1, false⟩ :=
  ⟨.slice none 0 0, .slice none 0 0, Blk.new _ _ _, World.ownsRow_nil _ _ _ _, World.ownsRow_nil _ _ _ _, nil_own _, nil_own _, fun _ _ => nil_own _, h0.size, fun k hk => absurd hk (nil_own k), fun k hk => absurd hk (nil_own k)⟩

/-- two bytes just laid -/
theorem rd_two (w : World) (a b : UInt8) (x y : Int) (hx : x = (a.toNat : Int)) (hy : y = (b.toNat : Int)) : Rd (w.alloc (.cells #[.int .u8 x, .int .u8 y] 5 (2, 3))) (some ⟨w.heap.size, 0, none⟩) (bv [a, b]) := by
  subst hx hy
  refine .inr ⟨_, _, rfl, fun j u hu => ?_⟩
  have hb := heap_alloc_new w (.cells #[.int .u8 (a.toNat : Int), .int .u8 (b.toNat : Int)] 5 (2, 3))
  rw [Nat.zero_add]
  have : ∀ j, (w.alloc (.cells #[.int .u8 (a.toNat : Int), .int .u8 (b.toNat : Int)] 5 (2, 3))).cell? ⟨w.heap.size, j, none⟩ = #[Value.int .u8 (a.toNat : Int), .int .u8 (b.toNat : Int)][j]? := by
    intro j; simp only [World.cell?, hb]; rfl
  rw [this j]
  simpa [bv] using hu

theorem conv_new (w : World) (C : Array Value) (n c : Nat) : Sem.run Try.prog (convert 25 25 (.slice (some ⟨w.heap.size, 0, none⟩) n c)) (w.alloc (.cells C 5)) =
    .ok (.slice (some ⟨w.heap.size, 0, none⟩) n c) (w.alloc (.cells C 5 (C.size, C.size + 1))) := by
  have hsh : (w.alloc (.cells C 5)).shape? w.heap.size = some (5, C.size) := by
    have : (w.alloc (.cells C 5)).heap[w.heap.size]? = some (.cells C 5) := heap_alloc_new w _
    unfold World.shape?
    rw [this]
  have hfr : (w.alloc (.cells C 5)).freeze ⟨w.heap.size, C.size, none⟩ 1 = w.alloc (.cells C 5 (C.size, C.size + 1)) := by
    have hm : ∀ (a : Array Obj) (x : Obj) (f : Obj → Obj), (a.push x).modify a.size f = a.push (f x) := by
      intro a x f
      apply Array.ext
      · simp
      · intro i h1 h2
        simp only [Array.getElem_modify, Array.getElem_push]
        by_cases h : a.size = i
        · subst h
          simp
        · have hi : i < a.size := by simp at h1; omega
          simp [h, hi]
    unfold World.freeze
    rw [if_neg (by decide)]
    show ({ w.alloc (.cells C 5) with heap := (w.heap.push (.cells C 5)).modify w.heap.size _ } : World) = _
    rw [hm]
    rfl
  simp [convert, run_underlying Try.underlying25, run_underlying Try.underlying5, markStringish, hsh]
  exact hfr

set_option maxHeartbeats 16000000 in
set_option maxRecDepth 100000 in
theorem awake16_any (w : World) : Calls Try.prog 19 #[] w fun e w' => e = .returned (.bool true) ∧ Gr w w' := by
  have hcv := conv_new
  go_enter Try.func19, Try.ntmps19
  go_wp2_with fail
  refine (new_any _).mono ?_
  rintro e w1 ⟨rfl, rfl⟩
  have S0 := Lib.hid (new_sl w w (Gr.refl w))
  obtain ⟨w1, hw1⟩ : ∃ w1, w1 = w.alloc (.cells #[.slice none 0 0, .slice none 0 0, .int .i64 0, .int .i64 (-1), .bool false] 74) := ⟨_, rfl⟩
  have G0 : Gr w w1 := by rw [hw1]; exact (Gr.refl w).alloc _
  rw [← hw1] at S0 ⊢
  clear hw1
  go_wp2_with fail
  refine (append_any _ _ _ [97, 98] _ 2 2 _ ⟨by decide, by decide, by decide, by decide⟩ (S0.out.gr ((Gr.refl w1).alloc _)) rfl (by decide) (rd_two w1 97 98 97 98 (by decide) (by decide))).mono ?_
  intro e w2 h
  obtain ⟨rfl, S1, G1⟩ := op_up (G0.alloc _) h
  have S1 := Lib.hid (show SlM _ w2 _ _ ⟨[], [97, 98], 1, -1, false⟩ from S1)
  clear h S0
  go_wp2_with fail
  refine (sync_any _ _ _ _ ⟨by decide, by decide, by decide, by decide⟩ S1.out).mono ?_
  intro e w3 h
  obtain ⟨rfl, S2, G2⟩ := op_up G1 h
  have S2 := Lib.hid (show SlM _ w3 _ _ ⟨[97, 98], [], 2, -1, false⟩ from S2)
  clear h S1
  go_wp2_with fail
  refine (append_any _ _ _ [99, 100] _ 2 2 _ ⟨by decide, by decide, by decide, by decide⟩ (S2.out.gr ((Gr.refl w3).alloc _)) rfl (by decide) (rd_two w3 99 100 99 100 (by decide) (by decide))).mono ?_
  intro e w4 h
  obtain ⟨rfl, S3, G3⟩ := op_up (G2.alloc _) h
  have S3 := Lib.hid (show SlM _ w4 _ _ ⟨[97, 98], [99, 100], 3, -1, false⟩ from S3)
  clear h S2
  go_wp2_with fail
  refine (crash_any _ _ _ 1 1 _ ⟨by decide, by decide, by decide, by decide⟩ S3.out).mono ?_
  intro e w5 h
  obtain ⟨rfl, S4, G4⟩ := op_up G3 h
  have S4 := Lib.hid (show SlM _ w5 _ _ ⟨[97, 98, 99, 0], [], 3, -1, false⟩ from S4)
  clear h S3
  go_wp2_with fail
  refine (read_any _ _ _ _ ⟨by decide, by decide, by decide, by decide⟩ S4.out).mono ?_
  intro e w6 h
  obtain ⟨hg6, h⟩ := h
  rcases h with ⟨hd, _⟩ | ⟨hd, A, c, rfl, ho⟩
  · exact absurd hd (by decide)
  · have hrd := Rd.own (own_base ho (Nat.zero_le _))
    have hrd : Rd w6 A (bv [97, 98, 99, 0]) := hrd
    obtain ⟨b, o, rfl, hc⟩ := hrd.at_ (by simp [bv])
    have hst : Sem.run Try.prog (convert 25 9 (.slice (some ⟨b, o, none⟩) 4 c)) w6 = .ok (.string ⟨#[97, 98, 99, 0]⟩) w6 :=
      run_convert_bytes_back w6 25 9 5 ⟨b, o, none⟩ c [97, 98, 99, 0] Try.underlying25 Try.underlying5 Try.underlying9 (fun j hj => by rw [addr_add]; exact hc j _ (by rw [bv, List.getElem?_map, List.getElem?_eq_getElem hj]; rfl))
    clear ho hc hrd hd
    show _
    go_wp2
    go_ret
    exact ⟨rfl, G4.trans hg6⟩

end Go.Proofs.Ytjpmepjafkodeaa
