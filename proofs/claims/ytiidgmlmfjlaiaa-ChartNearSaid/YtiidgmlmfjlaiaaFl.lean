/-
  Plain law: words of float64 that stand for whole numbers below 2^53 add, subtract, multiply, compare, turn their sign and are cut to int exactly.
-/
import Derived.Laws.ComplexArith
namespace Go.Proofs.Ytiidgmlmfjlaiaa.Fl
open Ieee

/-- a whole number with its sign -/
def sg (s : Bool) (m : Nat) : Int := if s then -(m : Int) else m

/-- the word b stands for the whole number n -/
def Rep (b : Nat) (n : Int) : Prop := ∃ (s : Bool) (M d : Nat), double.read b = .number s (M * 2 ^ d) (-(d : Int)) ∧ n = sg s M

theorem signed_eq (s : Bool) (m k : Nat) : signed s m k = sg s (m * 2 ^ k) := by
  unfold signed sg; rw [Nat.shiftLeft_eq]

theorem sg_mul (s : Bool) (m k : Nat) : sg s (m * k) = sg s m * k := by
  unfold sg; split <;> simp [Int.neg_mul]

theorem sg_natAbs (s : Bool) (m : Nat) : (sg s m).natAbs = m := by
  unfold sg; split <;> simp

theorem sg_self (n : Int) : sg (decide (n < 0)) n.natAbs = n := by
  unfold sg; split <;> rename_i h <;> simp at h <;> omega

theorem double_least : double.leastPlace = -1074 := by decide
theorem double_frac : double.fractionBits = 52 := rfl
theorem double_binade : double.binade = 4503599627370496 := by decide
theorem double_inf : double.infRung = 9218868437227405312 := by decide
theorem double_sign : double.signWeight = 9223372036854775808 := by decide

theorem word_div (s : Bool) (r : Nat) (h : r < 9223372036854775808) : (double.word s r / 9223372036854775808 % 2 == 1) = s ∧ double.word s r % 9223372036854775808 = r := by
  unfold Format.word
  rw [double_sign]
  cases s
  · simp only [Bool.false_eq_true, if_false]
    refine ⟨?_, by omega⟩
    have : r / 9223372036854775808 % 2 = 0 := by omega
    rw [this]; rfl
  · simp only [if_true]
    refine ⟨?_, by omega⟩
    have : (9223372036854775808 + r) / 9223372036854775808 % 2 = 1 := by omega
    rw [this]; rfl

theorem read_word_zero (s : Bool) : double.read (double.word s 0) = .number s 0 (-1074) := by
  unfold Format.read
  obtain ⟨h1, h2⟩ := word_div s 0 (by omega)
  rw [double_sign, double_binade, double_least]
  simp only [h1, h2]
  simp

/-- a normal word, read -/
theorem read_word (s : Bool) (E K : Nat) (h1 : 4503599627370496 ≤ K) (h2 : K < 9007199254740992) (hE : E < 2045) :
    double.read (double.word s (E * 4503599627370496 + K)) = .number s K (-1074 + (E : Int)) := by
  unfold Format.read
  obtain ⟨g1, g2⟩ := word_div s (E * 4503599627370496 + K) (by omega)
  rw [double_sign, double_binade, double_least, double_inf]
  simp only [g1, g2]
  rw [if_neg (by omega), if_pos (by omega)]
  have a1 : (E * 4503599627370496 + K) % 4503599627370496 = K - 4503599627370496 := by omega
  have a2 : (E * 4503599627370496 + K) / 4503599627370496 = E + 1 := by omega
  rw [a1, a2]
  have b1 : 4503599627370496 + (K - 4503599627370496) = K := by omega
  have b2 : (-1074 : Int) + ((E + 1 - 1 : Nat) : Int) = -1074 + (E : Int) := by omega
  rw [b1, b2]

theorem log2_mul_pow (M D : Nat) (h : 0 < M) : (M * 2 ^ D).log2 = M.log2 + D := by
  induction D with
  | zero => simp
  | succ D ih =>
    have e : M * 2 ^ (D + 1) = 2 * (M * 2 ^ D) := by rw [Nat.pow_succ, ← Nat.mul_assoc, Nat.mul_comm]
    have p : 0 < M * 2 ^ D := Nat.mul_pos h (Nat.two_pow_pos _)
    rw [e, Nat.log2_two_mul (by omega), ih]; omega

theorem log2_lt_53 (M : Nat) (h : 0 < M) (hM : M < 9007199254740992) : M.log2 ≤ 52 := by
  have : M.log2 < 53 := (Nat.log2_lt (by omega)).2 (by simpa using hM)
  omega

theorem pow_log2_le (M : Nat) (h : 0 < M) : 2 ^ M.log2 ≤ M := Nat.log2_self_le (by omega)

/-- the kept digits -/
theorem kept_bounds (M : Nat) (h : 0 < M) (hM : M < 9007199254740992) : 4503599627370496 ≤ M * 2 ^ (52 - M.log2) ∧ M * 2 ^ (52 - M.log2) < 9007199254740992 := by
  have hl := log2_lt_53 M h hM
  have h1 : 2 ^ M.log2 ≤ M := pow_log2_le M h
  have h2 : M < 2 ^ (M.log2 + 1) := Nat.lt_log2_self
  have p : 0 < 2 ^ (52 - M.log2) := Nat.two_pow_pos _
  have e1 : 2 ^ M.log2 * 2 ^ (52 - M.log2) = 4503599627370496 := by
    rw [← Nat.pow_add, show M.log2 + (52 - M.log2) = 52 by omega]
  have e2 : 2 ^ (M.log2 + 1) * 2 ^ (52 - M.log2) = 9007199254740992 := by
    rw [← Nat.pow_add, show M.log2 + 1 + (52 - M.log2) = 53 by omega]
  constructor
  · rw [← e1]; exact Nat.mul_le_mul_right _ h1
  · rw [← e2]; exact Nat.mul_lt_mul_of_pos_right h2 p

/-- an exact cut drops nothing -/
theorem cut_exact (way : Toward) (s : Bool) (M D : Nat) (h : 0 < M) : way.cut s (M * 2 ^ D) D = M := by
  unfold Toward.cut
  have hl : min D ((M * 2 ^ D).log2 + 2) = D := by rw [log2_mul_pow M D h]; omega
  rw [hl, Nat.shiftLeft_eq, Nat.one_mul]
  have hp : 0 < 2 ^ D := Nat.two_pow_pos _
  have h1 : M * 2 ^ D / 2 ^ D = M := Nat.mul_div_cancel _ hp
  have h2 : M * 2 ^ D % 2 ^ D = 0 := Nat.mul_mod_left _ _
  dsimp only
  rw [h1, h2]
  have hz : ¬ (2 ^ D < 2 * 0) := by omega
  have hz' : (2 ^ D == 2 * 0) = false := by rw [beq_eq_false_iff_ne]; omega
  cases way <;> simp
  all_goals omega

theorem cut_zero (way : Toward) (s : Bool) (n : Nat) : way.cut s n 0 = n := by
  unfold Toward.cut
  simp only [Nat.zero_min, Nat.shiftLeft_zero, Nat.div_one, Nat.mod_one]
  cases way <;> simp

/-- THE NEAREST WORD OF A WHOLE NUMBER BELOW 2^53 IS THAT NUMBER -/
theorem read_nearest (s : Bool) (M D : Nat) (h : 0 < M) (hM : M < 9007199254740992) :
    double.read (double.nearest s (M * 2 ^ D) (-(D : Int))) = .number s (M * 2 ^ (52 - M.log2)) (-((52 - M.log2 : Nat) : Int)) := by
  have hl := log2_lt_53 M h hM
  obtain ⟨k1, k2⟩ := kept_bounds M h hM
  have hne : M * 2 ^ D ≠ 0 := Nat.ne_of_gt (Nat.mul_pos h (Nat.two_pow_pos _))
  have hlast : max (-(D : Int) + ((M * 2 ^ D).log2 : Int) - (double.fractionBits : Int)) double.leastPlace = (M.log2 : Int) - 52 := by
    rw [log2_mul_pow M D h, double_least, double_frac]; omega
  have hk : Toward.even.cut s ((M * 2 ^ D) <<< (-(D : Int) - ((M.log2 : Int) - 52)).toNat) (((M.log2 : Int) - 52) - -(D : Int)).toNat = M * 2 ^ (52 - M.log2) := by
    rw [Nat.shiftLeft_eq]
    rcases Nat.lt_or_ge D (52 - M.log2) with hd | hd
    · have a1 : (-(D : Int) - ((M.log2 : Int) - 52)).toNat = 52 - M.log2 - D := by omega
      have a2 : (((M.log2 : Int) - 52) - -(D : Int)).toNat = 0 := by omega
      rw [a1, a2, cut_zero, Nat.mul_assoc, ← Nat.pow_add, show D + (52 - M.log2 - D) = 52 - M.log2 by omega]
    · have a1 : (-(D : Int) - ((M.log2 : Int) - 52)).toNat = 0 := by omega
      have a2 : (((M.log2 : Int) - 52) - -(D : Int)).toNat = D - (52 - M.log2) := by omega
      rw [a1, a2, Nat.pow_zero, Nat.mul_one]
      have e : M * 2 ^ D = (M * 2 ^ (52 - M.log2)) * 2 ^ (D - (52 - M.log2)) := by
        rw [Nat.mul_assoc, ← Nat.pow_add, show 52 - M.log2 + (D - (52 - M.log2)) = D by omega]
      rw [e]
      exact cut_exact _ _ _ _ (by omega)
  unfold Format.nearest
  rw [if_neg hne]
  simp only [hlast]
  rw [hk, double_least, double_binade, double_inf]
  have hE : ((M.log2 : Int) - 52 - -1074).toNat = M.log2 + 1022 := by omega
  rw [hE]
  have hmin : min ((M.log2 + 1022) * 4503599627370496 + M * 2 ^ (52 - M.log2)) 9218868437227405312 = (M.log2 + 1022) * 4503599627370496 + M * 2 ^ (52 - M.log2) := by omega
  rw [hmin, read_word s (M.log2 + 1022) _ k1 k2 (by omega)]
  have b2 : (-1074 : Int) + ((M.log2 + 1022 : Nat) : Int) = -((52 - M.log2 : Nat) : Int) := by omega
  rw [b2]

theorem rep_nought {b : Nat} {s : Bool} (h : double.read b = .number s 0 (-1074)) : Rep b 0 := by
  obtain ⟨d, hd⟩ : ∃ d : Nat, d = 1074 := ⟨1074, rfl⟩
  refine ⟨s, 0, d, ?_, ?_⟩
  · rw [h, Nat.zero_mul, hd]; rfl
  · cases s <;> rfl

theorem sg_zero (s : Bool) : sg s 0 = 0 := by cases s <;> rfl

theorem rep_write (s : Bool) (M D : Nat) (hM : M < 9007199254740992) : Rep (double.write (.number s (M * 2 ^ D) (-(D : Int)))) (sg s M) := by
  show Rep (double.nearest s (M * 2 ^ D) (-(D : Int))) (sg s M)
  rcases Nat.eq_zero_or_pos M with h0 | h
  · subst h0
    rw [sg_zero]
    refine rep_nought (s := s) ?_
    unfold Format.nearest
    rw [if_pos (Nat.zero_mul _), read_word_zero]
  · exact ⟨s, M, 52 - M.log2, read_nearest s M D h hM, rfl⟩

theorem rep_of_int (n : Int) (h : n.natAbs < 9007199254740992) : Rep (FloatKind.f64.nearest n) n := by
  have := rep_write (decide (n < 0)) n.natAbs 0 h
  rw [sg_self] at this
  simpa [FloatKind.nearest, FloatKind.encode, FloatKind.format] using this

theorem sum_eq (s t : Bool) (M N d e : Nat) :
    Datum.sum (.number s (M * 2 ^ d) (-(d : Int))) (.number t (N * 2 ^ e) (-(e : Int))) =
      some (.number (if sg s M + sg t N = 0 then s && t else decide (sg s M + sg t N < 0)) ((sg s M + sg t N).natAbs * 2 ^ max d e) (-((max d e : Nat) : Int))) := by
  have hmin : min (-(d : Int)) (-(e : Int)) = -((max d e : Nat) : Int) := by omega
  have h1 : (-(d : Int) - -((max d e : Nat) : Int)).toNat = max d e - d := by omega
  have h2 : (-(e : Int) - -((max d e : Nat) : Int)).toNat = max d e - e := by omega
  have e1 : M * 2 ^ d * 2 ^ (max d e - d) = M * 2 ^ max d e := by rw [Nat.mul_assoc, ← Nat.pow_add, show d + (max d e - d) = max d e by omega]
  have e2 : N * 2 ^ e * 2 ^ (max d e - e) = N * 2 ^ max d e := by rw [Nat.mul_assoc, ← Nat.pow_add, show e + (max d e - e) = max d e by omega]
  unfold Datum.sum
  simp only [hmin, h1, h2, signed_eq, e1, e2, sg_mul]
  generalize hP : (2 : Nat) ^ max d e = P
  have hpos : 0 < P := by rw [← hP]; exact Nat.two_pow_pos _
  have hpos' : (0 : Int) < (P : Int) := by omega
  rw [← Int.add_mul]
  have hz : ((sg s M + sg t N) * (P : Int) = 0) ↔ (sg s M + sg t N = 0) := by
    constructor
    · intro h; rcases Int.mul_eq_zero.1 h with h | h
      · exact h
      · omega
    · intro h; rw [h, Int.zero_mul]
  have hn : ((sg s M + sg t N) * (P : Int) < 0) ↔ (sg s M + sg t N < 0) := by
    constructor
    · intro h
      rcases Int.lt_or_le (sg s M + sg t N) 0 with g | g
      · exact g
      · have := Int.mul_nonneg g (Int.le_of_lt hpos'); omega
    · intro h; exact Int.mul_neg_of_neg_of_pos h hpos'
  have hab : ((sg s M + sg t N) * (P : Int)).natAbs = (sg s M + sg t N).natAbs * P := by rw [Int.natAbs_mul, Int.natAbs_natCast]
  rw [hab]
  congr 2
  by_cases h : sg s M + sg t N = 0
  · rw [if_pos (hz.2 h), if_pos h]
  · rw [if_neg (fun g => h (hz.1 g)), if_neg h]
    exact decide_eq_decide.2 hn

theorem sg_sign (a : Int) (u : Bool) : sg (if a = 0 then u else decide (a < 0)) a.natAbs = a := by
  by_cases h : a = 0
  · subst h; simp [sg]
  · rw [if_neg h]; exact sg_self a

theorem rep_sum {x y : Datum} {s t : Bool} {M N d e : Nat} (hx : x = .number s (M * 2 ^ d) (-(d : Int))) (hy : y = .number t (N * 2 ^ e) (-(e : Int)))
    (h : (sg s M + sg t N).natAbs < 9007199254740992) : ∃ r, (x.sum y).map double.write = some r ∧ Rep r (sg s M + sg t N) := by
  subst hx hy
  rw [sum_eq]
  refine ⟨_, rfl, ?_⟩
  have := rep_write (if sg s M + sg t N = 0 then s && t else decide (sg s M + sg t N < 0)) (sg s M + sg t N).natAbs (max d e) h
  rwa [sg_sign] at this

theorem rep_add {x y : Nat} {a b : Int} (hx : Rep x a) (hy : Rep y b) (h : (a + b).natAbs < 9007199254740992) : ∃ r, floatBits .add .f64 x y = some r ∧ Rep r (a + b) := by
  obtain ⟨s, M, d, h1, rfl⟩ := hx
  obtain ⟨t, N, e, h2, rfl⟩ := hy
  exact rep_sum h1 h2 h

theorem sg_not (s : Bool) (M : Nat) : sg (!s) M = - sg s M := by cases s <;> simp [sg]

theorem rep_sub {x y : Nat} {a b : Int} (hx : Rep x a) (hy : Rep y b) (h : (a - b).natAbs < 9007199254740992) : ∃ r, floatBits .sub .f64 x y = some r ∧ Rep r (a - b) := by
  obtain ⟨s, M, d, h1, rfl⟩ := hx
  obtain ⟨t, N, e, h2, rfl⟩ := hy
  rw [Int.sub_eq_add_neg, ← sg_not] at h ⊢
  exact rep_sum h1 (y := (double.read y).opposite) (by rw [h2]; rfl) h

theorem sg_xor (s t : Bool) (M N : Nat) : sg (s ^^ t) (M * N) = sg s M * sg t N := by
  cases s <;> cases t <;> simp [sg, Int.neg_mul, Int.mul_neg]

theorem rep_mul {x y : Nat} {a b : Int} (hx : Rep x a) (hy : Rep y b) (h : (a * b).natAbs < 9007199254740992) : ∃ r, floatBits .mul .f64 x y = some r ∧ Rep r (a * b) := by
  obtain ⟨s, M, d, h1, rfl⟩ := hx
  obtain ⟨t, N, e, h2, rfl⟩ := hy
  have hp : (double.read x).product (double.read y) = some (.number (s ^^ t) ((M * N) * 2 ^ (d + e)) (-((d + e : Nat) : Int))) := by
    rw [h1, h2]
    unfold Datum.product
    simp only
    congr 2
    · rw [Nat.pow_add]; simp only [Nat.mul_assoc, Nat.mul_left_comm]
    · omega
  have e1 : floatBits .mul .f64 x y = ((double.read x).product (double.read y)).map double.write := rfl
  rw [e1, hp]
  refine ⟨_, rfl, ?_⟩
  rw [← sg_xor] at h ⊢
  rw [sg_natAbs] at h
  exact rep_write _ _ _ h

theorem order_eq (s t : Bool) (M N d e : Nat) :
    Datum.order (.number s (M * 2 ^ d) (-(d : Int))) (.number t (N * 2 ^ e) (-(e : Int))) = some (compare (sg s M) (sg t N)) := by
  have hmin : min (-(d : Int)) (-(e : Int)) = -((max d e : Nat) : Int) := by omega
  have h1 : (-(d : Int) - -((max d e : Nat) : Int)).toNat = max d e - d := by omega
  have h2 : (-(e : Int) - -((max d e : Nat) : Int)).toNat = max d e - e := by omega
  have e1 : M * 2 ^ d * 2 ^ (max d e - d) = M * 2 ^ max d e := by rw [Nat.mul_assoc, ← Nat.pow_add, show d + (max d e - d) = max d e by omega]
  have e2 : N * 2 ^ e * 2 ^ (max d e - e) = N * 2 ^ max d e := by rw [Nat.mul_assoc, ← Nat.pow_add, show e + (max d e - e) = max d e by omega]
  unfold Datum.order
  simp only [hmin, h1, h2, signed_eq, e1, e2, sg_mul]
  generalize hP : (2 : Nat) ^ max d e = P
  have hpos' : (0 : Int) < (P : Int) := by have : 0 < P := by { rw [← hP]; exact Nat.two_pow_pos _ }; omega
  congr 1
  simp only [compare, compareOfLessAndEq]
  have hlt : (sg s M * (P : Int) < sg t N * (P : Int)) ↔ (sg s M < sg t N) :=
    ⟨fun h => Int.lt_of_mul_lt_mul_right h (Int.le_of_lt hpos'), fun h => Int.mul_lt_mul_of_pos_right h hpos'⟩
  have heq : (sg s M * (P : Int) = sg t N * (P : Int)) ↔ (sg s M = sg t N) :=
    ⟨fun h => Int.eq_of_mul_eq_mul_right (by omega) h, fun h => by rw [h]⟩
  simp only [hlt, heq]

theorem rep_order {x y : Nat} {a b : Int} (hx : Rep x a) (hy : Rep y b) : FloatKind.f64.format.order x y = some (compare a b) := by
  obtain ⟨s, M, d, h1, rfl⟩ := hx
  obtain ⟨t, N, e, h2, rfl⟩ := hy
  show Datum.order (double.read x) (double.read y) = _
  rw [h1, h2, order_eq]

theorem rep_toInt {x : Nat} {a : Int} (hx : Rep x a) : (FloatKind.f64.decode x).toInt .zero = some a := by
  obtain ⟨s, M, d, h1, rfl⟩ := hx
  show Datum.toInt .zero (double.read x) = _
  rw [h1]
  unfold Datum.toInt Datum.integral
  simp only
  have e1 : (-(d : Int)).toNat = 0 := by omega
  have e2 : (- -(d : Int)).toNat = d := by omega
  rw [e1, e2, Nat.shiftLeft_zero]
  have hc : Toward.zero.cut s (M * 2 ^ d) d = M := by
    rcases Nat.eq_zero_or_pos M with h0 | h
    · subst h0; rw [Nat.zero_mul]; unfold Toward.cut; simp
    · exact cut_exact _ _ _ _ h
  rw [hc, signed_eq]; simp

theorem rep_floatToInt {x : Nat} {a : Int} (hx : Rep x a) (h : a.natAbs < 9007199254740992) : floatToIntVal .f64 x .i64 = some a := by
  unfold floatToIntVal
  rw [rep_toInt hx]
  simp only
  rw [if_pos]
  simp [IntKind.min, IntKind.max, IntKind.signed, IntKind.bits]
  omega

theorem rep_zero : Rep 0 0 := rep_nought (s := false) (by decide +kernel)
theorem rep_one : Rep 0x3ff0000000000000 1 := ⟨false, 1, 52, by decide +kernel, rfl⟩

theorem read_neg (b : Nat) : double.read (Op.negFloat .f64 b) = (double.read b).opposite := by
  have e : Op.negFloat .f64 b = b ^^^ 2 ^ 63 := rfl
  have h1 : (b ^^^ 2 ^ 63) / 9223372036854775808 = (b / 9223372036854775808) ^^^ 1 := by
    rw [show (9223372036854775808 : Nat) = 2 ^ 63 by decide, Nat.xor_div_two_pow, Nat.div_self (Nat.two_pow_pos _)]
  have h2 : (b ^^^ 2 ^ 63) % 9223372036854775808 = b % 9223372036854775808 := by
    rw [show (9223372036854775808 : Nat) = 2 ^ 63 by decide, Nat.xor_mod_two_pow, Nat.mod_self, Nat.xor_zero]
  have h3 : ((b / 9223372036854775808 ^^^ 1) % 2 == 1) = !(b / 9223372036854775808 % 2 == 1) := by
    generalize b / 9223372036854775808 = a
    have g : (a ^^^ 1) % 2 = (a % 2) ^^^ 1 := by
      have := Nat.xor_mod_two_pow (a := a) (b := 1) (n := 1)
      simpa using this
    rw [g]
    rcases Nat.mod_two_eq_zero_or_one a with h | h <;> rw [h] <;> decide
  rw [e]
  unfold Format.read
  rw [double_sign]
  simp only [h1, h2, h3]
  split
  · rfl
  · split
    · rfl
    · split <;> rfl

theorem rep_neg {x : Nat} {a : Int} (hx : Rep x a) : Rep (Op.negFloat .f64 x) (-a) := by
  obtain ⟨s, M, d, h1, rfl⟩ := hx
  exact ⟨!s, M, d, by rw [read_neg, h1]; rfl, by rw [sg_not]⟩

theorem rep_csum {a b c d : Nat} {x y u v : Int} (ha : Rep a x) (hb : Rep b y) (hc : Rep c u) (hd : Rep d v)
    (h1 : (x + u).natAbs < 9007199254740992) (h2 : (y + v).natAbs < 9007199254740992) :
    ∃ re im, cSumBits .add .f64 a b c d = some (re, im) ∧ Rep re (x + u) ∧ Rep im (y + v) := by
  obtain ⟨re, e1, r1⟩ := rep_add ha hc h1
  obtain ⟨im, e2, r2⟩ := rep_add hb hd h2
  exact ⟨re, im, by simp [cSumBits, e1, e2], r1, r2⟩

theorem rep_cdiff {a b c d : Nat} {x y u v : Int} (ha : Rep a x) (hb : Rep b y) (hc : Rep c u) (hd : Rep d v)
    (h1 : (x - u).natAbs < 9007199254740992) (h2 : (y - v).natAbs < 9007199254740992) :
    ∃ re im, cSumBits .sub .f64 a b c d = some (re, im) ∧ Rep re (x - u) ∧ Rep im (y - v) := by
  obtain ⟨re, e1, r1⟩ := rep_sub ha hc h1
  obtain ⟨im, e2, r2⟩ := rep_sub hb hd h2
  exact ⟨re, im, by simp [cSumBits, e1, e2], r1, r2⟩

theorem natAbs_mul_le {x y : Int} {m n : Nat} (hx : x.natAbs ≤ m) (hy : y.natAbs ≤ n) : (x * y).natAbs ≤ m * n := by
  rw [Int.natAbs_mul]; exact Nat.mul_le_mul hx hy

theorem rep_cmul {a b c d : Nat} {x y u v : Int} (ha : Rep a x) (hb : Rep b y) (hc : Rep c u) (hd : Rep d v)
    (h1 : x.natAbs ≤ 33554432) (h2 : y.natAbs ≤ 33554432) (h3 : u.natAbs ≤ 33554432) (h4 : v.natAbs ≤ 33554432) :
    ∃ re im, cMulBits a b c d = some (re, im) ∧ Rep re (x * u - y * v) ∧ Rep im (x * v + y * u) := by
  have b1 := natAbs_mul_le h1 h3
  have b2 := natAbs_mul_le h2 h4
  have b3 := natAbs_mul_le h1 h4
  have b4 := natAbs_mul_le h2 h3
  obtain ⟨ac, e1, r1⟩ := rep_mul ha hc (by omega)
  obtain ⟨bd, e2, r2⟩ := rep_mul hb hd (by omega)
  obtain ⟨re, e3, r3⟩ := rep_sub r1 r2 (by omega)
  obtain ⟨ad, e4, r4⟩ := rep_mul ha hd (by omega)
  obtain ⟨bc, e5, r5⟩ := rep_mul hb hc (by omega)
  obtain ⟨im, e6, r6⟩ := rep_add r4 r5 (by omega)
  exact ⟨re, im, by simp [cMulBits, e1, e2, e3, e4, e5, e6], r3, r6⟩

end Go.Proofs.Ytiidgmlmfjlaiaa.Fl
