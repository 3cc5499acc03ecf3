/- Plain facts on IEEE double words: their order is the order of a key; a sum of two words that are not below 0 is not below either; half a word. -/
import Ieee.Arith
namespace PaceFl
open Ieee

/-- Half a unit up, to even: 'n / 2 ^ d'. -/
def rhe (n d : Nat) : Nat := n / 2 ^ d + (decide (2 ^ d < 2 * (n % 2 ^ d)) || (2 ^ d == 2 * (n % 2 ^ d) && n / 2 ^ d % 2 == 1)).toNat

theorem cut_eq (neg : Bool) (n d : Nat) : Toward.even.cut neg n d = rhe n d := by
  unfold Toward.cut rhe
  simp only [Nat.shiftLeft_eq, Nat.one_mul]
  by_cases h : d ≤ n.log2 + 2
  · rw [Nat.min_eq_left h]
  · rw [Nat.min_eq_right (by omega)]
    have hlt : n < 2 ^ (n.log2 + 1) := Nat.lt_log2_self
    have e2 : 2 ^ (n.log2 + 2) = 2 * 2 ^ (n.log2 + 1) := by rw [Nat.pow_succ, Nat.mul_comm]
    have hpos : 0 < 2 ^ (n.log2 + 1) := Nat.two_pow_pos _
    have hle : 2 ^ (n.log2 + 2) ≤ 2 ^ d := Nat.pow_le_pow_right (by omega) (by omega)
    have a1 : n / 2 ^ (n.log2 + 2) = 0 := Nat.div_eq_of_lt (by omega)
    have a2 : n % 2 ^ (n.log2 + 2) = n := Nat.mod_eq_of_lt (by omega)
    have b1 : n / 2 ^ d = 0 := Nat.div_eq_of_lt (by omega)
    have b2 : n % 2 ^ d = n := Nat.mod_eq_of_lt (by omega)
    rw [a1, a2, b1, b2]
    have c1 : ¬ 2 ^ (n.log2 + 2) < 2 * n := by omega
    have c2 : ¬ 2 ^ d < 2 * n := by omega
    simp [c1, c2]

theorem rhe_zero (n : Nat) : rhe n 0 = n := by
  unfold rhe
  simp [Nat.mod_one]

theorem rhe_exact (n d : Nat) : rhe (n * 2 ^ d) d = n := by
  unfold rhe
  have hp : 0 < 2 ^ d := Nat.two_pow_pos d
  rw [Nat.mul_div_cancel _ hp, Nat.mul_mod_left]
  have c2 : (2 ^ d == 0) = false := by simp
  simp

theorem rhe_scale (n d k : Nat) : rhe (n * 2 ^ k) (d + k) = rhe n d := by
  unfold rhe
  have hk : 0 < 2 ^ k := Nat.two_pow_pos k
  have e : 2 ^ (d + k) = 2 ^ d * 2 ^ k := Nat.pow_add ..
  rw [e, Nat.mul_div_mul_right _ _ hk, Nat.mul_mod_mul_right]
  have c1 : (2 ^ d * 2 ^ k < 2 * (n % 2 ^ d * 2 ^ k)) ↔ (2 ^ d < 2 * (n % 2 ^ d)) := by
    rw [← Nat.mul_assoc]
    exact Nat.mul_lt_mul_right hk
  have c2 : (2 ^ d * 2 ^ k = 2 * (n % 2 ^ d * 2 ^ k)) ↔ (2 ^ d = 2 * (n % 2 ^ d)) := by
    rw [← Nat.mul_assoc]
    exact Nat.mul_left_inj (by omega)
  have c2' : (2 ^ d * 2 ^ k == 2 * (n % 2 ^ d * 2 ^ k)) = (2 ^ d == 2 * (n % 2 ^ d)) := by
    rw [Bool.eq_iff_iff, beq_iff_eq, beq_iff_eq]; exact c2
  rw [decide_eq_decide.2 c1, c2']

theorem rhe_ge (n d : Nat) : n / 2 ^ d ≤ rhe n d := by unfold rhe; omega

theorem rhe_one_le (n : Nat) : rhe n 1 ≤ (n + 1) / 2 := by
  unfold rhe
  have h := Nat.div_add_mod n 2
  rcases Nat.mod_two_eq_zero_or_one n with h0 | h0
  · simp [h0]; omega
  · have : (decide (2 ^ 1 < 2 * (n % 2 ^ 1)) || (2 ^ 1 == 2 * (n % 2 ^ 1) && n / 2 ^ 1 % 2 == 1)).toNat ≤ 1 := Bool.toNat_le _
    simp only [Nat.pow_one] at this ⊢
    omega

theorem rhe_one_lt (n : Nat) (h : 0 < n) : rhe n 1 < n := by
  have := rhe_one_le n
  by_cases h1 : n = 1
  · subst h1; decide
  · omega

theorem log2_mul_pow (m k : Nat) (h : m ≠ 0) : (m * 2 ^ k).log2 = m.log2 + k := by
  have hk : 0 < 2 ^ k := Nat.two_pow_pos k
  rw [Nat.log2_eq_iff (Nat.mul_ne_zero h (by omega))]
  have h1 := Nat.log2_self_le h
  have h2 : m < 2 ^ (m.log2 + 1) := Nat.lt_log2_self
  constructor
  · rw [Nat.pow_add]; exact Nat.mul_le_mul_right _ h1
  · rw [show m.log2 + k + 1 = m.log2 + 1 + k by omega, Nat.pow_add]
    exact Nat.mul_lt_mul_of_pos_right h2 hk

theorem nearest_scale (neg : Bool) (m k : Nat) (p : Int) : double.nearest neg (m * 2 ^ k) p = double.nearest neg m (p + k) := by
  by_cases hm : m = 0
  · subst hm
    unfold Format.nearest
    simp
  have hmk : m * 2 ^ k ≠ 0 := Nat.mul_ne_zero hm (by have := Nat.two_pow_pos k; omega)
  unfold Format.nearest
  simp only [if_neg hm, if_neg hmk, log2_mul_pow m k hm, cut_eq, Nat.shiftLeft_eq]
  have el : max (p + ((m.log2 + k : Nat) : Int) - (double.fractionBits : Int)) double.leastPlace = max (p + (k : Int) + (m.log2 : Int) - (double.fractionBits : Int)) double.leastPlace := by
    congr 1; omega
  rw [el]
  generalize max (p + (k : Int) + (m.log2 : Int) - (double.fractionBits : Int)) double.leastPlace = last
  congr 3
  by_cases h1 : last ≤ p
  · have a1 : (last - p).toNat = 0 := by omega
    have a2 : (last - (p + k)).toNat = 0 := by omega
    have a3 : (p + k - last).toNat = k + (p - last).toNat := by omega
    rw [a1, a2, a3, rhe_zero, rhe_zero, Nat.pow_add, Nat.mul_assoc]
  · by_cases h2 : last ≤ p + k
    · have a1 : (p - last).toNat = 0 := by omega
      have a2 : (last - (p + k)).toNat = 0 := by omega
      obtain ⟨t, ht⟩ : ∃ t : Nat, (last - p).toNat = t := ⟨_, rfl⟩
      have a3 : k = (p + k - last).toNat + t := by omega
      rw [a1, a2, ht, rhe_zero, Nat.pow_zero, Nat.mul_one]
      generalize (p + (k : Int) - last).toNat = u at *
      subst a3
      rw [Nat.pow_add, ← Nat.mul_assoc, rhe_exact]
    · have a1 : (p - last).toNat = 0 := by omega
      have a2 : (p + k - last).toNat = 0 := by omega
      have a3 : (last - p).toNat = (last - (p + k)).toNat + k := by omega
      rw [a1, a2, a3, Nat.pow_zero, Nat.mul_one, Nat.mul_one, rhe_scale]

/-- Where infinity stands. -/
def top : Nat := 9218868437227405312
/-- The last digit's place over the least. -/
def sh (r : Nat) : Nat := r / 4503599627370496 - 1
def mag (r : Nat) : Nat := if r < 4503599627370496 then r else 4503599627370496 + r % 4503599627370496
/-- A rung's number, in the least units. -/
def V (r : Nat) : Nat := mag r * 2 ^ sh r
/-- The rung nearest to so many least units. -/
def rnd (v : Nat) : Nat := min ((v.log2 - 52) * 4503599627370496 + rhe v (v.log2 - 52)) top

theorem binade_eq : double.binade = 4503599627370496 := by decide
theorem top_eq : double.infRung = top := by decide
theorem least_eq : double.leastPlace = -1074 := by decide
theorem sign_eq : double.signWeight = 9223372036854775808 := by decide
theorem frac_eq : double.fractionBits = 52 := rfl

theorem nearest_units (neg : Bool) (v : Nat) : double.nearest neg v (-1074) = double.word neg (rnd v) := by
  by_cases hv : v = 0
  · subst hv
    unfold Format.nearest rnd
    simp [rhe, Nat.log2_zero]
  unfold Format.nearest rnd
  simp only [if_neg hv, cut_eq, Nat.shiftLeft_eq, least_eq, frac_eq, binade_eq, top_eq]
  have e1 : max (-1074 + (v.log2 : Int) - ((52 : Nat) : Int)) (-1074) = -1074 + ((v.log2 - 52 : Nat) : Int) := by omega
  rw [e1]
  generalize v.log2 - 52 = e
  have a1 : (-1074 - (-1074 + (e : Int))).toNat = 0 := by omega
  have a2 : (-1074 + (e : Int) - -1074).toNat = e := by omega
  rw [a1, a2, Nat.pow_zero, Nat.mul_one]

theorem nearest_at (neg : Bool) (m k : Nat) : double.nearest neg m (-1074 + (k : Int)) = double.word neg (rnd (m * 2 ^ k)) := by
  rw [← nearest_scale, nearest_units]

def isNaN (w : Nat) : Prop := top < w % 9223372036854775808
instance (w : Nat) : Decidable (isNaN w) := by unfold isNaN; infer_instance
def neg (w : Nat) : Bool := w / 9223372036854775808 % 2 == 1
def rung (w : Nat) : Nat := w % 9223372036854775808
/-- A word's place in the order. -/
def key (w : Nat) : Int := if neg w then -(rung w : Int) else (rung w : Int)

theorem read_number (w : Nat) (h : rung w < top) : double.read w = .number (neg w) (mag (rung w)) (-1074 + (sh (rung w) : Int)) := by
  unfold Format.read
  simp only [sign_eq, binade_eq, top_eq, least_eq]
  have e : w % 9223372036854775808 = rung w := rfl
  simp only [e]
  unfold mag sh neg
  by_cases h1 : rung w < 4503599627370496
  · simp only [if_pos h1]
    have : rung w / 4503599627370496 = 0 := Nat.div_eq_of_lt h1
    rw [this]; rfl
  · simp only [if_neg h1, if_pos h]

theorem read_inf (w : Nat) (h : rung w = top) : double.read w = .infinity (neg w) := by
  unfold Format.read
  simp only [sign_eq, binade_eq, top_eq, least_eq]
  have e : w % 9223372036854775808 = rung w := rfl
  simp only [e, h]
  simp [top, neg]

theorem read_nan (w : Nat) (h : isNaN w) : double.read w = .nan (neg w) (rung w - top) := by
  unfold Format.read
  simp only [sign_eq, binade_eq, top_eq, least_eq]
  have e : w % 9223372036854775808 = rung w := rfl
  have h' : top < rung w := h
  simp only [e]
  have ht : (4503599627370496 : Nat) < top := by decide
  rw [if_neg (by omega), if_neg (by omega), if_neg (by omega)]
  rfl


theorem V_small (r : Nat) (h : r < 9007199254740992) : V r = r := by
  unfold V mag sh
  by_cases h1 : r < 4503599627370496
  · have : r / 4503599627370496 = 0 := Nat.div_eq_of_lt h1
    rw [if_pos h1, this]; simp
  · have h2 : r / 4503599627370496 = 1 := by omega
    rw [if_neg h1, h2]
    simp
    omega

theorem V_big (r : Nat) (h : 4503599627370496 ≤ r) : V r = (4503599627370496 + r % 4503599627370496) * 2 ^ (r / 4503599627370496 - 1) := by
  unfold V mag sh
  rw [if_neg (by omega)]

theorem log2_V (r : Nat) (h : 4503599627370496 ≤ r) : (V r).log2 = 52 + (r / 4503599627370496 - 1) := by
  rw [V_big r h]
  have h0 : 4503599627370496 + r % 4503599627370496 ≠ 0 := by omega
  rw [log2_mul_pow _ _ h0]
  congr 1
  rw [Nat.log2_eq_iff h0]
  have : r % 4503599627370496 < 4503599627370496 := Nat.mod_lt _ (by omega)
  constructor <;> omega

/-- Rounding does not fall below a rung whose number is not above. -/
theorem rnd_ge (r v : Nat) (hr : r ≤ top) (h : V r ≤ v) : r ≤ rnd v := by
  unfold rnd
  refine Nat.le_min.2 ⟨?_, hr⟩
  by_cases h1 : r < 4503599627370496
  · rw [V_small r (by omega)] at h
    by_cases hv : v.log2 - 52 = 0
    · rw [hv, rhe_zero]; omega
    · have : 1 * 4503599627370496 ≤ (v.log2 - 52) * 4503599627370496 := Nat.mul_le_mul_right _ (by omega)
      omega
  · have hv0 : v ≠ 0 := by
      rintro rfl
      rw [V_big r (by omega)] at h
      have : 0 < (4503599627370496 + r % 4503599627370496) * 2 ^ (r / 4503599627370496 - 1) := Nat.mul_pos (by omega) (Nat.two_pow_pos _)
      omega
    have hl := log2_V r (by omega)
    have hle : (V r).log2 ≤ v.log2 := by
      rw [Nat.le_log2 hv0]
      have : V r ≠ 0 := by
        intro e; rw [e] at hl; simp [Nat.log2_zero] at hl; omega
      exact Nat.le_trans (Nat.log2_self_le this) h
    obtain ⟨q, hq⟩ : ∃ q, r / 4503599627370496 - 1 = q := ⟨_, rfl⟩
    rw [hq] at hl
    have hVr := V_big r (by omega)
    rw [hq] at hVr
    obtain ⟨e, he⟩ : ∃ e, v.log2 - 52 = e := ⟨_, rfl⟩
    rw [he]
    have hvl := Nat.log2_self_le hv0
    have hg := rhe_ge v e
    have hfl : 4503599627370496 ≤ v / 2 ^ e := by
      rw [Nat.le_div_iff_mul_le (Nat.two_pow_pos _)]
      have : (4503599627370496 : Nat) * 2 ^ e = 2 ^ (52 + e) := by rw [Nat.pow_add]
      rw [this, show 52 + e = v.log2 by omega]
      exact hvl
    by_cases heq : e = q
    · subst heq
      have : 4503599627370496 + r % 4503599627370496 ≤ v / 2 ^ e := by
        rw [Nat.le_div_iff_mul_le (Nat.two_pow_pos _)]
        omega
      omega
    · have : (q + 1) * 4503599627370496 ≤ e * 4503599627370496 := Nat.mul_le_mul_right _ (by omega)
      have := Nat.mod_lt r (show 0 < 4503599627370496 by omega)
      omega

/-- A rung's number is rounded to that rung. -/
theorem rnd_V (r : Nat) (hr : r ≤ top) : rnd (V r) = r := by
  refine Nat.le_antisymm ?_ (rnd_ge r _ hr (Nat.le_refl _))
  unfold rnd
  refine Nat.le_trans (Nat.min_le_left _ _) ?_
  by_cases h1 : r < 4503599627370496
  · rw [V_small r (by omega)]
    have : r.log2 - 52 = 0 := by
      by_cases h0 : r = 0
      · subst h0; simp [Nat.log2_zero]
      · have := (Nat.log2_lt (k := 52) h0).2 (by omega)
        omega
    rw [this, rhe_zero]; omega
  · have hl := log2_V r (by omega)
    have hVr := V_big r (by omega)
    have he : (V r).log2 - 52 = r / 4503599627370496 - 1 := by omega
    rw [he, hVr, rhe_exact]
    have := Nat.div_add_mod r 4503599627370496
    have h2 : r / 4503599627370496 ≥ 1 := by omega
    omega

theorem rnd_le_top (v : Nat) : rnd v ≤ top := Nat.min_le_right _ _

theorem V_lt (r s : Nat) (hr : r ≤ top) (hs : s ≤ top) (h : r < s) : V r < V s := by
  rcases Nat.lt_or_ge (V r) (V s) with hlt | hge
  · exact hlt
  · have := rnd_ge s (V r) hs hge
    rw [rnd_V r hr] at this
    omega

theorem V_zero : V 0 = 0 := V_small 0 (by omega)

theorem compare_V (r s : Nat) (hr : r ≤ top) (hs : s ≤ top) (a b : Bool) :
    compare (if a then -(V r : Int) else (V r : Int)) (if b then -(V s : Int) else (V s : Int)) = compare (if a then -(r : Int) else (r : Int)) (if b then -(s : Int) else (s : Int)) := by
  have h1 : ∀ x y : Nat, x ≤ top → y ≤ top → (V x < V y ↔ x < y) := fun x y hx hy => ⟨fun h => by
    rcases Nat.lt_or_ge x y with g | g
    · exact g
    · rcases Nat.lt_or_ge y x with g' | g'
      · have := V_lt y x hy hx g'; omega
      · have : x = y := by omega
        subst this; omega, V_lt x y hx hy⟩
  have rs := h1 r s hr hs
  have sr := h1 s r hs hr
  have r0 := h1 0 r (Nat.zero_le _) hr
  have s0 := h1 0 s (Nat.zero_le _) hs
  rw [V_zero] at r0 s0
  have hc : ∀ x y x' y' : Int, (x < y ↔ x' < y') → (y < x ↔ y' < x') → compare x y = compare x' y' := by
    intro x y x' y' h g
    show compareOfLessAndEq x y = compareOfLessAndEq x' y'
    unfold compareOfLessAndEq
    by_cases c : x < y
    · rw [if_pos c, if_pos (h.1 c)]
    · have c' : ¬ x' < y' := fun e => c (h.2 e)
      rw [if_neg c, if_neg c']
      by_cases d : y < x
      · have d' := g.1 d
        rw [if_neg (by omega), if_neg (by omega)]
      · have d' : ¬ y' < x' := fun e => d (g.2 e)
        rw [if_pos (by omega), if_pos (by omega)]
  refine hc _ _ _ _ ?_ ?_ <;> cases a <;> cases b <;> simp only [if_true, Bool.false_eq_true, if_false] <;> omega

theorem compare_scale (x y : Int) (c : Nat) (h : 0 < c) : compare (x * c) (y * c) = compare x y := by
  have hc : (0 : Int) < c := by omega
  show compareOfLessAndEq (x * c) (y * c) = compareOfLessAndEq x y
  unfold compareOfLessAndEq
  by_cases c1 : x < y
  · rw [if_pos c1, if_pos (Int.mul_lt_mul_of_pos_right c1 hc)]
  · have c1' : ¬ x * c < y * c := fun e => c1 (Int.lt_of_mul_lt_mul_right e (by omega))
    rw [if_neg c1, if_neg c1']
    by_cases c2 : x = y
    · rw [if_pos c2, if_pos (by rw [c2])]
    · rw [if_neg c2, if_neg (fun e => c2 (Int.eq_of_mul_eq_mul_right (by omega) e))]

theorem rung_cases (w : Nat) (h : ¬ isNaN w) : rung w < top ∨ rung w = top := by
  have : ¬ top < rung w := h
  omega

theorem signed_units (s : Bool) (r : Nat) (b : Nat) (hb : b ≤ sh r) : signed s (mag r) (-1074 + (sh r : Int) - (-1074 + (b : Int))).toNat * ((2 ^ b : Nat) : Int) = if s then -(V r : Int) else (V r : Int) := by
  have e : (-1074 + (sh r : Int) - (-1074 + (b : Int))).toNat = sh r - b := by omega
  rw [e]
  unfold signed V
  simp only [Nat.shiftLeft_eq]
  have e2 : mag r * 2 ^ sh r = mag r * 2 ^ (sh r - b) * 2 ^ b := by
    rw [Nat.mul_assoc, ← Nat.pow_add]; congr 2; omega
  rw [e2]
  cases s
  · simp only [Bool.false_eq_true, if_false]; rw [← Int.natCast_mul]
  · simp only [if_true]; rw [Int.neg_mul, ← Int.natCast_mul]

/-- The order of words is the order of their keys; a NaN stands to nothing. -/
theorem order_key (x y : Nat) (hx : ¬ isNaN x) (hy : ¬ isNaN y) : double.order x y = some (compare (key x) (key y)) := by
  unfold Format.order
  rcases rung_cases x hx with h1 | h1 <;> rcases rung_cases y hy with h2 | h2
  · rw [read_number x h1, read_number y h2]
    unfold Datum.order
    simp only []
    congr 1
    obtain ⟨b, hb1, hb2, hb⟩ : ∃ b : Nat, b ≤ sh (rung x) ∧ b ≤ sh (rung y) ∧ min (-1074 + (sh (rung x) : Int)) (-1074 + (sh (rung y) : Int)) = -1074 + (b : Int) := ⟨min (sh (rung x)) (sh (rung y)), Nat.min_le_left _ _, Nat.min_le_right _ _, by omega⟩
    rw [hb, ← compare_scale _ _ (2 ^ b) (Nat.two_pow_pos b), signed_units _ _ b hb1, signed_units _ _ b hb2, compare_V _ _ (by omega) (by omega)]
    rfl
  · rw [read_number x h1, read_inf y h2]
    unfold Datum.order key
    simp only []
    rw [h2]
    have : (rung x : Int) < top := by omega
    congr 1
    show _ = compareOfLessAndEq _ _
    unfold compareOfLessAndEq
    cases neg x <;> cases neg y <;> simp only [if_true, Bool.false_eq_true, if_false]
    · rw [if_pos (by omega)]
    · rw [if_neg (by omega), if_neg (by omega)]
    · rw [if_pos (by omega)]
    · rw [if_neg (by omega), if_neg (by omega)]
  · rw [read_inf x h1, read_number y h2]
    unfold Datum.order key
    simp only []
    rw [h1]
    have : (rung y : Int) < top := by omega
    congr 1
    show _ = compareOfLessAndEq _ _
    unfold compareOfLessAndEq
    cases neg x <;> cases neg y <;> simp only [if_true, Bool.false_eq_true, if_false]
    · rw [if_neg (by omega), if_neg (by omega)]
    · rw [if_neg (by omega), if_neg (by omega)]
    · rw [if_pos (by omega)]
    · rw [if_pos (by omega)]
  · rw [read_inf x h1, read_inf y h2]
    unfold Datum.order key
    simp only []
    rw [h1, h2]
    cases neg x <;> cases neg y <;> decide

theorem order_nan (x y : Nat) (h : isNaN x ∨ isNaN y) : double.order x y = none := by
  unfold Format.order
  rcases h with h | h
  · rw [read_nan x h]
    unfold Datum.order
    rfl
  · rw [read_nan y h]
    unfold Datum.order
    split <;> simp_all

theorem some_cmp (a b : Int) (o : Ordering) : (some (compare a b) == some o) = (compare a b == o) := by cases compare a b <;> cases o <;> decide

theorem cmp_gt (a b : Int) : (compare a b == Ordering.gt) = decide (b < a) := by
  show (compareOfLessAndEq a b == Ordering.gt) = _
  unfold compareOfLessAndEq
  by_cases c : a < b
  · rw [if_pos c, decide_eq_false (by omega)]; rfl
  · rw [if_neg c]
    by_cases d : a = b
    · rw [if_pos d, decide_eq_false (by omega)]; rfl
    · rw [if_neg d, decide_eq_true (by omega)]; rfl
theorem cmp_lt (a b : Int) : (compare a b == Ordering.lt) = decide (a < b) := by
  show (compareOfLessAndEq a b == Ordering.lt) = _
  unfold compareOfLessAndEq
  by_cases c : a < b
  · rw [if_pos c, decide_eq_true c]; rfl
  · rw [if_neg c, decide_eq_false c]
    by_cases d : a = b
    · rw [if_pos d]; rfl
    · rw [if_neg d]; rfl
theorem cmp_eq (a b : Int) : (compare a b == Ordering.eq) = decide (a = b) := by
  show (compareOfLessAndEq a b == Ordering.eq) = _
  unfold compareOfLessAndEq
  by_cases c : a < b
  · rw [if_pos c, decide_eq_false (by omega)]; rfl
  · rw [if_neg c]
    by_cases d : a = b
    · rw [if_pos d, decide_eq_true d]; rfl
    · rw [if_neg d, decide_eq_false d]; rfl

/-- The tests on two words, as the walk writes them. -/
def gtB (x y : Nat) : Bool := decide (¬ isNaN x ∧ ¬ isNaN y ∧ key y < key x)
def ltB (x y : Nat) : Bool := decide (¬ isNaN x ∧ ¬ isNaN y ∧ key x < key y)
def eqB (x y : Nat) : Bool := decide (¬ isNaN x ∧ ¬ isNaN y ∧ key x = key y)
def leB (x y : Nat) : Bool := decide (¬ isNaN x ∧ ¬ isNaN y ∧ key x ≤ key y)
def geB (x y : Nat) : Bool := decide (¬ isNaN x ∧ ¬ isNaN y ∧ key y ≤ key x)

theorem order_gt (x y : Nat) : (double.order x y == some .gt) = gtB x y := by
  unfold gtB
  by_cases hx : isNaN x
  · rw [order_nan x y (.inl hx), decide_eq_false (by simp [hx])]; rfl
  by_cases hy : isNaN y
  · rw [order_nan x y (.inr hy), decide_eq_false (by simp [hy])]; rfl
  rw [order_key x y hx hy, some_cmp, cmp_gt]
  simp [hx, hy]
theorem order_lt (x y : Nat) : (double.order x y == some .lt) = ltB x y := by
  unfold ltB
  by_cases hx : isNaN x
  · rw [order_nan x y (.inl hx), decide_eq_false (by simp [hx])]; rfl
  by_cases hy : isNaN y
  · rw [order_nan x y (.inr hy), decide_eq_false (by simp [hy])]; rfl
  rw [order_key x y hx hy, some_cmp, cmp_lt]
  simp [hx, hy]
theorem order_eq (x y : Nat) : (double.order x y == some .eq) = eqB x y := by
  unfold eqB
  by_cases hx : isNaN x
  · rw [order_nan x y (.inl hx), decide_eq_false (by simp [hx])]; rfl
  by_cases hy : isNaN y
  · rw [order_nan x y (.inr hy), decide_eq_false (by simp [hy])]; rfl
  rw [order_key x y hx hy, some_cmp, cmp_eq]
  simp [hx, hy]
theorem order_le (x y : Nat) : (double.order x y == some .lt || double.order x y == some .eq) = leB x y := by
  rw [order_lt, order_eq]
  unfold leB ltB eqB
  rw [← Bool.decide_or, decide_eq_decide]
  by_cases hx : isNaN x <;> by_cases hy : isNaN y <;> simp [hx, hy]
  omega
theorem order_ge (x y : Nat) : (double.order x y == some .gt || double.order x y == some .eq) = geB x y := by
  rw [order_gt, order_eq]
  unfold geB gtB eqB
  rw [← Bool.decide_or, decide_eq_decide]
  by_cases hx : isNaN x <;> by_cases hy : isNaN y <;> simp [hx, hy]
  omega


theorem neg_pos (r : Nat) (h : r ≤ top) : neg r = false := by
  unfold neg top at *
  have : r / 9223372036854775808 = 0 := Nat.div_eq_of_lt (by omega)
  rw [this]; rfl
theorem rung_pos (r : Nat) (h : r ≤ top) : rung r = r := by
  unfold rung top at *
  exact Nat.mod_eq_of_lt (by omega)
theorem nan_pos (r : Nat) (h : r ≤ top) : ¬ isNaN r := by
  have : rung r ≤ top := by rw [rung_pos r h]; exact h
  show ¬ top < rung r
  omega
theorem key_pos (r : Nat) (h : r ≤ top) : key r = (r : Int) := by
  unfold key
  rw [neg_pos r h, rung_pos r h]; rfl
theorem word_false (n : Nat) : double.word false n = n := rfl

theorem add_numbers (r s : Nat) (hr : r < top) (hs : s < top) : double.add r s = some (rnd (V r + V s)) := by
  unfold Format.add
  have er := rung_pos r (by omega)
  have es := rung_pos s (by omega)
  rw [read_number r (by omega), read_number s (by omega), neg_pos r (by omega), neg_pos s (by omega), er, es]
  unfold Datum.sum
  simp only [Option.map_some]
  obtain ⟨b, hb1, hb2, hb⟩ : ∃ b : Nat, b ≤ sh r ∧ b ≤ sh s ∧ min (-1074 + (sh r : Int)) (-1074 + (sh s : Int)) = -1074 + (b : Int) := ⟨min (sh r) (sh s), Nat.min_le_left _ _, Nat.min_le_right _ _, by omega⟩
  rw [hb]
  have e1 : (-1074 + (sh r : Int) - (-1074 + (b : Int))).toNat = sh r - b := by omega
  have e2 : (-1074 + (sh s : Int) - (-1074 + (b : Int))).toNat = sh s - b := by omega
  rw [e1, e2]
  unfold signed
  simp only [Bool.false_eq_true, if_false]
  have hn : ((mag r <<< (sh r - b) : Nat) : Int) + ((mag s <<< (sh s - b) : Nat) : Int) = ((mag r <<< (sh r - b) + mag s <<< (sh s - b) : Nat) : Int) := by omega
  rw [hn, Int.natAbs_natCast]
  have hneg : (if ((mag r <<< (sh r - b) + mag s <<< (sh s - b) : Nat) : Int) = 0 then (false && false) else decide (((mag r <<< (sh r - b) + mag s <<< (sh s - b) : Nat) : Int) < 0)) = false := by
    generalize mag r <<< (sh r - b) + mag s <<< (sh s - b) = z
    split
    · rfl
    · exact decide_eq_false (by omega)
  rw [hneg]
  unfold Format.write
  simp only []
  rw [nearest_at, word_false, Nat.add_mul, Nat.shiftLeft_eq, Nat.shiftLeft_eq, Nat.mul_assoc, Nat.mul_assoc, ← Nat.pow_add, ← Nat.pow_add]
  rw [show sh r - b + b = sh r by omega, show sh s - b + b = sh s by omega]
  rfl

theorem write_inf : double.write (.infinity false) = top := by decide

theorem add_top_left (s : Nat) (hs : s ≤ top) : double.add top s = some top := by
  unfold Format.add
  rw [read_inf top (by decide), neg_pos top (Nat.le_refl _)]
  rcases Nat.lt_or_ge s top with h | h
  · rw [read_number s (by rw [rung_pos s hs]; exact h)]
    unfold Datum.sum
    simp only [Option.map_some]
    rw [write_inf]
  · have : s = top := by omega
    subst this
    rw [read_inf top (by decide), neg_pos top (Nat.le_refl _)]
    unfold Datum.sum
    simp only [if_true, Option.map_some]
    rw [write_inf]
theorem add_top_right (s : Nat) (hs : s ≤ top) : double.add s top = some top := by
  rcases Nat.lt_or_ge s top with h | h
  · unfold Format.add
    rw [read_inf top (by decide), neg_pos top (Nat.le_refl _), read_number s (by rw [rung_pos s hs]; exact h)]
    unfold Datum.sum
    simp only [Option.map_some]
    rw [write_inf]
  · have : s = top := by omega
    subst this
    exact add_top_left _ (Nat.le_refl _)

/-- The sum of two words that are not below 0. -/
def sum (r s : Nat) : Nat := if r = top ∨ s = top then top else rnd (V r + V s)
theorem add_pos (r s : Nat) (hr : r ≤ top) (hs : s ≤ top) : double.add r s = some (sum r s) := by
  unfold sum
  by_cases h : r = top ∨ s = top
  · rw [if_pos h]
    rcases h with h | h
    · subst h; exact add_top_left s hs
    · subst h; exact add_top_right r hr
  · rw [if_neg h]
    exact add_numbers r s (by omega) (by omega)
theorem sum_top (r s : Nat) : sum r s ≤ top := by
  unfold sum
  split
  · exact Nat.le_refl _
  · exact rnd_le_top _
theorem sum_left (r s : Nat) (hr : r ≤ top) : r ≤ sum r s := by
  unfold sum
  split
  · exact hr
  · exact rnd_ge r _ hr (by omega)
theorem sum_right (r s : Nat) (hs : s ≤ top) : s ≤ sum r s := by
  unfold sum
  split
  · exact hs
  · exact rnd_ge s _ hs (by omega)
theorem sum_zero (s : Nat) (hs : s ≤ top) : sum 0 s = s := by
  unfold sum
  by_cases h : s = top
  · rw [if_pos (.inr h), h]
  · rw [if_neg (by unfold top at *; omega), V_zero, Nat.zero_add, rnd_V s hs]

/-- -0 adds nothing to what is not below 0. -/
theorem add_minus_zero (r : Nat) (hr : r ≤ top) : double.add r 9223372036854775808 = some r := by
  unfold Format.add
  have ez : double.read 9223372036854775808 = .number true 0 (-1074) := by decide
  rw [ez]
  rcases Nat.lt_or_ge r top with h | h
  · rw [read_number r (by rw [rung_pos r hr]; exact h), neg_pos r hr, rung_pos r hr]
    unfold Datum.sum
    simp only [Option.map_some]
    have hb : min (-1074 + (sh r : Int)) (-1074) = -1074 := by omega
    rw [hb]
    have e1 : (-1074 + (sh r : Int) - -1074).toNat = sh r := by omega
    rw [e1]
    unfold signed
    simp only [Bool.false_eq_true, if_false, if_true]
    have e0 : (-((0 <<< ((-1074 - -1074 : Int)).toNat : Nat) : Int)) = 0 := by simp
    rw [e0, Int.add_zero, Int.natAbs_natCast, Nat.shiftLeft_eq]
    have hneg : (if ((mag r * 2 ^ sh r : Nat) : Int) = 0 then (false && true) else decide (((mag r * 2 ^ sh r : Nat) : Int) < 0)) = false := by
      split
      · rfl
      · exact decide_eq_false (by omega)
    rw [hneg]
    unfold Format.write
    simp only []
    rw [nearest_units, word_false]
    congr 1
    exact rnd_V r hr
  · have : r = top := by omega
    subst this
    rw [read_inf top (by decide), neg_pos top (Nat.le_refl _)]
    unfold Datum.sum
    simp only [Option.map_some]
    rw [write_inf]

/-- Half of a word that is not below 0. -/
def half (r : Nat) : Nat := if r = top then top else if 9007199254740992 ≤ r then r - 4503599627370496 else rhe r 1

theorem read_two : double.read 4611686018427387904 = .number false 4503599627370496 (-51) := by decide

theorem mag_log2 (r : Nat) : (mag r).log2 ≤ 52 := by
  by_cases h0 : mag r = 0
  · rw [h0, Nat.log2_zero]; omega
  · have := (Nat.log2_lt (k := 53) h0).2 (by
      unfold mag
      split
      · omega
      · have := Nat.mod_lt r (show 0 < 4503599627370496 by omega); omega)
    omega

theorem log2_two : Nat.log2 4503599627370496 = 52 := by
  rw [Nat.log2_eq_iff (by omega)]; constructor <;> omega

/-- What the quotient by 2 rounds: half the number. -/
theorem div_two_number (r : Nat) (hr : r < top) : double.div r 4611686018427387904 = some (double.nearest false (mag r) (-1074 + (sh r : Int) - 1)) := by
  unfold Format.div
  rw [read_two, frac_eq, read_number r (by rw [rung_pos r (by omega)]; omega), neg_pos r (by omega), rung_pos r (by omega)]
  unfold Datum.quotient
  simp only []
  rw [if_neg (by omega)]
  have hl := mag_log2 r
  rw [log2_two]
  obtain ⟨t, hmore⟩ : ∃ t, 52 + 2 + 52 - (mag r).log2 = 52 + t := ⟨54 - (mag r).log2, by omega⟩
  rw [hmore, Nat.shiftLeft_eq, Nat.pow_add]
  have e1 : mag r * (2 ^ 52 * 2 ^ t) = mag r * 2 ^ t * 4503599627370496 := by
    have h52 : (2 : Nat) ^ 52 = 4503599627370496 := by decide
    rw [h52, Nat.mul_assoc, Nat.mul_comm (2 ^ t)]
  rw [e1, Nat.mul_div_cancel _ (by omega), Nat.mul_mod_left]
  generalize mag r = m
  simp only [Option.map_some, bne_self_eq_false, Bool.toNat_false, Nat.add_zero]
  unfold Format.write
  simp only []
  have e2 : 2 * (m * 2 ^ t) = m * 2 ^ (t + 1) := by rw [Nat.pow_succ]; ac_rfl
  have e3 : (-1074 + (sh r : Int) - -51 - ((52 + t : Nat) : Int) - 1) + ((t + 1 : Nat) : Int) = -1074 + (sh r : Int) - 1 := by omega
  rw [e2, nearest_scale, e3]

theorem nearest_big (r : Nat) (hr : r < top) (hb : 9007199254740992 ≤ r) : double.nearest false (mag r) (-1074 + (sh r : Int) - 1) = r - 4503599627370496 := by
  have hs : sh r = sh (r - 4503599627370496) + 1 := by unfold sh; omega
  have hm : mag r = mag (r - 4503599627370496) := by unfold mag; rw [if_neg (by omega), if_neg (by omega)]; omega
  rw [hs, hm, show (-1074 + ((sh (r - 4503599627370496) + 1 : Nat) : Int) - 1) = -1074 + (sh (r - 4503599627370496) : Int) by omega, nearest_at, word_false]
  exact rnd_V _ (by omega)

theorem nearest_small (r : Nat) (hb : r < 9007199254740992) : double.nearest false (mag r) (-1074 + (sh r : Int) - 1) = rhe r 1 := by
  have hs : sh r = 0 := by unfold sh; omega
  have hm : mag r = r := by unfold mag; split <;> omega
  have hl2 : r.log2 ≤ 52 := by have := mag_log2 r; rw [hm] at this; exact this
  rw [hs, hm]
  by_cases h0 : r = 0
  · subst h0; unfold Format.nearest; rw [if_pos rfl, word_false]; rfl
  · unfold Format.nearest
    rw [if_neg h0]
    simp only [cut_eq, Nat.shiftLeft_eq, least_eq, frac_eq, binade_eq, top_eq]
    have e4 : max (-1074 + ((0 : Nat) : Int) - 1 + (r.log2 : Int) - ((52 : Nat) : Int)) (-1074) = -1074 := by omega
    rw [e4]
    have a1 : (-1074 + ((0 : Nat) : Int) - 1 - -1074).toNat = 0 := by omega
    have a2 : (-1074 - (-1074 + ((0 : Nat) : Int) - 1)).toNat = 1 := by omega
    have a3 : ((-1074 : Int) - -1074).toNat = 0 := by omega
    rw [a1, a2, a3, Nat.pow_zero, Nat.mul_one, Nat.zero_mul, Nat.zero_add, word_false]
    have := rhe_one_le r
    exact Nat.min_eq_left (by unfold top; omega)

theorem div_two_top : double.div top 4611686018427387904 = some top := by
  unfold Format.div
  rw [read_two, read_inf top (by decide), neg_pos top (Nat.le_refl _)]
  unfold Datum.quotient
  simp only [Option.map_some, Bool.xor_false, write_inf]

theorem half_div (r : Nat) (hr : r ≤ top) : double.div r 4611686018427387904 = some (half r) := by
  unfold half
  by_cases ht : r = top
  · subst ht
    rw [if_pos rfl]
    exact div_two_top
  · rw [if_neg ht, div_two_number r (by omega)]
    by_cases hb : 9007199254740992 ≤ r
    · rw [if_pos hb, nearest_big r (by omega) hb]
    · rw [if_neg hb, nearest_small r (by omega)]

theorem half_le (r : Nat) (hr : r ≤ top) : half r ≤ r := by
  unfold half
  split
  · omega
  · split
    · omega
    · by_cases h : r = 0
      · subst h; decide
      · have := rhe_one_lt r (by omega); omega
theorem half_top (r : Nat) (hr : r ≤ top) : half r ≤ top := Nat.le_trans (half_le r hr) hr
theorem half_zero : half 0 = 0 := by decide
theorem half_inf : half top = top := by unfold half; rw [if_pos rfl]
theorem half_fin (r : Nat) (hr : r < top) : half r < top := Nat.lt_of_le_of_lt (half_le r (by omega)) hr

/-- So many halves. -/
def halves : Nat → Nat → Nat
  | 0, r => r
  | n + 1, r => halves n (half r)
theorem halves_top (n r : Nat) (hr : r ≤ top) : halves n r ≤ top := by
  induction n generalizing r with
  | zero => exact hr
  | succ n ih => exact ih _ (half_top r hr)
theorem halves_zero (n : Nat) : halves n 0 = 0 := by
  induction n with
  | zero => rfl
  | succ n ih => show halves n (half 0) = 0; rw [half_zero]; exact ih
theorem halves_inf (n : Nat) : halves n top = top := by
  induction n with
  | zero => rfl
  | succ n ih => show halves n (half top) = top; rw [half_inf]; exact ih
theorem halves_add (m n r : Nat) : halves (m + n) r = halves n (halves m r) := by
  induction m generalizing r with
  | zero => rw [Nat.zero_add]; rfl
  | succ m ih => rw [show m + 1 + n = (m + n) + 1 by omega]; exact ih _
theorem halves_succ (n r : Nat) : halves (n + 1) r = half (halves n r) := halves_add n 1 r
theorem halves_le (n r : Nat) (hr : r ≤ top) : halves n r ≤ r := by
  induction n generalizing r with
  | zero => exact Nat.le_refl _
  | succ n ih => exact Nat.le_trans (ih _ (half_top r hr)) (half_le r hr)
theorem halves_fin (n r : Nat) (hr : r < top) : halves n r < top := Nat.lt_of_le_of_lt (halves_le n r (by omega)) hr

theorem halves_small (j : Nat) : ∀ r, r ≤ 2 ^ j → j ≤ 52 → halves (j + 1) r = 0 := by
  induction j with
  | zero =>
    intro r h _
    have : r = 0 ∨ r = 1 := by simp at h; omega
    rcases this with rfl | rfl <;> decide
  | succ j ih =>
    intro r h hj
    have h2 : 2 ^ (j + 1) = 2 * 2 ^ j := by rw [Nat.pow_succ]; omega
    have h52 : 2 ^ (j + 1) ≤ 2 ^ 52 := Nat.pow_le_pow_right (by omega) hj
    have h53 : (2 : Nat) ^ 52 = 4503599627370496 := by decide
    show halves (j + 1) (half r) = 0
    refine ih _ ?_ (by omega)
    unfold half
    rw [if_neg (by unfold top; omega), if_neg (by omega)]
    have := rhe_one_le r
    omega
theorem halves_mid (r : Nat) (h : r < 9007199254740992) : halves 54 r = 0 := by
  show halves 53 (half r) = 0
  refine halves_small 52 _ ?_ (by omega)
  have h53 : (2 : Nat) ^ 52 = 4503599627370496 := by decide
  unfold half
  rw [if_neg (by unfold top; omega), if_neg (by omega)]
  have := rhe_one_le r
  omega
theorem halves_big (k : Nat) : ∀ r, r < top → r < 9007199254740992 + k * 4503599627370496 → halves (k + 54) r = 0 := by
  induction k with
  | zero => intro r _ h; exact halves_mid r (by omega)
  | succ k ih =>
    intro r ht h
    rw [show k + 1 + 54 = (k + 54) + 1 by omega]
    show halves (k + 54) (half r) = 0
    refine ih _ (half_fin r ht) ?_
    unfold half
    rw [if_neg (by omega)]
    split
    · omega
    · have := rhe_one_le r; omega
/-- A finite level is 0 behind 2101 halves. -/
theorem halves_done (n r : Nat) (hr : r < top) (hn : 2101 ≤ n) : halves n r = 0 := by
  have := halves_big 2047 r hr (by unfold top at hr; omega)
  rw [show n = (2047 + 54) + (n - 2101) by omega, halves_add, this, halves_zero]

end PaceFl
