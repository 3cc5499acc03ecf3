/- Sums of beginnings, and the greatest of them: the plain law. -/
import Derived.Test.YthpnfbpkoiebaaaLevels
namespace Go.Proofs.Ythpnfbpkoiebaaa
open Go.RowKit PaceFl Ieee Go.Joins Go.ChangeShapes Go.WideShapes Go.ChangeAt

def S (f : Nat → Nat) : Nat → Option Nat
  | 0 => some 0
  | k + 1 => (S f k).bind fun s => double.add s (f k)
def best1 (o : Option Nat) (b : Nat) : Nat := match o with | some s => if gtB s b = true then s else b | none => b
def B (f : Nat → Nat) : Nat → Nat
  | 0 => 0
  | k + 1 => best1 (S f (k + 1)) (B f k)
def eqO (o : Option Nat) (b : Nat) : Bool := match o with | some s => eqB s b | none => false
def F (f : Nat → Nat) (b : Nat) : Nat → Bool
  | 0 => eqB b 0
  | k + 1 => F f b k || eqO (S f (k + 1)) b
def R (f : Nat → Nat) : Nat → Bool
  | 0 => true
  | k + 1 => (R f k && geB (f k) 0) && !(gtB (f k) 9218868437227405311)
def Rep (o : Option Nat) (b : Nat) : Prop := match o with | some s => b = s | none => isNaN b

theorem add_nan (x y : Nat) (h : isNaN x) : double.add x y = none := by
  unfold Format.add
  rw [read_nan x h]
  rfl
theorem gt_nan (x y : Nat) (h : isNaN x) : gtB x y = false := decide_eq_false fun k => k.1 h
theorem eq_nan (x y : Nat) (h : isNaN x) : eqB x y = false := decide_eq_false fun k => k.1 h
theorem nan0 : ¬ isNaN 0 := by decide
theorem best_some (s b : Nat) : best1 (some s) b = if gtB s b = true then s else b := rfl
theorem rep_gt {o : Option Nat} {b : Nat} (h : Rep o b) (c : Nat) : best1 o c = if gtB b c = true then b else c := by
  cases o with
  | some s => obtain rfl : b = s := h; rfl
  | none => rw [gt_nan b c h]; simp [best1]
theorem rep_eq {o : Option Nat} {b : Nat} (h : Rep o b) (c : Nat) : eqO o c = eqB b c := by
  cases o with
  | some s => obtain rfl : b = s := h; rfl
  | none => rw [eq_nan b c h]; rfl
theorem best_num (f : Nat → Nat) (k : Nat) : ¬ isNaN (B f k) := by
  induction k with
  | zero => exact nan0
  | succ k ih =>
    unfold B best1
    split
    · split
      · rename_i h
        exact (of_decide_eq_true h).1
      · exact ih
    · exact ih
theorem best_up (f : Nat → Nat) (k : Nat) : key (B f k) ≤ key (B f (k + 1)) := by
  rw [show B f (k + 1) = best1 (S f (k + 1)) (B f k) from rfl]
  unfold best1
  split
  · split
    · rename_i h
      exact Int.le_of_lt (of_decide_eq_true h).2.2
    · exact Int.le_refl _
  · exact Int.le_refl _
theorem best_mono (f : Nat → Nat) (j : Nat) : ∀ d, key (B f j) ≤ key (B f (j + d))
  | 0 => Int.le_refl _
  | d + 1 => Int.le_trans (best_mono f j d) (best_up f (j + d))
theorem best_own (f : Nat → Nat) (k s : Nat) (h : S f k = some s) : gtB s (B f k) = false := by
  cases k with
  | zero =>
    obtain rfl : 0 = s := by injection h
    exact (by decide : gtB 0 0 = false)
  | succ k =>
    rw [show B f (k + 1) = best1 (S f (k + 1)) (B f k) from rfl, h]
    rw [best_some]
    cases hg : gtB s (B f k)
    · rw [if_neg (by simp)]; exact hg
    · rw [if_pos rfl]; exact decide_eq_false fun k => absurd k.2.2 (Int.lt_irrefl _)
/-- No sum is above the greatest. -/
theorem best_max (f : Nat → Nat) (j m b : Nat) (hj : j ≤ m) (h : Rep (S f j) b) : gtB b (B f m) = false := by
  cases hs : S f j with
  | none => rw [hs] at h; exact gt_nan b _ h
  | some s =>
    rw [hs] at h
    obtain rfl : b = s := h
    have k := best_own f j b hs
    have km := best_mono f j (m - j)
    rw [show j + (m - j) = m by omega] at km
    refine decide_eq_false fun hq => ?_
    have : gtB b (B f j) = true := decide_eq_true ⟨hq.1, best_num f j, Int.lt_of_le_of_lt km hq.2.2⟩
    rw [k] at this
    cases this
theorem best_from (f : Nat → Nat) (k : Nat) : B f k = 0 ∨ ∃ j, j < k ∧ S f (j + 1) = some (B f k) := by
  induction k with
  | zero => exact .inl rfl
  | succ k ih =>
    have e : B f (k + 1) = best1 (S f (k + 1)) (B f k) := rfl
    cases hs : S f (k + 1) with
    | none =>
      rw [hs] at e
      rw [show B f (k + 1) = B f k from e]
      exact ih.imp id fun ⟨j, hj, h⟩ => ⟨j, by omega, h⟩
    | some s =>
      rw [hs] at e
      cases hg : gtB s (B f k)
      · rw [show B f (k + 1) = B f k from e.trans (if_neg (by rw [hg]; simp))]
        exact ih.imp id fun ⟨j, hj, h⟩ => ⟨j, by omega, h⟩
      · rw [show B f (k + 1) = s from e.trans (if_pos hg)]
        exact .inr ⟨k, by omega, hs⟩
theorem found_stays (f : Nat → Nat) (b k : Nat) (h : F f b k = true) : ∀ d, F f b (k + d) = true
  | 0 => h
  | d + 1 => by rw [show F f b (k + (d + 1)) = (F f b (k + d) || eqO (S f (k + d + 1)) b) from rfl, found_stays f b k h d]; rfl
/-- The greatest is found. -/
theorem best_found (f : Nat → Nat) (m : Nat) : F f (B f m) m = true := by
  rcases best_from f m with h | ⟨j, hj, h⟩
  · have := found_stays f (B f m) 0 (by rw [h]; exact (by decide : eqB 0 0 = true)) m
    rwa [Nat.zero_add] at this
  · have k : F f (B f m) (j + 1) = true := by
      rw [show F f (B f m) (j + 1) = (F f (B f m) j || eqO (S f (j + 1)) (B f m)) from rfl, h]
      rw [show eqO (some (B f m)) (B f m) = true from decide_eq_true ⟨best_num f m, best_num f m, rfl⟩]
      simp
    have := found_stays f (B f m) (j + 1) k (m - (j + 1))
    rwa [show j + 1 + (m - (j + 1)) = m by omega] at this
theorem best_ge (f : Nat → Nat) (m : Nat) : geB (B f m) 0 = true :=
  decide_eq_true ⟨best_num f m, nan0, by have := best_mono f 0 m; rwa [Nat.zero_add] at this⟩
theorem ge_zero (x : Nat) (hx : x < 18446744073709551616) (h : geB x 0 = true) : x ≤ top ∨ x = 9223372036854775808 := by
  obtain ⟨h1, _, h3⟩ := of_decide_eq_true h
  unfold key neg rung at h3
  unfold isNaN at h1
  unfold top at *
  rcases Nat.lt_or_ge x 9223372036854775808 with hl | hl
  · left; omega
  · right
    have : x / 9223372036854775808 = 1 := by omega
    rw [this] at h3
    simp at h3
    omega
/-- Where they rise, the greatest is the last. -/
theorem best_last (f : Nat → Nat) (hf : ∀ k, f k < 18446744073709551616) (k : Nat) (h : R f k = true) : ∃ s, S f k = some s ∧ s ≤ top ∧ B f k = s := by
  induction k with
  | zero => exact ⟨0, rfl, zero_top, rfl⟩
  | succ k ih =>
    rw [show R f (k + 1) = ((R f k && geB (f k) 0) && !(gtB (f k) 9218868437227405311)) from rfl] at h
    simp only [Bool.and_eq_true] at h
    obtain ⟨s, h1, h2, h3⟩ := ih h.1.1
    have e : S f (k + 1) = double.add s (f k) := by rw [show S f (k + 1) = (S f k).bind (fun s => double.add s (f k)) from rfl, h1]; rfl
    have eb : B f (k + 1) = best1 (S f (k + 1)) s := by rw [← h3]; rfl
    rcases ge_zero (f k) (hf k) h.1.2 with hx | hx
    · rw [add_pos s (f k) h2 hx] at e
      refine ⟨_, e, sum_top _ _, ?_⟩
      rw [eb, e]
      have l := sum_left s (f k) h2
      rw [best_some]
      split
      · rfl
      · rename_i hg
        rw [gtB_pos _ _ (sum_top _ _) h2] at hg
        simp at hg
        omega
    · rw [hx, add_minus_zero s h2] at e
      refine ⟨s, e, h2, ?_⟩
      rw [eb, e]
      simp [best1]
theorem last_eq (f : Nat → Nat) (hf : ∀ k, f k < 18446744073709551616) (k b : Nat) (h : R f k = true) (hr : Rep (S f k) b) : eqB (B f k) b = true := by
  obtain ⟨s, h1, h2, h3⟩ := best_last f hf k h
  rw [h1] at hr
  obtain rfl : b = s := hr
  rw [h3]
  exact eq_same b h2

/-- What '+' gives, and the world behind it: where it is no number the tape says which. -/
def sumV (w : World) (s x : Nat) : Nat := match double.add s x with | some r => r | none => (Question.nanBits .f64 s x).cut (w.tape w.drawn (.nanBits .f64 s x))
def sumW (w : World) (s x : Nat) : World := match double.add s x with | some _ => w | none => w.drew
theorem run_sum_all (W : World) (s x : Nat) : (binOp .add 22 (.float .f64 s) (.float .f64 x)).run Try.prog W = .ok (.float .f64 (sumV W s x)) (sumW W s x) := by
  cases h : double.add s x with
  | some r =>
    rw [run_float_arith (P := Try.prog) W .add 22 .f64 s x r h]
    simp [sumV, sumW, h]
  | none =>
    have h' : FloatKind.f64.format.add s x = none := h
    simp [binOp, Op.floatArith, h', sumV, sumW, h, Question.forced]
theorem sumW_heap (W : World) (s x : Nat) : (sumW W s x).heap = W.heap := by unfold sumW; split <;> rfl
theorem sumW_cell (W : World) (s x : Nat) (a : Addr) : (sumW W s x).cell? a = W.cell? a := by unfold sumW; split <;> rfl
theorem sumW_below {n : Nat} {w W : World} (s x : Nat) (h : Below n w W) : Below n w (sumW W s x) := by unfold sumW; split; exact h; exact h.drew
theorem cut_nan (s x t : Nat) : isNaN ((Question.nanBits .f64 s x).cut t) := by
  unfold isNaN top
  simp only [Question.cut]
  have : t / 2 % (2 ^ 52 - 1) < 2 ^ 52 - 1 := Nat.mod_lt _ (by decide)
  generalize t / 2 % (2 ^ 52 - 1) = u at *
  have h2 : t % 2 < 2 := Nat.mod_lt _ (by decide)
  generalize t % 2 = v at *
  simp only [show (2 : Nat) ^ 52 - 1 = 4503599627370495 by decide, show (2 : Nat) ^ 63 = 9223372036854775808 by decide] at *
  omega
theorem rep_next (f : Nat → Nat) (k b : Nat) (W : World) (h : Rep (S f k) b) : Rep (S f (k + 1)) (sumV W b (f k)) := by
  have e : S f (k + 1) = (S f k).bind (fun s => double.add s (f k)) := rfl
  cases hs : S f k with
  | none =>
    rw [hs] at h e
    rw [e]
    unfold sumV
    rw [add_nan b _ h]
    exact cut_nan _ _ _
  | some s =>
    rw [hs] at h e
    obtain rfl : b = s := h
    rw [show S f (k + 1) = double.add b (f k) from e]
    unfold sumV
    cases ha : double.add b (f k) with
    | none => exact cut_nan _ _ _
    | some r => rfl
end Go.Proofs.Ythpnfbpkoiebaaa
