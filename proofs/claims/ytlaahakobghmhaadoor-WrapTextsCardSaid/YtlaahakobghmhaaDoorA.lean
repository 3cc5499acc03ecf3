/- Package wrap: Add, Ahead, Within, Less, and the document's; the digits of 10 and 42; what each law asks first (lives). -/
import Derived.Test.YtlaahakobghmhaaDoorRows
import Derived.WalkKit
import Derived.WalkSpells
import Derived.WalkLawsBesides
import Derived.Deep.RegionHeld3
import Derived.Deep.DrawnRows
import Derived.Lib.Hide
import Derived.BigQuiet
import Derived.StillTailTactics
namespace Go.Proofs.YtlaahakobghmhaaDoor
open Go.RowKit
attribute [local go_sem ↓] Go.wp_at_zero Go.wp_at_succ

theorem u32_mod (x : Int) : IntKind.u32.wrap x = x % 4294967296 := by simp [IntKind.wrap, IntKind.bits, IntKind.signed]
theorem ret_int {k : IntKind} {x y : Int} (h : x = y) : Ending.returned (.int k x) = .returned (.int k y) := by rw [h]
theorem ret_bool {a b : Bool} (h : a = b) : Ending.returned (.bool a) = .returned (.bool b) := by rw [h]

theorem add_any (h n : Int) (w : World) : Calls Tryd.prog 10 #[.int .u32 h, .int .i64 n] w fun e w' => e = .returned (.int .u32 ((h + n) % 4294967296)) ∧ w = w' := by
  go_enter Tryd.func10, Tryd.ntmps10
  go_wp2
  all_goals (go_ret; exact ⟨ret_int (by omega), rfl⟩)
theorem ahead_any (a b : Int) (w : World) : Calls Tryd.prog 12 #[.int .u32 a, .int .u32 b] w fun e w' => e = .returned (.int .u32 ((b - a) % 4294967296)) ∧ w = w' := by
  go_enter Tryd.func12, Tryd.ntmps12
  go_wp2
  all_goals (go_ret; exact ⟨ret_int (by omega), rfl⟩)
def withinB (h a b : Int) : Bool := decide ((h - a) % 4294967296 ≤ (b - a) % 4294967296)
def lessB (a b : Int) : Bool := decide (0 < (b - a) % 4294967296 ∧ (b - a) % 4294967296 < 2147483648)
theorem within_any (h a b : Int) (w : World) : Calls Tryd.prog 14 #[.int .u32 h, .int .u32 a, .int .u32 b] w fun e w' => e = .returned (.bool (withinB h a b)) ∧ w = w' := by
  unfold withinB
  go_enter Tryd.func14, Tryd.ntmps14
  go_wp2_with fail
  refine (ahead_any a h _).mono ?_
  rintro e w1 ⟨rfl, rfl⟩
  go_wp2_with fail
  refine (ahead_any a b _).mono ?_
  rintro e w1 ⟨rfl, rfl⟩
  go_wp2
  all_goals (go_ret; exact ⟨rfl, rfl⟩)
theorem less_any (a b : Int) (w : World) : Calls Tryd.prog 16 #[.int .u32 a, .int .u32 b] w fun e w' => e = .returned (.bool (lessB a b)) ∧ w = w' := by
  unfold lessB
  have b1 : 0 ≤ (b - a) % 4294967296 ∧ (b - a) % 4294967296 < 4294967296 := by omega
  have A := ahead_any a b w
  generalize (b - a) % 4294967296 = x at *
  have A := Lib.hid A
  by_cases h1 : 0 < x
  · have h1' : 1 ≤ x := by omega
    by_cases h2 : x < 2147483648
    · go_enter Tryd.func16, Tryd.ntmps16
      go_wp2_with fail
      refine A.out.mono ?_
      rintro e w1 ⟨rfl, rfl⟩
      go_wp2
      all_goals (go_ret; exact ⟨ret_bool (by simp; omega), rfl⟩)
    · go_enter Tryd.func16, Tryd.ntmps16
      go_wp2_with fail
      refine A.out.mono ?_
      rintro e w1 ⟨rfl, rfl⟩
      go_wp2
      all_goals (go_ret; exact ⟨ret_bool (by simp; omega), rfl⟩)
  · have h1' : ¬ 1 ≤ x := by omega
    go_enter Tryd.func16, Tryd.ntmps16
    go_wp2_with fail
    refine A.out.mono ?_
    rintro e w1 ⟨rfl, rfl⟩
    go_wp2
    all_goals (go_ret; exact ⟨ret_bool (by simp; omega), rfl⟩)

theorem radd_any (h n : Int) (hh : 0 ≤ h ∧ h < 4294967296) (w : World) : Calls Tryd.prog 11 #[.int .u32 h, .int .i64 n] w fun e w' => e = .returned (.int .u32 ((h + n) % 4294967296)) ∧ w = w' := by
  have hk : -4294967296 < n.tmod 4294967296 ∧ n.tmod 4294967296 < 4294967296 ∧ (h + n) % 4294967296 = (h + n.tmod 4294967296) % 4294967296 := by
    have := Int.tmod_add_mul_tdiv n 4294967296
    have h1 := Int.tmod_lt_of_pos n (show (0 : Int) < 4294967296 by decide)
    have h2 := Int.lt_tmod_of_pos n (show (0 : Int) < 4294967296 by decide)
    refine ⟨h2, h1, ?_⟩
    omega
  obtain ⟨h1, h2, h3⟩ := hk
  rw [h3]
  clear h3
  generalize hkk : n.tmod 4294967296 = k at *
  have e2 : (h + k + 4294967296).tmod 4294967296 = (h + k) % 4294967296 := by rw [Int.tmod_eq_emod_of_nonneg (by omega)]; omega
  have e3 : wrap64 (n.tmod 4294967296) = k := by rw [hkk]; exact IntWalk.wrap64_in _ ⟨by omega, by omega⟩
  have e4 : 0 ≤ (h + k) % 4294967296 ∧ (h + k) % 4294967296 < 4294967296 := by omega
  go_enter Tryd.func11, Tryd.ntmps11
  go_wp2
  all_goals (go_ret; exact ⟨ret_int (by omega), rfl⟩)
theorem rahead_any (a b : Int) (ha : 0 ≤ a ∧ a < 4294967296) (hb : 0 ≤ b ∧ b < 4294967296) (w : World) : Calls Tryd.prog 13 #[.int .u32 a, .int .u32 b] w fun e w' => e = .returned (.int .u32 ((b - a) % 4294967296)) ∧ w = w' := by
  by_cases h : a ≤ b
  · go_enter Tryd.func13, Tryd.ntmps13
    go_wp2
    all_goals (go_ret; exact ⟨ret_int (by omega), rfl⟩)
  · go_enter Tryd.func13, Tryd.ntmps13
    go_wp2
    all_goals (go_ret; exact ⟨ret_int (by omega), rfl⟩)
def rwithinB (h a b : Int) : Bool := if a ≤ b then decide (a ≤ h ∧ h ≤ b) else decide (a ≤ h ∨ h ≤ b)
theorem rwithin_any (h a b : Int) (w : World) : Calls Tryd.prog 15 #[.int .u32 h, .int .u32 a, .int .u32 b] w fun e w' => e = .returned (.bool (rwithinB h a b)) ∧ w = w' := by
  unfold rwithinB
  by_cases h0 : a ≤ b
  · rw [if_pos h0]
    by_cases h1 : a ≤ h
    · by_cases h2 : h ≤ b
      · go_enter Tryd.func15, Tryd.ntmps15
        go_wp2
        all_goals (go_ret; exact ⟨ret_bool (by simp [h1, h2]), rfl⟩)
      · go_enter Tryd.func15, Tryd.ntmps15
        go_wp2
        all_goals (go_ret; exact ⟨ret_bool (by simp; omega), rfl⟩)
    · go_enter Tryd.func15, Tryd.ntmps15
      go_wp2
      all_goals (go_ret; exact ⟨ret_bool (by simp; omega), rfl⟩)
  · rw [if_neg h0]
    by_cases h1 : a ≤ h
    · go_enter Tryd.func15, Tryd.ntmps15
      go_wp2
      all_goals (go_ret; exact ⟨ret_bool (by simp), rfl⟩)
    · by_cases h2 : h ≤ b
      · go_enter Tryd.func15, Tryd.ntmps15
        go_wp2
        all_goals (go_ret; exact ⟨ret_bool (by simp), rfl⟩)
      · go_enter Tryd.func15, Tryd.ntmps15
        go_wp2
        all_goals (go_ret; exact ⟨ret_bool (by simp; omega), rfl⟩)
theorem rless_any (a b : Int) (ha : 0 ≤ a ∧ a < 4294967296) (hb : 0 ≤ b ∧ b < 4294967296) (w : World) : Calls Tryd.prog 17 #[.int .u32 a, .int .u32 b] w fun e w' => e = .returned (.bool (lessB a b)) ∧ w = w' := by
  unfold lessB
  have b1 : 0 ≤ (b - a) % 4294967296 ∧ (b - a) % 4294967296 < 4294967296 := by omega
  have A := rahead_any a b ha hb w
  generalize (b - a) % 4294967296 = x at *
  have A := Lib.hid A
  by_cases h1 : 0 < x
  · have h1' : 1 ≤ x := by omega
    by_cases h2 : x < 2147483648
    · go_enter Tryd.func17, Tryd.ntmps17
      go_wp2_with fail
      refine A.out.mono ?_
      rintro e w1 ⟨rfl, rfl⟩
      go_wp2
      all_goals (go_ret; exact ⟨ret_bool (by simp; omega), rfl⟩)
    · go_enter Tryd.func17, Tryd.ntmps17
      go_wp2_with fail
      refine A.out.mono ?_
      rintro e w1 ⟨rfl, rfl⟩
      go_wp2
      all_goals (go_ret; exact ⟨ret_bool (by simp; omega), rfl⟩)
  · have h1' : ¬ 1 ≤ x := by omega
    go_enter Tryd.func17, Tryd.ntmps17
    go_wp2_with fail
    refine A.out.mono ?_
    rintro e w1 ⟨rfl, rfl⟩
    go_wp2
    all_goals (go_ret; exact ⟨ret_bool (by simp; omega), rfl⟩)

theorem digit_any (c : Int) (w : World) : Calls Tryd.prog 24 #[.int .u8 c] w fun e w' => e = .returned (.int .u64 ((c - 48) % 256)) ∧ w = w' := by
  go_enter Tryd.func24, Tryd.ntmps24
  go_wp2
  all_goals (go_ret; exact ⟨ret_int (by omega), rfl⟩)

set_option maxRecDepth 100000 in
theorem small_10 (w : World) : Calls Tryd.prog 27 #[.int .i64 10] w fun e w' => e = .returned (.string ⟨#[49, 48]⟩) ∧ w = w' := by
  go_enter Tryd.func27, Tryd.ntmps27
  go_wp2
  all_goals (go_ret; exact ⟨rfl, rfl⟩)
set_option maxRecDepth 100000 in
theorem small_42 (w : World) : Calls Tryd.prog 27 #[.int .i64 42] w fun e w' => e = .returned (.string ⟨#[52, 50]⟩) ∧ w = w' := by
  go_enter Tryd.func27, Tryd.ntmps27
  go_wp2
  all_goals (go_ret; exact ⟨rfl, rfl⟩)
end Go.Proofs.YtlaahakobghmhaaDoor
