/- WrapBetween: what lies between. -/
import Derived.Test.YtlaahakobghmhaaDoorSpan
namespace Go.Proofs.YtlaahakobghmhaaDoor
open Go.RowKit
attribute [local go_sem ↓] Go.wp_at_zero Go.wp_at_succ

/-- Two numbers. -/
def two (a b : Int) : Nat → Int := fun k => if k = 0 then a else b
theorem sp_two (a b : Int) : sp (two a b) 2 = (b - a) % 4294967296 := by
  simp only [sp, two]
  simp
  omega

set_option maxHeartbeats 8000000 in
set_option maxRecDepth 100000 in
theorem between_any (h a b : Int) (_hh : 0 ≤ h ∧ h < 4294967296) (ha : 0 ≤ a ∧ a < 4294967296) (hb : 0 ≤ b ∧ b < 4294967296) (w : World) :
    Calls Tryd.prog 7 #[.int .u32 h, .int .u32 a, .int .u32 b] w fun e w' => e = .returned (.bool true) ∧ w.grownBy w' none := by
  go_enter Tryd.func7, Tryd.ntmps7
  go_wp2_with fail
  refine (lives_any _).mono ?_
  rintro e w1 ⟨rfl, g1⟩
  have hblk := heap_alloc_new w1 (.cells #[.int .u32 a, .int .u32 b] 22)
  have g2 := grown_trans g1 (World.grownBy_alloc w1 (.cells #[.int .u32 a, .int .u32 b] 22) none)
  have S := span_any (some ⟨w1.heap.size, 0, none⟩) 2 2 (two a b) (by decide) (w1.alloc (.cells #[.int .u32 a, .int .u32 b] 22)) (fun k hk => by
    refine ⟨w1.heap.size, 0, rfl, by simp, ?_, ?_⟩
    · unfold two
      by_cases e : k = 0 <;> simp [e] <;> omega
    · rcases (by omega : k = 0 ∨ k = 1) with rfl | rfl
      · exact cell_of_row _ _ _ _ 22 (0, 0) hblk
      · exact cell_of_row _ _ _ _ 22 (0, 0) hblk)
  rw [sp_two] at S
  clear hblk
  have C1 := fun W => ahead_any a h W
  have C2 := fun W => ahead_any h b W
  have C3 := fun W => ahead_any a b W
  have C4 := fun W => less_any a b W
  have C5 := fun W => less_any b a W
  have C6 := fun W => within_any h a b W
  have C7 := fun W => within_any a a b W
  have C8 := fun W => within_any b a b W
  have z1 : 0 ≤ (h - a) % 4294967296 ∧ (h - a) % 4294967296 < 4294967296 := by omega
  have z2 : 0 ≤ (b - h) % 4294967296 ∧ (b - h) % 4294967296 < 4294967296 := by omega
  have z3 : 0 ≤ (b - a) % 4294967296 ∧ (b - a) % 4294967296 < 4294967296 := by omega
  have w6 : withinB h a b = decide ((h - a) % 4294967296 + (b - h) % 4294967296 = (b - a) % 4294967296) := by unfold withinB; rw [decide_eq_decide]; omega
  have w7 : withinB a a b = true := by unfold withinB; rw [decide_eq_true_iff]; omega
  have w8 : withinB b a b = true := by unfold withinB; rw [decide_eq_true_iff]; omega
  have w4 : lessB a b = decide (0 < (b - a) % 4294967296 ∧ (b - a) % 4294967296 < 2147483648) := rfl
  have w5 : lessB b a = decide (2147483648 < (b - a) % 4294967296) := by unfold lessB; rw [decide_eq_decide]; omega
  have q1 : a = b ↔ (b - a) % 4294967296 = 0 := by omega
  rw [w6] at C6
  rw [w7] at C7
  rw [w8] at C8
  rw [w4] at C4
  rw [w5] at C5
  clear w6 w7 w8 w4 w5 ha hb
  generalize (h - a) % 4294967296 = x at *
  generalize (b - h) % 4294967296 = y at *
  generalize (b - a) % 4294967296 = z at *
  have S := Lib.hid S
  have C1 := Lib.hid C1
  have C2 := Lib.hid C2
  have C3 := Lib.hid C3
  have C4 := Lib.hid C4
  have C5 := Lib.hid C5
  have C6 := Lib.hid C6
  have C7 := Lib.hid C7
  have C8 := Lib.hid C8
  go_wp2_with fail
  refine S.out.mono ?_
  rintro e w2 ⟨rfl, rfl⟩
  generalize w1.alloc (.cells #[.int .u32 a, .int .u32 b] 22) = wq at *
  go_wp2_with fail
  refine (C1.out _).mono ?_
  rintro e w3 ⟨rfl, rfl⟩
  go_wp2_with fail
  refine (C2.out _).mono ?_
  rintro e w3 ⟨rfl, rfl⟩
  go_wp2_with fail
  refine (C3.out _).mono ?_
  rintro e w3 ⟨rfl, rfl⟩
  rcases (by omega : z = 0 ∨ (0 < z ∧ z < 2147483648) ∨ z = 2147483648 ∨ 2147483648 < z) with h0 | h0 | h0 | h0
  · have hab : (a == b) = true := beq_iff_eq.2 (q1.2 h0)
    have hz : (z == 2147483648) = false := beq_eq_false_iff_ne.2 (by omega)
    clear q1
    rw [show decide (0 < z ∧ z < 2147483648) = false from decide_eq_false (by omega)] at C4
    rw [show decide (2147483648 < z) = false from decide_eq_false (by omega)] at C5
    by_cases hxy : x + y = z
    · rw [decide_eq_true hxy] at C6
      have hq : (x + y == z) = true := beq_iff_eq.2 hxy
      go_wp2_with fail
      refine (C4.out _).mono ?_
      rintro e w3 ⟨rfl, rfl⟩
      go_wp2_with fail
      refine (C5.out _).mono ?_
      rintro e w3 ⟨rfl, rfl⟩
      go_wp2_with fail
      refine (C6.out _).mono ?_
      rintro e w3 ⟨rfl, rfl⟩
      go_wp2_with fail
      refine (C7.out _).mono ?_
      rintro e w3 ⟨rfl, rfl⟩
      go_wp2_with fail
      refine (C8.out _).mono ?_
      rintro e w3 ⟨rfl, rfl⟩
      go_wp2
      all_goals (go_ret; first | exact ⟨rfl, g2⟩ | exact ⟨ret_bool (by simp; omega), g2⟩)
    · rw [decide_eq_false hxy] at C6
      have hq : (x + y == z) = false := beq_eq_false_iff_ne.2 hxy
      go_wp2_with fail
      refine (C4.out _).mono ?_
      rintro e w3 ⟨rfl, rfl⟩
      go_wp2_with fail
      refine (C5.out _).mono ?_
      rintro e w3 ⟨rfl, rfl⟩
      go_wp2_with fail
      refine (C6.out _).mono ?_
      rintro e w3 ⟨rfl, rfl⟩
      go_wp2_with fail
      refine (C7.out _).mono ?_
      rintro e w3 ⟨rfl, rfl⟩
      go_wp2_with fail
      refine (C8.out _).mono ?_
      rintro e w3 ⟨rfl, rfl⟩
      go_wp2
      all_goals (go_ret; first | exact ⟨rfl, g2⟩ | exact ⟨ret_bool (by simp; omega), g2⟩)
  · have hne : ¬ a = b := fun e => by have := q1.1 e; omega
    have hab : (a == b) = false := beq_eq_false_iff_ne.2 hne
    have hz : (z == 2147483648) = false := beq_eq_false_iff_ne.2 (by omega)
    clear q1
    rw [show decide (0 < z ∧ z < 2147483648) = true from decide_eq_true (by omega)] at C4
    rw [show decide (2147483648 < z) = false from decide_eq_false (by omega)] at C5
    by_cases hxy : x + y = z
    · rw [decide_eq_true hxy] at C6
      have hq : (x + y == z) = true := beq_iff_eq.2 hxy
      go_wp2_with fail
      refine (C4.out _).mono ?_
      rintro e w3 ⟨rfl, rfl⟩
      go_wp2_with fail
      refine (C5.out _).mono ?_
      rintro e w3 ⟨rfl, rfl⟩
      go_wp2_with fail
      refine (C6.out _).mono ?_
      rintro e w3 ⟨rfl, rfl⟩
      go_wp2_with fail
      refine (C7.out _).mono ?_
      rintro e w3 ⟨rfl, rfl⟩
      go_wp2_with fail
      refine (C8.out _).mono ?_
      rintro e w3 ⟨rfl, rfl⟩
      go_wp2
      all_goals (go_ret; first | exact ⟨rfl, g2⟩ | exact ⟨ret_bool (by simp; omega), g2⟩)
    · rw [decide_eq_false hxy] at C6
      have hq : (x + y == z) = false := beq_eq_false_iff_ne.2 hxy
      go_wp2_with fail
      refine (C4.out _).mono ?_
      rintro e w3 ⟨rfl, rfl⟩
      go_wp2_with fail
      refine (C5.out _).mono ?_
      rintro e w3 ⟨rfl, rfl⟩
      go_wp2_with fail
      refine (C6.out _).mono ?_
      rintro e w3 ⟨rfl, rfl⟩
      go_wp2_with fail
      refine (C7.out _).mono ?_
      rintro e w3 ⟨rfl, rfl⟩
      go_wp2_with fail
      refine (C8.out _).mono ?_
      rintro e w3 ⟨rfl, rfl⟩
      go_wp2
      all_goals (go_ret; first | exact ⟨rfl, g2⟩ | exact ⟨ret_bool (by simp; omega), g2⟩)
  · have hne : ¬ a = b := fun e => by have := q1.1 e; omega
    have hab : (a == b) = false := beq_eq_false_iff_ne.2 hne
    have hz : (z == 2147483648) = true := beq_iff_eq.2 h0
    clear q1
    rw [show decide (0 < z ∧ z < 2147483648) = false from decide_eq_false (by omega)] at C4
    rw [show decide (2147483648 < z) = false from decide_eq_false (by omega)] at C5
    by_cases hxy : x + y = z
    · rw [decide_eq_true hxy] at C6
      have hq : (x + y == z) = true := beq_iff_eq.2 hxy
      go_wp2_with fail
      refine (C4.out _).mono ?_
      rintro e w3 ⟨rfl, rfl⟩
      go_wp2_with fail
      refine (C5.out _).mono ?_
      rintro e w3 ⟨rfl, rfl⟩
      go_wp2_with fail
      refine (C6.out _).mono ?_
      rintro e w3 ⟨rfl, rfl⟩
      go_wp2_with fail
      refine (C7.out _).mono ?_
      rintro e w3 ⟨rfl, rfl⟩
      go_wp2_with fail
      refine (C8.out _).mono ?_
      rintro e w3 ⟨rfl, rfl⟩
      go_wp2
      all_goals (go_ret; first | exact ⟨rfl, g2⟩ | exact ⟨ret_bool (by simp; omega), g2⟩)
    · rw [decide_eq_false hxy] at C6
      have hq : (x + y == z) = false := beq_eq_false_iff_ne.2 hxy
      go_wp2_with fail
      refine (C4.out _).mono ?_
      rintro e w3 ⟨rfl, rfl⟩
      go_wp2_with fail
      refine (C5.out _).mono ?_
      rintro e w3 ⟨rfl, rfl⟩
      go_wp2_with fail
      refine (C6.out _).mono ?_
      rintro e w3 ⟨rfl, rfl⟩
      go_wp2_with fail
      refine (C7.out _).mono ?_
      rintro e w3 ⟨rfl, rfl⟩
      go_wp2_with fail
      refine (C8.out _).mono ?_
      rintro e w3 ⟨rfl, rfl⟩
      go_wp2
      all_goals (go_ret; first | exact ⟨rfl, g2⟩ | exact ⟨ret_bool (by simp; omega), g2⟩)
  · have hne : ¬ a = b := fun e => by have := q1.1 e; omega
    have hab : (a == b) = false := beq_eq_false_iff_ne.2 hne
    have hz : (z == 2147483648) = false := beq_eq_false_iff_ne.2 (by omega)
    clear q1
    rw [show decide (0 < z ∧ z < 2147483648) = false from decide_eq_false (by omega)] at C4
    rw [show decide (2147483648 < z) = true from decide_eq_true (by omega)] at C5
    by_cases hxy : x + y = z
    · rw [decide_eq_true hxy] at C6
      have hq : (x + y == z) = true := beq_iff_eq.2 hxy
      go_wp2_with fail
      refine (C4.out _).mono ?_
      rintro e w3 ⟨rfl, rfl⟩
      go_wp2_with fail
      refine (C5.out _).mono ?_
      rintro e w3 ⟨rfl, rfl⟩
      go_wp2_with fail
      refine (C6.out _).mono ?_
      rintro e w3 ⟨rfl, rfl⟩
      go_wp2_with fail
      refine (C7.out _).mono ?_
      rintro e w3 ⟨rfl, rfl⟩
      go_wp2_with fail
      refine (C8.out _).mono ?_
      rintro e w3 ⟨rfl, rfl⟩
      go_wp2
      all_goals (go_ret; first | exact ⟨rfl, g2⟩ | exact ⟨ret_bool (by simp; omega), g2⟩)
    · rw [decide_eq_false hxy] at C6
      have hq : (x + y == z) = false := beq_eq_false_iff_ne.2 hxy
      go_wp2_with fail
      refine (C4.out _).mono ?_
      rintro e w3 ⟨rfl, rfl⟩
      go_wp2_with fail
      refine (C5.out _).mono ?_
      rintro e w3 ⟨rfl, rfl⟩
      go_wp2_with fail
      refine (C6.out _).mono ?_
      rintro e w3 ⟨rfl, rfl⟩
      go_wp2_with fail
      refine (C7.out _).mono ?_
      rintro e w3 ⟨rfl, rfl⟩
      go_wp2_with fail
      refine (C8.out _).mono ?_
      rintro e w3 ⟨rfl, rfl⟩
      go_wp2
      all_goals (go_ret; first | exact ⟨rfl, g2⟩ | exact ⟨ret_bool (by simp; omega), g2⟩)
end Go.Proofs.YtlaahakobghmhaaDoor
