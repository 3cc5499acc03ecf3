/- WrapOrder: what is less goes on. -/
import Derived.Test.YtlaahakobghmhaaDoorC
namespace Go.Proofs.YtlaahakobghmhaaDoor
open Go.RowKit
attribute [local go_sem ↓] Go.wp_at_zero Go.wp_at_succ

set_option maxHeartbeats 8000000 in
set_option maxRecDepth 100000 in
theorem order_any (h b n : Int) (hh : 0 ≤ h ∧ h < 4294967296) (hb : 0 ≤ b ∧ b < 4294967296) (w : World) :
    Calls Tryd.prog 5 #[.int .u32 h, .int .u32 b, .int .i64 n] w fun e w' => e = .returned (.bool true) ∧ w.grownBy w' none := by
  go_enter Tryd.func5, Tryd.ntmps5
  go_wp2_with fail
  refine (lives_any _).mono ?_
  rintro e w1 ⟨rfl, g1⟩
  go_wp2_with fail
  have hm : 0 ≤ wrap64 ((IntKind.u64.wrap n).tmod 4294967296) ∧ wrap64 ((IntKind.u64.wrap n).tmod 4294967296) < 4294967296 := by
    have h0 : 0 ≤ IntKind.u64.wrap n := by simp only [IntKind.wrap, IntKind.signed, IntKind.bits]; simp; omega
    rw [Int.tmod_eq_emod_of_nonneg h0]
    generalize IntKind.u64.wrap n = y at *
    rw [IntWalk.wrap64_in _ ⟨by omega, by omega⟩]
    omega
  generalize wrap64 ((IntKind.u64.wrap n).tmod 4294967296) = m at *
  refine (add_any h m _).mono ?_
  rintro e w2 ⟨rfl, rfl⟩
  go_wp2_with fail
  refine (add_any h b _).mono ?_
  rintro e w2 ⟨rfl, rfl⟩
  go_wp2_with fail
  refine (add_any ((h + b) % 4294967296) m _).mono ?_
  rintro e w2 ⟨rfl, rfl⟩
  have ha : (h + m) % 4294967296 = h ↔ m = 0 := by omega
  have L1 : lessB h ((h + m) % 4294967296) = decide (1 ≤ m ∧ m < 2147483648) := by unfold lessB; rw [decide_eq_decide]; omega
  have L2 : lessB ((h + b) % 4294967296) (((h + b) % 4294967296 + m) % 4294967296) = decide (1 ≤ m ∧ m < 2147483648) := by unfold lessB; rw [decide_eq_decide]; omega
  have L3 : lessB h h = false := by unfold lessB; simp
  have C1 := fun W => less_any h ((h + m) % 4294967296) W
  have C2 := fun W => add_any h b W
  have C3 := fun W => less_any ((h + b) % 4294967296) (((h + b) % 4294967296 + m) % 4294967296) W
  have C4 := fun W => less_any h h W
  rw [L1] at C1
  rw [L2] at C3
  rw [L3] at C4
  clear L1 L2 L3 hh
  generalize (h + m) % 4294967296 = a at *
  generalize ((h + b) % 4294967296 + m) % 4294967296 = y at *
  generalize (h + b) % 4294967296 = x at *
  have C1 := Lib.hid C1
  have C2 := Lib.hid C2
  have C3 := Lib.hid C3
  have C4 := Lib.hid C4
  rcases (by omega : m = 0 ∨ (1 ≤ m ∧ m < 2147483648) ∨ 2147483648 ≤ m) with h0 | ⟨h1, h2⟩ | h3
  · have hae : a = h := ha.2 h0
    clear ha
    subst h0
    subst hae
    rw [show decide ((1 : Int) ≤ 0 ∧ (0 : Int) < 2147483648) = false by decide] at C1 C3
    go_wp2_with fail
    refine (C1.out _).mono ?_
    rintro e w3 ⟨rfl, rfl⟩
    go_wp2_with fail
    refine (C2.out _).mono ?_
    rintro e w3 ⟨rfl, rfl⟩
    go_wp2_with fail
    refine (C3.out _).mono ?_
    rintro e w3 ⟨rfl, rfl⟩
    go_wp2_with fail
    refine (C4.out _).mono ?_
    rintro e w3 ⟨rfl, rfl⟩
    go_wp2
    all_goals (go_ret; exact ⟨rfl, g1⟩)
  · have hne : ¬ a = h := fun e => by have := ha.1 e; omega
    clear ha
    have m0 : ¬ m = 0 := by omega
    have q : ((m == 0) == (a == h)) = true := by rw [beq_eq_false_iff_ne.2 m0, beq_eq_false_iff_ne.2 hne]; rfl
    have q := Lib.hid q
    rw [show decide (1 ≤ m ∧ m < 2147483648) = true from decide_eq_true ⟨h1, h2⟩] at C1 C3
    go_wp2_with fail
    refine (C1.out _).mono ?_
    rintro e w3 ⟨rfl, rfl⟩
    go_wp2_with fail
    refine (C2.out _).mono ?_
    rintro e w3 ⟨rfl, rfl⟩
    go_wp2_with fail
    refine (C3.out _).mono ?_
    rintro e w3 ⟨rfl, rfl⟩
    go_wp2_with fail
    refine (C4.out _).mono ?_
    rintro e w3 ⟨rfl, rfl⟩
    go_wp2
    all_goals (go_ret; first | exact ⟨rfl, g1⟩ | exact ⟨ret_bool q.out, g1⟩ | exact ⟨ret_bool (by simp; omega), g1⟩)
  · have hne : ¬ a = h := fun e => by have := ha.1 e; omega
    clear ha
    have m0 : ¬ m = 0 := by omega
    have q : ((m == 0) == (a == h)) = true := by rw [beq_eq_false_iff_ne.2 m0, beq_eq_false_iff_ne.2 hne]; rfl
    have q := Lib.hid q
    have h1 : 1 ≤ m := by omega
    have h2 : ¬ m < 2147483648 := by omega
    rw [show decide (1 ≤ m ∧ m < 2147483648) = false from decide_eq_false (by omega)] at C1 C3
    go_wp2_with fail
    refine (C1.out _).mono ?_
    rintro e w3 ⟨rfl, rfl⟩
    go_wp2_with fail
    refine (C2.out _).mono ?_
    rintro e w3 ⟨rfl, rfl⟩
    go_wp2_with fail
    refine (C3.out _).mono ?_
    rintro e w3 ⟨rfl, rfl⟩
    go_wp2_with fail
    refine (C4.out _).mono ?_
    rintro e w3 ⟨rfl, rfl⟩
    go_wp2
    all_goals (go_ret; first | exact ⟨rfl, g1⟩ | exact ⟨ret_bool q.out, g1⟩ | exact ⟨ret_bool (by simp; omega), g1⟩)
end Go.Proofs.YtlaahakobghmhaaDoor
