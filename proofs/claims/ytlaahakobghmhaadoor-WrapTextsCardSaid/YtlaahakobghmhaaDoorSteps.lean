/- WrapSteps: steps on and back, how many there are, what lies between, and what is less, is what the document says. -/
import Derived.Test.YtlaahakobghmhaaDoorC
import Derived.Deep.QuietTactic
namespace Go.Proofs.YtlaahakobghmhaaDoor
open Go.RowKit
attribute [local go_sem ↓] Go.wp_at_zero Go.wp_at_succ

theorem within_same (h a b : Int) (hh : 0 ≤ h ∧ h < 4294967296) (ha : 0 ≤ a ∧ a < 4294967296) (hb : 0 ≤ b ∧ b < 4294967296) : rwithinB h a b = withinB h a b := by
  unfold rwithinB withinB
  by_cases h0 : a ≤ b
  · rw [if_pos h0, decide_eq_decide]
    omega
  · rw [if_neg h0, decide_eq_decide]
    omega

def quietC (f : Nat) (args : Array Value) (v : Value) (w : World) : Prop := ∀ n, Calls Tryd.prog f args (w.drewN n) fun e w' => e = .returned v ∧ w' = w.drewN n
theorem quiet_of {f : Nat} {args : Array Value} {v : Value} (h : ∀ W, Calls Tryd.prog f args W fun e w' => e = .returned v ∧ W = w') (w : World) : quietC f args v w := fun n => (h (w.drewN n)).mono fun _ _ k => ⟨k.1, k.2.symm⟩
theorem grown_drewN (w : World) (n : Nat) : w.grownBy (w.drewN n) none := ⟨rfl, rfl, rfl, Nat.le_refl _, fun _ _ _ => rfl⟩

set_option maxRecDepth 100000 in
theorem steps_any (a b c n : Int) (ha : 0 ≤ a ∧ a < 4294967296) (hb : 0 ≤ b ∧ b < 4294967296) (hc : 0 ≤ c ∧ c < 4294967296) (w : World) :
    Calls Tryd.prog 3 #[.agg #[.int .u32 a, .int .u32 b, .int .u32 c], .int .i64 n] w fun e w' => e = .returned (.bool true) ∧ w.grownBy w' none := by
  go_enter Tryd.func3, Tryd.ntmps3
  go_wp2_with fail
  refine (lives_any _).mono ?_
  rintro e w1 ⟨rfl, g1⟩
  have hblk : w1.heap[w.heap.size]? = some (.cells #[.int .u32 a, .int .u32 b, .int .u32 c] 23 (0, 0)) := (g1.block w.heap.size (by simp) (by simp)).trans (heap_alloc_new w _)
  have gw := grown_trans (World.grownBy_alloc w _ none) g1
  have x0 : w1.cell? ⟨w.heap.size, 0, none⟩ = some (.int .u32 a) := cell_of_row _ _ 0 _ 23 (0, 0) hblk
  have x1 : w1.cell? ⟨w.heap.size, 1, none⟩ = some (.int .u32 b) := cell_of_row _ _ 1 _ 23 (0, 0) hblk
  have x2 : w1.cell? ⟨w.heap.size, 2, none⟩ = some (.int .u32 c) := cell_of_row _ _ 2 _ 23 (0, 0) hblk
  have C10 := Lib.hid (quiet_of (fun W => add_any a n W) w1)
  have C11 := Lib.hid (quiet_of (fun W => radd_any a n ha W) w1)
  have C12 := Lib.hid (quiet_of (fun W => ahead_any a b W) w1)
  have C13 := Lib.hid (quiet_of (fun W => rahead_any a b ha hb W) w1)
  have C14 := Lib.hid (quiet_of (fun W => within_any a b c W) w1)
  have C15 := Lib.hid (quiet_of (fun W => rwithin_any a b c W) w1)
  have C16 := Lib.hid (quiet_of (fun W => less_any a b W) w1)
  have C17 := Lib.hid (quiet_of (fun W => rless_any a b ha hb W) w1)
  rw [within_same a b c ha hb hc] at C15
  generalize (a + n) % 4294967296 = r1 at *
  generalize (b - a) % 4294967296 = r2 at *
  generalize withinB a b c = r3 at *
  generalize lessB a b = r4 at *
  generalize w.heap.size = g at *
  clear hblk g1 ha hb hc
  cases r3 <;> cases r4
  all_goals
    go_wp2_with fail
    go_quiet (first | (go_at_call 10; exact Calls.quiet_of_same (C10.out _)) | (go_at_call 11; exact Calls.quiet_of_same (C11.out _)) | (go_at_call 12; exact Calls.quiet_of_same (C12.out _)) | (go_at_call 13; exact Calls.quiet_of_same (C13.out _)) | (go_at_call 14; exact Calls.quiet_of_same (C14.out _)) | (go_at_call 15; exact Calls.quiet_of_same (C15.out _)) | (go_at_call 16; exact Calls.quiet_of_same (C16.out _)) | (go_at_call 17; exact Calls.quiet_of_same (C17.out _)))
    go_wp2
    all_goals (go_ret; exact ⟨rfl, grown_trans gw (grown_drewN _ _)⟩)
end Go.Proofs.YtlaahakobghmhaaDoor
