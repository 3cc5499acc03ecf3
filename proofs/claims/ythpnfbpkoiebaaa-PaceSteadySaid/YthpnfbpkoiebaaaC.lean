/- The law's own head: three halves: it answers true. -/
import Derived.Test.YthpnfbpkoiebaaaB
namespace Go.Proofs.Ythpnfbpkoiebaaa
open Go.RowKit PaceFl
attribute [local go_sem ↓] Go.wp_at_zero Go.wp_at_succ
attribute [local go_sem] run_store_float

def L3 (k : Nat) (best sum : Value) : Prop := (k = 0 ∧ best = .float .f64 0 ∧ sum = .float .f64 0) ∨ (k = 1 ∧ best = .float .f64 4607182418800017408 ∧ sum = .float .f64 4607182418800017408) ∨ (k = 2 ∧ best = .float .f64 4613937818241073152 ∧ sum = .float .f64 4613937818241073152) ∨ (k = 3 ∧ best = .float .f64 4613937818241073152 ∧ sum = .float .f64 13835058055282163712)
def R3 (best sum i : Value) : Prop := ∃ k : Nat, k ≤ 3 ∧ i = .int .i64 k ∧ L3 k best sum

theorem add_at (x y s : Nat) (h : Ieee.double.add x y = some s) (W : World) : (binOp .add 22 (.float .f64 x) (.float .f64 y)).run Try.prog W = .ok (.float .f64 s) W :=
  run_float_arith (P := Try.prog) W .add 22 .f64 x y s h
theorem gt_at (x y : Nat) (b : Bool) (h : gtB x y = b) : (FloatKind.f64.format.order x y == some .gt) = b := by rw [f64_gt]; exact h
theorem eq_at (x y : Nat) (b : Bool) (h : eqB x y = b) : (FloatKind.f64.format.order x y == some .eq) = b := by rw [f64_eq]; exact h

set_option maxHeartbeats 1000000 in
theorem steady3 (g : Nat) (w : World) (h0 : w.cell? ⟨g, 0, none⟩ = some (.float .f64 4607182418800017408)) (h1 : w.cell? ⟨g, 1, none⟩ = some (.float .f64 4611686018427387904)) (h2 : w.cell? ⟨g, 2, none⟩ = some (.float .f64 13840687554816376832)) :
    Calls Try.prog 14 #[.slice (some ⟨g, 0, none⟩) 3 3] w fun e w' => e = .returned (.float .f64 4613937818241073152) ∧ w = w' := by
  have a0 := add_at 0 4607182418800017408 4607182418800017408 (by decide +kernel)
  have a1 := add_at 4607182418800017408 4611686018427387904 4613937818241073152 (by decide +kernel)
  have a2 := add_at 4613937818241073152 13840687554816376832 13835058055282163712 (by decide +kernel)
  have g0 := gt_at 4607182418800017408 0 true (by decide +kernel)
  have g1 := gt_at 4613937818241073152 4607182418800017408 true (by decide +kernel)
  have g2 := gt_at 13835058055282163712 4613937818241073152 false (by decide +kernel)
  go_enter Try.func14, Try.ntmps14
  go_wp2
  go_loop [3, 4, 9] (fun b s i => R3 b s i) (fun _ _ i => 3 - (intOf i).toNat)
  case atStart => exact ⟨0, by omega, rfl, .inl ⟨rfl, rfl, rfl⟩⟩
  case round =>
    obtain ⟨k, hk, rfl, hl⟩ := hrel
    rcases hl with ⟨rfl, rfl, rfl⟩ | ⟨rfl, rfl, rfl⟩ | ⟨rfl, rfl, rfl⟩ | ⟨rfl, rfl, rfl⟩
    · go_wp2
      exact ⟨⟨1, by omega, rfl, .inr (.inl ⟨rfl, rfl, rfl⟩)⟩, by simp [intOf]⟩
    · go_wp2
      exact ⟨⟨2, by omega, rfl, .inr (.inr (.inl ⟨rfl, rfl, rfl⟩))⟩, by simp [intOf]⟩
    · go_wp2
      exact ⟨⟨3, by omega, rfl, .inr (.inr (.inr ⟨rfl, rfl, rfl⟩))⟩, by simp [intOf]⟩
    · go_wp2
      go_ret
      exact ⟨rfl, rfl⟩

theorem below_grown {w0 a b : World} {g : Nat} (h : Below w0.heap.size w0 a) (hg : a.grownBy b (some g)) (hl : w0.heap.size ≤ g) : Below w0.heap.size w0 b :=
  h.grown hg h.size (fun k hk => by injection hk with hk; omega)
def PaceNew (w : World) (g : Nat) (h : Int) : Prop := PaceAt w g 0 0 h
theorem pace_new (w : World) (half : Int) : PaceAt (w.alloc (.cells (paceCells 0 0 (clampH half)) 48)) w.heap.size 0 0 (clampH half) :=
  ⟨Blk.new _ _ _, zero_top, by omega, by omega, (clampH_bd half).1, (clampH_bd half).2⟩

set_option maxRecDepth 100000 in
set_option maxHeartbeats 1000000 in
theorem lives_any (w : World) : Calls Try.prog 8 #[] w fun e w' => e = .returned (.bool true) ∧ Below w.heap.size w w' := by
  have E0 := Lib.hid (show lvl 0 0 10 0 4620693217682128896 = 4620693217682128896 ∧ (0 : Int) + stepsI 0 10 0 * 10 = 0 by decide +kernel)
  have E1 := Lib.hid (show hv 4620693217682128896 0 10 10 = 4616189618054758400 ∧ tm 0 10 10 = 10 by decide +kernel)
  have E2 := Lib.hid (show hv 4616189618054758400 10 10 25 = 4611686018427387904 ∧ tm 10 10 25 = 20 by decide +kernel)
  have E3 := Lib.hid (show hv 4611686018427387904 20 10 25 = 4611686018427387904 ∧ tm 20 10 25 = 20 by decide +kernel)
  have F1 := Lib.hid (show (!leB 4611686018427387904 4607182418800017408) = true by decide +kernel)
  have F2 := Lib.hid (show (!leB 4611686018427387904 4611686018427387904) = false by decide +kernel)
  have F3 := Lib.hid (show leB (halves 1 4611686018427387904) 4607182418800017408 = true ∧ leB (halves 0 4611686018427387904) 4607182418800017408 = false by decide +kernel)
  have q1 := eq_at 4620693217682128896 4620693217682128896 true (by decide +kernel)
  have q2 := eq_at 4616189618054758400 4616189618054758400 true (by decide +kernel)
  have q3 := eq_at 4611686018427387904 4611686018427387904 true (by decide +kernel)
  have q4 := eq_at 4613937818241073152 4613937818241073152 true (by decide +kernel)
  go_enter Try.func8, Try.ntmps8
  go_wp2_with fail
  refine (new_any 10 _).mono ?_
  rintro e w1 ⟨rfl, rfl⟩
  have p0 := pace_new w 10
  rw [show clampH 10 = 10 by decide] at p0
  have hB0 : Below w.heap.size w (w.alloc (.cells (paceCells 0 0 (clampH 10)) 48)) := (Below.refl _ _).alloc (Nat.le_refl _) _
  have A1 := Lib.hid (fun W (hW : PaceAt W w.heap.size 0 0 10) => add_any w.heap.size 0 4620693217682128896 0 10 0 W hW (by omega))
  rw [E0.out.1, E0.out.2] at A1
  have A2 := Lib.hid (fun W (hW : PaceAt W w.heap.size 4620693217682128896 0 10) => level_any w.heap.size 4620693217682128896 0 10 10 W hW)
  rw [E1.out.1, E1.out.2] at A2
  have A3 := Lib.hid (fun W (hW : PaceAt W w.heap.size 4616189618054758400 10 10) => level_any w.heap.size 4616189618054758400 10 10 25 W hW)
  rw [E2.out.1, E2.out.2] at A3
  have A4 := Lib.hid (fun W (hW : PaceAt W w.heap.size 4611686018427387904 20 10) => over_any w.heap.size 4611686018427387904 4607182418800017408 20 10 25 W hW)
  rw [E3.out.1, E3.out.2, F1.out] at A4
  have A5 := Lib.hid (fun W (hW : PaceAt W w.heap.size 4611686018427387904 20 10) => over_any w.heap.size 4611686018427387904 4611686018427387904 20 10 25 W hW)
  rw [E3.out.1, E3.out.2, F2.out] at A5
  have A6 := Lib.hid (fun W (hW : PaceAt W w.heap.size 4611686018427387904 20 10) => wait_any w.heap.size 4611686018427387904 4607182418800017408 20 10 25 W hW)
  rw [E3.out.1, E3.out.2] at A6
  clear E0 E1 E2 E3 F1 F2
  go_wp2_with fail
  refine (A1.out _ p0).mono ?_
  rintro e w1 ⟨rfl, p1, g1⟩
  have B1 := below_grown hB0 g1 (Nat.le_refl _)
  clear p0 g1 A1 hB0
  go_wp2_with fail
  refine (A2.out _ p1).mono ?_
  rintro e w2 ⟨rfl, p2, g2⟩
  have B2 := below_grown B1 g2 (Nat.le_refl _)
  clear p1 g2 A2 B1
  go_wp2_with fail
  refine (A3.out _ p2).mono ?_
  rintro e w3 ⟨rfl, p3, g3⟩
  have B3 := below_grown B2 g3 (Nat.le_refl _)
  clear p2 g3 A3 B2
  go_wp2_with fail
  refine (A4.out _ p3).mono ?_
  rintro e w4 ⟨rfl, p4, g4⟩
  have B4 := below_grown B3 g4 (Nat.le_refl _)
  clear p3 g4 A4 B3
  go_wp2_with fail
  refine (A5.out _ p4).mono ?_
  rintro e w5 ⟨rfl, p5, g5⟩
  have B5 := below_grown B4 g5 (Nat.le_refl _)
  clear p4 g5 A5 B4
  go_wp2_with fail
  refine (A6.out _ p5).mono ?_
  rintro e w6 ⟨⟨res, rfl, hw⟩, p6, g6⟩
  have B6 := below_grown B5 g6 (Nat.le_refl _)
  clear p5 g6 A6 B5
  obtain rfl : res = 5 := by
    have k := wait_found hw 1 (by omega) F3.out.1 (fun j hj => by rw [show j = 0 by omega]; exact F3.out.2)
    omega
  clear hw F3
  go_wp2_with fail
  refine (steady3 _ _ (by simp [go_sem]) (by simp [go_sem]) (by simp [go_sem])).mono ?_
  rintro e w7 ⟨rfl, rfl⟩
  go_wp2
  go_ret
  exact ⟨rfl, B6.alloc B6.size _⟩
end Go.Proofs.Ythpnfbpkoiebaaa
