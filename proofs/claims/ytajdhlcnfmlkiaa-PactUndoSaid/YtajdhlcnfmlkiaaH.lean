/- The law's own head: ask and grant, and what they are named: it answers true. -/
import Derived.Test.YtajdhlcnfmlkiaaF
import Derived.Test.YtajdhlcnfmlkiaaG
namespace Go.Proofs.Ytajdhlcnfmlkiaa
open Go.RowKit
attribute [local go_sem ↓] Go.wp_at_zero Go.wp_at_succ

/-- The cells of a side's block, as the walk asks for them. -/
theorem Blk.side {w : World} {g : Nat} {x y z : Value} (h : Blk w g 23 #[x, y, z]) : w.cell? ⟨g, 0, none⟩ = some x ∧ w.cell? ⟨g, 1, none⟩ = some y ∧ w.cell? ⟨g, 2, none⟩ = some z ∧ w.frozen? ⟨g, 0, none⟩ = false ∧ w.frozen? ⟨g, 1, none⟩ = false ∧ w.frozen? ⟨g, 2, none⟩ = false :=
  ⟨h.cell 0, h.cell 1, h.cell 2, h.frozen 0, h.frozen 1, h.frozen 2⟩
theorem Blk.store3 {w : World} {g : Nat} {x y z x' y' z' : Value} (h : Blk w g 23 #[x, y, z]) : Blk (((w.setCell ⟨g, 0, none⟩ x').setCell ⟨g, 1, none⟩ y').setCell ⟨g, 2, none⟩ z') g 23 #[x', y', z'] := ((h.set_ 0 x').set_ 1 y').set_ 2 z'
theorem Blk.far3 {w : World} {g g' : Nat} {t : TypeId} {cs : Array Value} (h : Blk w g t cs) (hg : g ≠ g') (x' y' z' : Value) : Blk (((w.setCell ⟨g', 0, none⟩ x').setCell ⟨g', 1, none⟩ y').setCell ⟨g', 2, none⟩ z') g t cs := ((h.far hg x').far hg y').far hg z'

theorem lives1 (w : World) : Calls Try.prog 9 #[S 0 false false, S 0 false false, .int .i64 1] w fun e w' => e = .returned (.tuple #[S 0 true false, S 0 false true, .int .i64 0]) ∧ Below w.heap.size w w' :=
  both_ok 0 false false 0 false false 1 (by decide) (by decide) (by omega) (by omega) w
theorem lives2 (w : World) : Calls Try.prog 9 #[S 0 false true, S 0 true false, .int .i64 2] w fun e w' => e = .returned (.tuple #[S 2 false false, S 1 false false, .int .i64 0]) ∧ Below w.heap.size w w' :=
  both_ok 0 false true 0 true false 2 (by decide) (by decide) (by omega) (by omega) w
theorem livesN (w : World) : Calls Try.prog 19 #[.int .i64 2] w fun e w' => e = .returned (.string t2) ∧ Below w.heap.size w w' := name_any 2 w
theorem livesA (w : World) : Calls Try.prog 18 #[.string t3] w fun e w' => e = .returned (.int .i64 3) ∧ Below w.heap.size w w' := by
  have h := act_any t3 w
  rwa [show actOf t3 = 3 by decide +kernel] at h
theorem livesF (w : World) : Calls Try.prog 11 #[S 1 false false, S 2 false false] w fun e w' => e = .returned (.bool true) ∧ Below w.heap.size w w' := fit_any 1 false false 2 false false w

set_option maxHeartbeats 1000000 in
theorem lives_any (w : World) : Calls Try.prog 8 #[] w fun e w' => e = .returned (.bool true) ∧ Below w.heap.size w w' := by
  go_enter Try.func8, Try.ntmps8
  go_wp2_with fail
  refine (lives1 _).mono ?_
  rintro e w1 ⟨rfl, hb1⟩
  have B1 := hb1
  go_wp2_with fail
  refine (lives2 _).mono ?_
  rintro e w2 ⟨rfl, hb2⟩
  have a2 := ((Blk.new w1 23 #[.int .i64 0, .bool true, .bool false]).alloc _).below hb2 (by simp; omega)
  have b2' := Blk.new (w1.alloc (.cells #[.int .i64 0, .bool true, .bool false] 23)) 23 #[.int .i64 0, .bool false, .bool true]
  simp only [World.size_alloc] at b2'
  have b2 := b2'.below hb2 (by simp)
  have B2 := ((B1.alloc B1.size (.cells #[.int .i64 0, .bool true, .bool false] 23)).alloc (by simp; have := B1.size; omega) (.cells #[.int .i64 0, .bool false, .bool true] 23)).trans (hb2.mono (by simp; have := B1.size; omega))
  clear b2' hb2 hb1
  obtain ⟨x0, x1, x2, f0, f1, f2⟩ := a2.side
  obtain ⟨y0, y1, y2, g0, g1, g2⟩ := b2.side
  have a3 := (a2.far3 (g' := w1.heap.size + 1) (by omega) (.int .i64 2) (.bool false) (.bool false)).store3 (x' := .int .i64 1) (y' := .bool false) (z' := .bool false)
  have b3 := (b2.store3 (x' := .int .i64 2) (y' := .bool false) (z' := .bool false)).far3 (g' := w1.heap.size) (by omega) (.int .i64 1) (.bool false) (.bool false)
  have B3 := ((((((B2.setCell (p := ⟨w1.heap.size + 1, 0, none⟩) (by simp; have := B1.size; omega) (.int .i64 2)).setCell (p := ⟨w1.heap.size + 1, 1, none⟩) (by simp; have := B1.size; omega) (.bool false)).setCell (p := ⟨w1.heap.size + 1, 2, none⟩) (by simp; have := B1.size; omega) (.bool false)).setCell (p := ⟨w1.heap.size, 0, none⟩) (by simp; have := B1.size; omega) (.int .i64 1)).setCell (p := ⟨w1.heap.size, 1, none⟩) (by simp; have := B1.size; omega) (.bool false)).setCell (p := ⟨w1.heap.size, 2, none⟩) (by simp; have := B1.size; omega) (.bool false))
  go_wp2_with fail
  refine (sees_at 1 false false true rfl _).mono ?_
  rintro e w4 ⟨rfl, hb4⟩
  have B4 := B3.trans (hb4.mono B3.size)
  have a4 := a3.below hb4 a3.lt
  have b4 := b3.below hb4 b3.lt
  clear hb4 a3 b3 B3
  obtain ⟨x40, x41, x42, _, _, _⟩ := a4.side
  obtain ⟨y40, y41, y42, _, _, _⟩ := b4.side
  go_wp2_with fail
  refine (seen_at 2 false false true rfl _).mono ?_
  rintro e w5 ⟨rfl, hb5⟩
  have B5 := B4.trans (hb5.mono B4.size)
  have a5 := a4.below hb5 a4.lt
  have b5 := b4.below hb5 b4.lt
  clear hb5 a4 b4 B4
  obtain ⟨x50, x51, x52, _, _, _⟩ := a5.side
  obtain ⟨y50, y51, y52, _, _, _⟩ := b5.side
  go_wp2_with fail
  refine (seen_at 1 false false false rfl _).mono ?_
  rintro e w6 ⟨rfl, hb6⟩
  have B6 := B5.trans (hb6.mono B5.size)
  have a6 := a5.below hb6 a5.lt
  have b6 := b5.below hb6 b5.lt
  clear hb6 a5 b5 B5
  obtain ⟨x60, x61, x62, _, _, _⟩ := a6.side
  obtain ⟨y60, y61, y62, _, _, _⟩ := b6.side
  go_wp2_with fail
  refine (livesN _).mono ?_
  rintro e w7 ⟨rfl, hb7⟩
  have B7 := B6.trans (hb7.mono B6.size)
  have a7 := a6.below hb7 a6.lt
  have b7 := b6.below hb7 b6.lt
  clear hb7 a6 b6 B6
  obtain ⟨x70, x71, x72, _, _, _⟩ := a7.side
  obtain ⟨y70, y71, y72, _, _, _⟩ := b7.side
  have e2 : (t2.toList == [115, 117, 98, 115, 99, 114, 105, 98, 101, 100]) = true := by decide +kernel
  go_wp2_with fail
  refine (livesA _).mono ?_
  rintro e w8 ⟨rfl, hb8⟩
  have B8 := B7.trans (hb8.mono B7.size)
  have a8 := a7.below hb8 a7.lt
  have b8 := b7.below hb8 b7.lt
  clear hb8 a7 b7 B7
  obtain ⟨x80, x81, x82, _, _, _⟩ := a8.side
  obtain ⟨y80, y81, y82, _, _, _⟩ := b8.side
  go_wp2_with fail
  refine (livesF _).mono ?_
  rintro e w9 ⟨rfl, hb9⟩
  have B9 := B8.trans (hb9.mono B8.size)
  have a9 := a8.below hb9 a8.lt
  have b9 := b8.below hb9 b8.lt
  clear hb9 a8 b8 B8
  obtain ⟨x90, x91, x92, _, _, _⟩ := a9.side
  obtain ⟨y90, y91, y92, _, _, _⟩ := b9.side
  go_wp2
  go_ret
  exact ⟨rfl, B9⟩
end Go.Proofs.Ytajdhlcnfmlkiaa
