/- pact.Both, out of what Do and Hear answer. -/
import Derived.Test.YtajdhlcnfmlkiaaB
namespace Go.Proofs.Ytajdhlcnfmlkiaa
open Go.RowKit
attribute [local go_sem ↓] Go.wp_at_zero Go.wp_at_succ

/-- Do's and Hear's answer at these arguments, in whatever world. -/
def Ans (f : FuncId) (n : Int) (a b : Bool) (act : Int) (n' : Int) (a' b' t e : Bool) (er : Int) : Prop :=
  ∀ w : World, Calls Try.prog f #[S n a b, .int .i64 act] w fun x w' => x = .returned (.tuple #[St n' a' b' t e, .int .i64 er]) ∧ Below w.heap.size w w'

abbrev sideCells (n : Int) (a b : Bool) : Array Value := #[.int .i64 n, .bool a, .bool b]
/-- What stays in Both: the two sides' blocks, the results' two, all that was there before. -/
def Rest2 (w0 : World) (n : Int) (a b : Bool) (m : Int) (c d : Bool) (w : World) : Prop :=
  Blk w w0.heap.size 23 (sideCells n a b) ∧ Blk w (w0.heap.size + 1) 23 (sideCells m c d) ∧ (∃ c0 c1 c2, Blk w (w0.heap.size + 1 + 1) 23 #[c0, c1, c2]) ∧ (∃ c0 c1 c2, Blk w (w0.heap.size + 1 + 1 + 1) 23 #[c0, c1, c2]) ∧ Below w0.heap.size w0 w
section
variable {w0 W w2 : World} {n : Int} {a b : Bool} {m : Int} {c d : Bool}
theorem rest2_new (w0 : World) (n : Int) (a b : Bool) (m : Int) (c d : Bool) (c0 c1 c2 d0 d1 d2 : Value) :
    Rest2 w0 n a b m c d ((((w0.alloc (.cells (sideCells n a b) 23)).alloc (.cells (sideCells m c d) 23)).alloc (.cells #[c0, c1, c2] 23)).alloc (.cells #[d0, d1, d2] 23)) := by
  have h1 := Blk.new (w0.alloc (.cells (sideCells n a b) 23)) 23 (sideCells m c d)
  have h2 := Blk.new ((w0.alloc (.cells (sideCells n a b) 23)).alloc (.cells (sideCells m c d) 23)) 23 #[c0, c1, c2]
  have h3 := Blk.new (((w0.alloc (.cells (sideCells n a b) 23)).alloc (.cells (sideCells m c d) 23)).alloc (.cells #[c0, c1, c2] 23)) 23 #[d0, d1, d2]
  simp only [World.size_alloc] at h1 h2 h3
  exact ⟨(((Blk.new _ _ _).alloc _).alloc _).alloc _, (h1.alloc _).alloc _, ⟨_, _, _, h2.alloc _⟩, ⟨_, _, _, h3⟩, ((((Below.refl _ _).alloc (Nat.le_refl _) _).alloc (by simp) _).alloc (by simp; omega) _).alloc (by simp; omega) _⟩
theorem rest2_below (hb : Below W.heap.size W w2) (h : Rest2 w0 n a b m c d W) : Rest2 w0 n a b m c d w2 := by
  obtain ⟨h1, h2, ⟨_, _, _, h3⟩, ⟨_, _, _, h4⟩, h5⟩ := h
  exact ⟨h1.below hb h1.lt, h2.below hb h2.lt, ⟨_, _, _, h3.below hb h3.lt⟩, ⟨_, _, _, h4.below hb h4.lt⟩, h5.trans (hb.mono h5.size)⟩
theorem rest2_alloc (h : Rest2 w0 n a b m c d W) (o : Obj) : Rest2 w0 n a b m c d (W.alloc o) := by
  obtain ⟨h1, h2, ⟨_, _, _, h3⟩, ⟨_, _, _, h4⟩, h5⟩ := h
  exact ⟨h1.alloc o, h2.alloc o, ⟨_, _, _, h3.alloc o⟩, ⟨_, _, _, h4.alloc o⟩, h5.alloc h5.size o⟩
theorem rest2_far (h : Rest2 w0 n a b m c d W) {g : Nat} (hg : w0.heap.size + 1 + 1 + 1 < g) (i : Nat) (v : Value) : Rest2 w0 n a b m c d (W.setCell ⟨g, i, none⟩ v) := by
  obtain ⟨h1, h2, ⟨_, _, _, h3⟩, ⟨_, _, _, h4⟩, h5⟩ := h
  exact ⟨h1.far (by simp; omega) v, h2.far (by simp; omega) v, ⟨_, _, _, h3.far (by simp; omega) v⟩, ⟨_, _, _, h4.far (by simp; omega) v⟩, h5.setCell (by simp; omega) v⟩
theorem rest2_size (h : Rest2 w0 n a b m c d W) : w0.heap.size + 1 + 1 + 1 < W.heap.size := by
  obtain ⟨h1, h2, ⟨_, _, _, h3⟩, ⟨_, _, _, h4⟩, h5⟩ := h
  exact h4.lt
theorem rest2_cells (h : Rest2 w0 n a b m c d W) : W.cell? ⟨w0.heap.size, 0, none⟩ = some (.int .i64 n) ∧ W.cell? ⟨w0.heap.size, 1, none⟩ = some (.bool a) ∧ W.cell? ⟨w0.heap.size, 2, none⟩ = some (.bool b) ∧
    W.cell? ⟨w0.heap.size + 1, 0, none⟩ = some (.int .i64 m) ∧ W.cell? ⟨w0.heap.size + 1, 1, none⟩ = some (.bool c) ∧ W.cell? ⟨w0.heap.size + 1, 2, none⟩ = some (.bool d) :=
  ⟨h.1.cell 0, h.1.cell 1, h.1.cell 2, h.2.1.cell 0, h.2.1.cell 1, h.2.1.cell 2⟩
theorem rest2_out (h : Rest2 w0 n a b m c d W) : ∃ c0 c1 c2 d0 d1 d2 : Value, W.cell? ⟨w0.heap.size + 1 + 1, 0, none⟩ = some c0 ∧ W.cell? ⟨w0.heap.size + 1 + 1, 1, none⟩ = some c1 ∧ W.cell? ⟨w0.heap.size + 1 + 1, 2, none⟩ = some c2 ∧ W.cell? ⟨w0.heap.size + 1 + 1 + 1, 0, none⟩ = some d0 ∧ W.cell? ⟨w0.heap.size + 1 + 1 + 1, 1, none⟩ = some d1 ∧ W.cell? ⟨w0.heap.size + 1 + 1 + 1, 2, none⟩ = some d2 ∧
    W.frozen? ⟨w0.heap.size + 1 + 1, 0, none⟩ = false ∧ W.frozen? ⟨w0.heap.size + 1 + 1, 1, none⟩ = false ∧ W.frozen? ⟨w0.heap.size + 1 + 1, 2, none⟩ = false ∧ W.frozen? ⟨w0.heap.size + 1 + 1 + 1, 0, none⟩ = false ∧ W.frozen? ⟨w0.heap.size + 1 + 1 + 1, 1, none⟩ = false ∧ W.frozen? ⟨w0.heap.size + 1 + 1 + 1, 2, none⟩ = false := by
  obtain ⟨_, _, ⟨c0, c1, c2, h3⟩, ⟨d0, d1, d2, h4⟩, _⟩ := h
  exact ⟨c0, c1, c2, d0, d1, d2, h3.cell 0, h3.cell 1, h3.cell 2, h4.cell 0, h4.cell 1, h4.cell 2, h3.frozen 0, h3.frozen 1, h3.frozen 2, h4.frozen 0, h4.frozen 1, h4.frozen 2⟩
end

theorem below_set3 {w0 W : World} (B : Below w0.heap.size w0 W) {g : Nat} (hg : w0.heap.size ≤ g) (v0 v1 v2 : Value) :
    Below w0.heap.size w0 (((W.setCell ⟨g, 0, none⟩ v0).setCell ⟨g, 1, none⟩ v1).setCell ⟨g, 2, none⟩ v2) := ((B.setCell hg v0).setCell hg v1).setCell hg v2

set_option maxHeartbeats 400000 in
theorem both_bad1 (n : Int) (a b : Bool) (m : Int) (c d : Bool) (act : Int) (HD : Hid (Ans 21 n a b act 0 false false false false 1)) (w : World) :
    Calls Try.prog 9 #[S n a b, S m c d, .int .i64 act] w fun e w' => e = .returned (.tuple #[S 0 false false, S 0 false false, .int .i64 1]) ∧ Below w.heap.size w w' := by
  have r0 := rest2_new w n a b m c d (.int .i64 0) (.bool false) (.bool false) (.int .i64 0) (.bool false) (.bool false)
  go_enter Try.func9, Try.ntmps9
  go_wp2_with fail
  refine (HD _).mono ?_
  rintro e w1 ⟨rfl, hb1⟩
  have r1 := rest2_below hb1 r0
  clear hb1 r0
  have z1 := rest2_size r1
  obtain ⟨c0, c1, c2, d0, d1, d2, x0, x1, x2, x3, x4, x5, f0, f1, f2, f3, f4, f5⟩ := rest2_out (rest2_alloc r1 (.cells #[.int .i64 0, .bool false, .bool false, .bool false, .bool false] 47))
  go_wp2
  refine bodyPost_ret (v := .tuple #[S 0 false false, S 0 false false, .int .i64 1]) (by simp [results, Try.results9, go_sem, x0, x1, x2, x3, x4, x5]) rfl ⟨rfl, ?_⟩
  exact below_set3 (below_set3 (rest2_alloc r1 _).2.2.2.2 (by omega) _ _ _) (by omega) _ _ _

set_option maxHeartbeats 400000 in
theorem both_bad2 (n : Int) (a b : Bool) (m : Int) (c d : Bool) (act : Int) (xn : Int) (xa xb xt : Bool) (HD : Hid (Ans 21 n a b act xn xa xb xt false 0)) (hr : Hid (rightB m c d = false)) (w : World) :
    Calls Try.prog 9 #[S n a b, S m c d, .int .i64 act] w fun e w' => e = .returned (.tuple #[S 0 false false, S 0 false false, .int .i64 1]) ∧ Below w.heap.size w w' := by
  have r0 := rest2_new w n a b m c d (.int .i64 0) (.bool false) (.bool false) (.int .i64 0) (.bool false) (.bool false)
  go_enter Try.func9, Try.ntmps9
  go_wp2_with fail
  refine (HD _).mono ?_
  rintro e w1 ⟨rfl, hb1⟩
  have r1 := rest2_below hb1 r0
  clear hb1 r0
  have z1 := rest2_size r1
  obtain ⟨u0, u1, u2, u3, u4, u5⟩ := rest2_cells (rest2_alloc r1 (.cells #[.int .i64 xn, .bool xa, .bool xb, .bool xt, .bool false] 47))
  go_wp2_with fail
  refine (right_no m c d hr _).mono ?_
  rintro e w2 ⟨rfl, hb2⟩
  have r2 := rest2_below hb2 (rest2_alloc r1 _)
  clear hb2
  have z2 := rest2_size r2
  obtain ⟨c0, c1, c2, d0, d1, d2, x0, x1, x2, x3, x4, x5, f0, f1, f2, f3, f4, f5⟩ := rest2_out r2
  go_wp2
  refine bodyPost_ret (v := .tuple #[S 0 false false, S 0 false false, .int .i64 1]) (by simp [results, Try.results9, go_sem, x0, x1, x2, x3, x4, x5]) rfl ⟨rfl, ?_⟩
  exact below_set3 (below_set3 r2.2.2.2.2 (by omega) _ _ _) (by omega) _ _ _

set_option maxHeartbeats 1000000 in
theorem both_quiet (n : Int) (a b : Bool) (m : Int) (c d : Bool) (act : Int) (xn : Int) (xa xb : Bool) (HD : Hid (Ans 21 n a b act xn xa xb false false 0)) (hr : Hid (rightB m c d = true)) (w : World) :
    Calls Try.prog 9 #[S n a b, S m c d, .int .i64 act] w fun e w' => e = .returned (.tuple #[S xn xa xb, S m c d, .int .i64 0]) ∧ Below w.heap.size w w' := by
  have r0 := rest2_new w n a b m c d (.int .i64 0) (.bool false) (.bool false) (.int .i64 0) (.bool false) (.bool false)
  go_enter Try.func9, Try.ntmps9
  go_wp2_with fail
  refine (HD _).mono ?_
  rintro e w1 ⟨rfl, hb1⟩
  have r1 := rest2_below hb1 r0
  clear hb1 r0
  have z1 := rest2_size r1
  obtain ⟨u0, u1, u2, u3, u4, u5⟩ := rest2_cells (rest2_alloc r1 (.cells #[.int .i64 xn, .bool xa, .bool xb, .bool false, .bool false] 47))
  go_wp2_with fail
  refine (right_yes m c d hr _).mono ?_
  rintro e w2 ⟨rfl, hb2⟩
  have r2 := rest2_below hb2 (rest2_alloc r1 _)
  have q := (Blk.new _ _ _).below hb2 (by simp)
  clear hb2
  have q0 := q.cell 0
  have q1 := q.cell 1
  have q2 := q.cell 2
  have q3 := q.cell 3
  simp only [List.getElem?_toArray, List.getElem?_cons_zero, List.getElem?_cons_succ] at q0 q1 q2 q3
  have z2 := rest2_size r2
  have n2 : ¬ w1.heap.size = w.heap.size + 1 + 1 := by omega
  have n3 : ¬ w1.heap.size = w.heap.size + 1 + 1 + 1 := by omega
  have n2' : ¬ w.heap.size + 1 + 1 = w1.heap.size := by omega
  have n3' : ¬ w.heap.size + 1 + 1 + 1 = w1.heap.size := by omega
  obtain ⟨v0, v1, v2, v3, v4, v5⟩ := rest2_cells r2
  obtain ⟨c0, c1, c2, d0, d1, d2, x0, x1, x2, x3, x4, x5, f0, f1, f2, f3, f4, f5⟩ := rest2_out r2
  go_wp2
  go_region
  go_wp2
  refine bodyPost_ret (v := .tuple #[S xn xa xb, S m c d, .int .i64 0]) (by simp [results, Try.results9, go_sem, x0, x1, x2, x3, x4, x5]) rfl ⟨rfl, ?_⟩
  exact (below_set3 (below_set3 r2.2.2.2.2 (by omega) _ _ _) (by omega) _ _ _).drew

set_option maxHeartbeats 1000000 in
theorem both_plain (n : Int) (a b : Bool) (m : Int) (c d : Bool) (act : Int) (xn : Int) (xa xb : Bool) (yn : Int) (ya yb yt : Bool) (HD : Hid (Ans 21 n a b act xn xa xb true false 0)) (hr : Hid (rightB m c d = true)) (HH : Hid (Ans 22 m c d act yn ya yb yt false 0)) (w : World) :
    Calls Try.prog 9 #[S n a b, S m c d, .int .i64 act] w fun e w' => e = .returned (.tuple #[S xn xa xb, S yn ya yb, .int .i64 0]) ∧ Below w.heap.size w w' := by
  have r0 := rest2_new w n a b m c d (.int .i64 0) (.bool false) (.bool false) (.int .i64 0) (.bool false) (.bool false)
  go_enter Try.func9, Try.ntmps9
  go_wp2_with fail
  refine (HD _).mono ?_
  rintro e w1 ⟨rfl, hb1⟩
  have r1 := rest2_below hb1 r0
  clear hb1 r0
  have z1 := rest2_size r1
  obtain ⟨u0, u1, u2, u3, u4, u5⟩ := rest2_cells (rest2_alloc r1 (.cells #[.int .i64 xn, .bool xa, .bool xb, .bool true, .bool false] 47))
  go_wp2_with fail
  refine (right_yes m c d hr _).mono ?_
  rintro e w2 ⟨rfl, hb2⟩
  have r2 := rest2_below hb2 (rest2_alloc r1 _)
  have q := (Blk.new _ _ _).below hb2 (by simp)
  have z12 : w1.heap.size < w2.heap.size := by have := hb2.size; simp at this; omega
  clear hb2
  have q0 := q.cell 0
  have q1 := q.cell 1
  have q2 := q.cell 2
  have q3 := q.cell 3
  simp only [List.getElem?_toArray, List.getElem?_cons_zero, List.getElem?_cons_succ] at q0 q1 q2 q3
  have z2 := rest2_size r2
  have n0 : ¬ w1.heap.size = w.heap.size := by omega
  have n0' : ¬ w.heap.size = w1.heap.size := by omega
  have n1 : ¬ w1.heap.size = w.heap.size + 1 := by omega
  have n1' : ¬ w.heap.size + 1 = w1.heap.size := by omega
  have n2 : ¬ w1.heap.size = w.heap.size + 1 + 1 := by omega
  have n2' : ¬ w.heap.size + 1 + 1 = w1.heap.size := by omega
  have n3 : ¬ w1.heap.size = w.heap.size + 1 + 1 + 1 := by omega
  have n3' : ¬ w.heap.size + 1 + 1 + 1 = w1.heap.size := by omega
  obtain ⟨v0, v1, v2, v3, v4, v5⟩ := rest2_cells r2
  go_wp2_with fail
  refine (HH _).mono ?_
  rintro e w3 ⟨rfl, hb3⟩
  have r3 := rest2_below hb3 r2
  have p := q.below hb3 z12
  have z23 := hb3.size
  clear hb3
  have z3 := rest2_size r3
  have z13 : w1.heap.size < w3.heap.size := by omega
  have k0 : ¬ w3.heap.size = w.heap.size := by omega
  have k0' : ¬ w.heap.size = w3.heap.size := by omega
  have k1 : ¬ w3.heap.size = w.heap.size + 1 := by omega
  have k1' : ¬ w.heap.size + 1 = w3.heap.size := by omega
  have k2 : ¬ w3.heap.size = w.heap.size + 1 + 1 := by omega
  have k2' : ¬ w.heap.size + 1 + 1 = w3.heap.size := by omega
  have k3 : ¬ w3.heap.size = w.heap.size + 1 + 1 + 1 := by omega
  have k3' : ¬ w.heap.size + 1 + 1 + 1 = w3.heap.size := by omega
  have k9 : ¬ w3.heap.size = w1.heap.size := by omega
  have k9' : ¬ w1.heap.size = w3.heap.size := by omega
  have r4 := rest2_alloc r3 (.cells #[.int .i64 yn, .bool ya, .bool yb, .bool yt, .bool false] 47)
  have p4 := p.alloc (.cells #[.int .i64 yn, .bool ya, .bool yb, .bool yt, .bool false] 47)
  have p40 := p4.cell 0
  have p41 := p4.cell 1
  have p42 := p4.cell 2
  have p43 := p4.cell 3
  simp only [List.getElem?_toArray, List.getElem?_cons_zero, List.getElem?_cons_succ] at p40 p41 p42 p43
  obtain ⟨c0, c1, c2, d0, d1, d2, x0, x1, x2, x3, x4, x5, f0, f1, f2, f3, f4, f5⟩ := rest2_out r4
  go_wp2
  go_region
  go_wp2
  refine bodyPost_ret (v := .tuple #[S xn xa xb, S yn ya yb, .int .i64 0]) (by simp [results, Try.results9, go_sem, x0, x1, x2, x3, x4, x5]) rfl ⟨rfl, ?_⟩
  exact (below_set3 (below_set3 r4.2.2.2.2 (by omega) _ _ _) (by omega) _ _ _).drew

set_option maxHeartbeats 1000000 in
theorem both_echo (n : Int) (a b : Bool) (m : Int) (c d : Bool) (act : Int) (xn : Int) (xa xb : Bool) (yn : Int) (ya yb yt : Bool) (gn : Int) (ga gb gt ge : Bool) (HD : Hid (Ans 21 n a b act xn xa xb true false 0)) (hr : Hid (rightB m c d = true)) (HH : Hid (Ans 22 m c d act yn ya yb yt true 0)) (HG : Hid (Ans 22 xn xa xb 2 gn ga gb gt ge 0)) (w : World) :
    Calls Try.prog 9 #[S n a b, S m c d, .int .i64 act] w fun e w' => e = .returned (.tuple #[S gn ga gb, S yn ya yb, .int .i64 0]) ∧ Below w.heap.size w w' := by
  have r0 := rest2_new w n a b m c d (.int .i64 0) (.bool false) (.bool false) (.int .i64 0) (.bool false) (.bool false)
  go_enter Try.func9, Try.ntmps9
  go_wp2_with fail
  refine (HD _).mono ?_
  rintro e w1 ⟨rfl, hb1⟩
  have r1 := rest2_below hb1 r0
  clear hb1 r0
  have z1 := rest2_size r1
  obtain ⟨u0, u1, u2, u3, u4, u5⟩ := rest2_cells (rest2_alloc r1 (.cells #[.int .i64 xn, .bool xa, .bool xb, .bool true, .bool false] 47))
  go_wp2_with fail
  refine (right_yes m c d hr _).mono ?_
  rintro e w2 ⟨rfl, hb2⟩
  have r2 := rest2_below hb2 (rest2_alloc r1 _)
  have q := (Blk.new _ _ _).below hb2 (by simp)
  have z12 : w1.heap.size < w2.heap.size := by have := hb2.size; simp at this; omega
  clear hb2
  have q0 := q.cell 0
  have q1 := q.cell 1
  have q2 := q.cell 2
  have q3 := q.cell 3
  simp only [List.getElem?_toArray, List.getElem?_cons_zero, List.getElem?_cons_succ] at q0 q1 q2 q3
  have z2 := rest2_size r2
  have n0 : ¬ w1.heap.size = w.heap.size := by omega
  have n0' : ¬ w.heap.size = w1.heap.size := by omega
  have n1 : ¬ w1.heap.size = w.heap.size + 1 := by omega
  have n1' : ¬ w.heap.size + 1 = w1.heap.size := by omega
  have n2 : ¬ w1.heap.size = w.heap.size + 1 + 1 := by omega
  have n2' : ¬ w.heap.size + 1 + 1 = w1.heap.size := by omega
  have n3 : ¬ w1.heap.size = w.heap.size + 1 + 1 + 1 := by omega
  have n3' : ¬ w.heap.size + 1 + 1 + 1 = w1.heap.size := by omega
  obtain ⟨v0, v1, v2, v3, v4, v5⟩ := rest2_cells r2
  go_wp2_with fail
  refine (HH _).mono ?_
  rintro e w3 ⟨rfl, hb3⟩
  have r3 := rest2_below hb3 r2
  have p := q.below hb3 z12
  have z23 := hb3.size
  clear hb3
  have z3 := rest2_size r3
  have z13 : w1.heap.size < w3.heap.size := by omega
  have k0 : ¬ w3.heap.size = w.heap.size := by omega
  have k0' : ¬ w.heap.size = w3.heap.size := by omega
  have k1 : ¬ w3.heap.size = w.heap.size + 1 := by omega
  have k1' : ¬ w.heap.size + 1 = w3.heap.size := by omega
  have k2 : ¬ w3.heap.size = w.heap.size + 1 + 1 := by omega
  have k2' : ¬ w.heap.size + 1 + 1 = w3.heap.size := by omega
  have k3 : ¬ w3.heap.size = w.heap.size + 1 + 1 + 1 := by omega
  have k3' : ¬ w.heap.size + 1 + 1 + 1 = w3.heap.size := by omega
  have k9 : ¬ w3.heap.size = w1.heap.size := by omega
  have k9' : ¬ w1.heap.size = w3.heap.size := by omega
  have r4 := rest2_alloc r3 (.cells #[.int .i64 yn, .bool ya, .bool yb, .bool yt, .bool true] 47)
  have p4 := p.alloc (.cells #[.int .i64 yn, .bool ya, .bool yb, .bool yt, .bool true] 47)
  have p40 := p4.cell 0
  have p41 := p4.cell 1
  have p42 := p4.cell 2
  have p43 := p4.cell 3
  simp only [List.getElem?_toArray, List.getElem?_cons_zero, List.getElem?_cons_succ] at p40 p41 p42 p43
  go_wp2_with fail
  refine (HG _).mono ?_
  rintro e w5 ⟨rfl, hb5⟩
  have r5 := rest2_below hb5 r4
  have s5 := (Blk.new _ _ _).below hb5 (by simp)
  have t5 := p4.below hb5 p4.lt
  clear hb5
  have s50 := s5.cell 0
  have s51 := s5.cell 1
  have s52 := s5.cell 2
  have t50 := t5.cell 0
  have t51 := t5.cell 1
  have t52 := t5.cell 2
  have t53 := t5.cell 3
  have t54 := t5.cell 4
  have t55 := t5.frozen 0
  have t56 := t5.frozen 1
  have t57 := t5.frozen 2
  have t58 := t5.frozen 3
  have t59 := t5.frozen 4
  simp only [List.getElem?_toArray, List.getElem?_cons_zero, List.getElem?_cons_succ] at s50 s51 s52 t50 t51 t52 t53 t54
  obtain ⟨c0, c1, c2, d0, d1, d2, x0, x1, x2, x3, x4, x5, f0, f1, f2, f3, f4, f5⟩ := rest2_out r5
  clear r1 r2 r3 r4 q p p4 q0 q1 q2 q3 u0 u1 u2 u3 u4 u5 v0 v1 v2 v3 v4 v5 p40 p41 p42 p43 hr HD HH HG
  go_wp2
  go_region
  go_wp2
  refine bodyPost_ret (v := .tuple #[S gn ga gb, S yn ya yb, .int .i64 0]) (by simp [results, Try.results9, go_sem, x0, x1, x2, x3, x4, x5]) rfl ⟨rfl, ?_⟩
  exact (below_set3 (below_set3 (((((r5.2.2.2.2.setCell (by simp; omega) _).setCell (by simp; omega) _).setCell (by simp; omega) _).setCell (by simp; omega) _).setCell (by simp; omega) _) (by omega) _ _ _) (by omega) _ _ _).drew

end Go.Proofs.Ytajdhlcnfmlkiaa
