/- pact.Do: what comes of one's own act. -/
import Derived.Test.YtajdhlcnfmlkiaaA
namespace Go.Proofs.Ytajdhlcnfmlkiaa
open Go.RowKit
attribute [local go_sem ↓] Go.wp_at_zero Go.wp_at_succ

theorem right_yes (n : Int) (a b : Bool) (h : rightB n a b = true) (w : World) :
    Calls Try.prog 15 #[S n a b] w fun e w' => e = .returned (.bool true) ∧ Below w.heap.size w w' := by
  rw [← h]; exact right_any n a b w
theorem right_no (n : Int) (a b : Bool) (h : rightB n a b = false) (w : World) :
    Calls Try.prog 15 #[S n a b] w fun e w' => e = .returned (.bool false) ∧ Below w.heap.size w w' := by
  rw [← h]; exact right_any n a b w




/-- Block g is just these cells. -/
def Blk (w : World) (g : Nat) (t : TypeId) (cs : Array Value) : Prop := w.heap[g]? = some (.cells cs t (0, 0))
section
variable {w w' : World} {g : Nat} {t : TypeId} {cs : Array Value}
theorem Blk.lt (h : Blk w g t cs) : g < w.heap.size := by
  rcases Nat.lt_or_ge g w.heap.size with hlt | hge
  · exact hlt
  · unfold Blk at h; rw [Array.getElem?_eq_none hge] at h; cases h
theorem Blk.cell (h : Blk w g t cs) (i : Nat) : w.cell? ⟨g, i, none⟩ = cs[i]? := cell_of_row w g i cs t (0, 0) h
theorem Blk.frozen (h : Blk w g t cs) (i : Nat) : w.frozen? ⟨g, i, none⟩ = false := by
  unfold Blk at h
  simp [World.frozen?, h]
theorem Blk.new (w : World) (t : TypeId) (cs : Array Value) : Blk (w.alloc (.cells cs t)) w.heap.size t cs := heap_alloc_new w _
theorem Blk.alloc (h : Blk w g t cs) (o : Obj) : Blk (w.alloc o) g t cs := (Below.heap_alloc w o g h.lt).trans h
theorem Blk.set_ (h : Blk w g t cs) (i : Nat) (u : Value) : Blk (w.setCell ⟨g, i, none⟩ u) g t (cs.setIfInBounds i u) := by
  unfold Blk at h ⊢
  simp [World.setCell, Array.getElem?_modify, h]
theorem Blk.far (h : Blk w g t cs) {p : Addr} (hp : g ≠ p.block) (u : Value) : Blk (w.setCell p u) g t cs := (Below.heap_setCell w p u g hp).trans h
theorem Blk.below {B : Nat} (h : Blk w g t cs) (hb : Below B w w') (hg : g < B) : Blk w' g t cs := (hb.block g hg).trans h
end

/-- What stays in Do and Hear: the side's block, the result's block, all that was there before. -/
def Rest (w0 : World) (n : Int) (a b : Bool) (w : World) : Prop :=
  Blk w w0.heap.size 23 #[.int .i64 n, .bool a, .bool b] ∧ (∃ c0 c1 c2 c3 c4, Blk w (w0.heap.size + 1) 47 #[c0, c1, c2, c3, c4]) ∧ Below w0.heap.size w0 w
section
variable {w0 W w2 : World} {n : Int} {a b : Bool}
theorem rest_new (w0 : World) (n : Int) (a b : Bool) (c0 c1 c2 c3 c4 : Value) {w1 : World}
    (hb : Below ((w0.alloc (.cells #[.int .i64 n, .bool a, .bool b] 23)).alloc (.cells #[c0, c1, c2, c3, c4] 47)).heap.size ((w0.alloc (.cells #[.int .i64 n, .bool a, .bool b] 23)).alloc (.cells #[c0, c1, c2, c3, c4] 47)) w1) : Rest w0 n a b w1 := by
  refine ⟨((Blk.new _ _ _).alloc _).below hb (by simp; omega), ⟨c0, c1, c2, c3, c4, ?_⟩, ?_⟩
  · have h := Blk.new (w0.alloc (.cells #[.int .i64 n, .bool a, .bool b] 23)) 47 #[c0, c1, c2, c3, c4]
    have h' : Blk ((w0.alloc (.cells #[.int .i64 n, .bool a, .bool b] 23)).alloc (.cells #[c0, c1, c2, c3, c4] 47)) (w0.heap.size + 1) 47 #[c0, c1, c2, c3, c4] := by simpa using h
    exact h'.below hb (by simp)
  · exact (((Below.refl _ _).alloc (Nat.le_refl _) _).alloc (by simp) _).trans (hb.mono (by simp; omega))
theorem rest_below (hb : Below W.heap.size W w2) (h : Rest w0 n a b W) : Rest w0 n a b w2 := by
  obtain ⟨h1, ⟨c0, c1, c2, c3, c4, h2⟩, h3⟩ := h
  exact ⟨h1.below hb h1.lt, ⟨c0, c1, c2, c3, c4, h2.below hb h2.lt⟩, h3.trans (hb.mono h3.size)⟩
theorem rest_drew (h : Rest w0 n a b W) : Rest w0 n a b W.drew := ⟨h.1, h.2.1, h.2.2.drew⟩
theorem rest_set (h : Rest w0 n a b W) (i : Nat) (v : Value) : Rest w0 n a b (W.setCell ⟨w0.heap.size + 1, i, none⟩ v) := by
  obtain ⟨h1, ⟨c0, c1, c2, c3, c4, h2⟩, h3⟩ := h
  refine ⟨h1.far (by simp) v, ?_, h3.setCell (by simp) v⟩
  have h4 := h2.set_ i v
  rcases i with _ | _ | _ | _ | _ | i
  · exact ⟨_, _, _, _, _, h4⟩
  · exact ⟨_, _, _, _, _, h4⟩
  · exact ⟨_, _, _, _, _, h4⟩
  · exact ⟨_, _, _, _, _, h4⟩
  · exact ⟨_, _, _, _, _, h4⟩
  · exact ⟨c0, c1, c2, c3, c4, h4⟩
theorem rest_side (h : Rest w0 n a b W) : W.cell? ⟨w0.heap.size, 0, none⟩ = some (.int .i64 n) ∧ W.cell? ⟨w0.heap.size, 1, none⟩ = some (.bool a) ∧ W.cell? ⟨w0.heap.size, 2, none⟩ = some (.bool b) :=
  ⟨h.1.cell 0, h.1.cell 1, h.1.cell 2⟩
theorem rest_full (h : Rest w0 n a b W) : W.cell? ⟨w0.heap.size, 0, none⟩ = some (.int .i64 n) ∧ W.cell? ⟨w0.heap.size, 1, none⟩ = some (.bool a) ∧ W.cell? ⟨w0.heap.size, 2, none⟩ = some (.bool b) ∧ Rest w0 n a b W :=
  ⟨h.1.cell 0, h.1.cell 1, h.1.cell 2, h⟩
theorem full_below (w0 : World) (n : Int) (a b : Bool) {W w2 : World} (hb : Below W.heap.size W w2) (h : W.cell? ⟨w0.heap.size, 0, none⟩ = some (.int .i64 n) ∧ W.cell? ⟨w0.heap.size, 1, none⟩ = some (.bool a) ∧ W.cell? ⟨w0.heap.size, 2, none⟩ = some (.bool b) ∧ Rest w0 n a b W) : Rest w0 n a b w2 := rest_below hb h.2.2.2
theorem full_drew {w0 : World} {n : Int} {a b : Bool} {W : World} (h : Rest w0 n a b W) : W.drew.cell? ⟨w0.heap.size, 0, none⟩ = some (.int .i64 n) ∧ W.drew.cell? ⟨w0.heap.size, 1, none⟩ = some (.bool a) ∧ W.drew.cell? ⟨w0.heap.size, 2, none⟩ = some (.bool b) ∧ Rest w0 n a b W.drew := rest_full (rest_drew h)
theorem rest_out (h : Rest w0 n a b W) : ∃ c0 c1 c2 c3 c4 : Value, W.cell? ⟨w0.heap.size + 1, 0, none⟩ = some c0 ∧ W.cell? ⟨w0.heap.size + 1, 1, none⟩ = some c1 ∧ W.cell? ⟨w0.heap.size + 1, 2, none⟩ = some c2 ∧ W.cell? ⟨w0.heap.size + 1, 3, none⟩ = some c3 ∧ W.cell? ⟨w0.heap.size + 1, 4, none⟩ = some c4 ∧
    W.frozen? ⟨w0.heap.size + 1, 0, none⟩ = false ∧ W.frozen? ⟨w0.heap.size + 1, 1, none⟩ = false ∧ W.frozen? ⟨w0.heap.size + 1, 2, none⟩ = false ∧ W.frozen? ⟨w0.heap.size + 1, 3, none⟩ = false ∧ W.frozen? ⟨w0.heap.size + 1, 4, none⟩ = false := by
  obtain ⟨_, ⟨c0, c1, c2, c3, c4, h2⟩, _⟩ := h
  exact ⟨c0, c1, c2, c3, c4, h2.cell 0, h2.cell 1, h2.cell 2, h2.cell 3, h2.cell 4, h2.frozen 0, h2.frozen 1, h2.frozen 2, h2.frozen 3, h2.frozen 4⟩
end


theorem sees_at (n : Int) (a b t : Bool) (h : Hid (seesB n = t)) (w : World) :
    Calls Try.prog 16 #[S n a b] w fun e w' => e = .returned (.bool t) ∧ Below w.heap.size w w' := by
  have h' : seesB n = t := h
  rw [← h']; exact sees_any n a b w
theorem seen_at (n : Int) (a b t : Bool) (h : Hid (seenB n = t)) (w : World) :
    Calls Try.prog 17 #[S n a b] w fun e w' => e = .returned (.bool t) ∧ Below w.heap.size w w' := by
  have h' : seenB n = t := h
  rw [← h']; exact seen_any n a b w


set_option maxHeartbeats 400000 in
theorem do_grant (n : Int) (a b : Bool) (h : Hid (rightB n a b = true)) (h0 : 0 ≤ n) (h3 : n ≤ 3) (w : World) :
    Calls Try.prog 21 #[S n a b, .int .i64 2] w fun e w' => e = .returned (.tuple #[St (pickI b (showN n true) n) (pickB b a a) (pickB b false b) b false, .int .i64 0]) ∧ Below w.heap.size w w' := by
  go_enter Try.func21, Try.ntmps21
  go_wp2_with (go_at_call 15; refine (right_yes n a b h _).mono ?_; rintro e w1 ⟨rfl, hb1⟩; have r1 := rest_new _ _ _ _ _ _ _ _ _ hb1; clear hb1)
  go_region_held3 (fun w' => w'.cell? ⟨w.heap.size, 0, none⟩ = some (.int .i64 n) ∧ w'.cell? ⟨w.heap.size, 1, none⟩ = some (.bool a) ∧ w'.cell? ⟨w.heap.size, 2, none⟩ = some (.bool b) ∧ Rest w n a b w') (first | ((with_reducible refine full_drew ?_); assumption) | (refine rest_full ?_; (repeat (with_reducible refine rest_set ?_ _ _)); assumption))
    (first | (go_at_call 29; refine (show_any n a b true h0 h3 _).mono ?_; rintro e w2 ⟨rfl, hb2⟩; have r2 := full_below w n a b hb2 (by assumption); clear hb2) | (go_at_call 28; refine (when_any b n a b (showN n true) a false _).mono ?_; rintro e w3 ⟨rfl, hb3⟩; have r3 := full_below w n a b hb3 (by assumption); clear hb3; obtain ⟨c0, c1, c2, c3, c4, x0, x1, x2, x3, x4, f0, f1, f2, f3, f4⟩ := rest_out r3))
  go_wp2
  refine bodyPost_ret (v := .tuple #[St (pickI b (showN n true) n) (pickB b a a) (pickB b false b) b false, .int .i64 0]) (by simp [results, Try.results21, go_sem, x0, x1, x2, x3, x4]) rfl ⟨rfl, ?_⟩
  exact (rest_set (rest_set (rest_set (rest_set (rest_set r3 0 _) 1 _) 2 _) 3 _) 4 _).2.2

set_option maxHeartbeats 400000 in
theorem do_leave_f (n : Int) (a b : Bool) (h : Hid (rightB n a b = true)) (h0 : 0 ≤ n) (h3 : n ≤ 3) (hs : Hid (seesB n = false)) (w : World) :
    Calls Try.prog 21 #[S n a b, .int .i64 3] w fun e w' => e = .returned (.tuple #[St (pickI a (seeN n false) n) (pickB a false a) (pickB a b b) a false, .int .i64 0]) ∧ Below w.heap.size w w' := by
  go_enter Try.func21, Try.ntmps21
  go_wp2_with (go_at_call 15; refine (right_yes n a b h _).mono ?_; rintro e w1 ⟨rfl, hb1⟩; have r1 := rest_new _ _ _ _ _ _ _ _ _ hb1; clear hb1)
  go_region_held3 (fun w' => w'.cell? ⟨w.heap.size, 0, none⟩ = some (.int .i64 n) ∧ w'.cell? ⟨w.heap.size, 1, none⟩ = some (.bool a) ∧ w'.cell? ⟨w.heap.size, 2, none⟩ = some (.bool b) ∧ Rest w n a b w') (first | ((with_reducible refine full_drew ?_); assumption) | (refine rest_full ?_; (repeat (with_reducible refine rest_set ?_ _ _)); assumption))
    (first | (go_at_call 16; refine (sees_at n a b false hs _).mono ?_; rintro e w4 ⟨rfl, hb4⟩; have r4 := full_below w n a b hb4 (by assumption); clear hb4) | (go_at_call 30; refine (see_any n a b false h0 h3 _).mono ?_; rintro e w2 ⟨rfl, hb2⟩; have r2 := full_below w n a b hb2 (by assumption); clear hb2) | (go_at_call 28; refine (when_any a n a b (seeN n false) false b _).mono ?_; rintro e w3 ⟨rfl, hb3⟩; have r3 := full_below w n a b hb3 (by assumption); clear hb3; obtain ⟨c0, c1, c2, c3, c4, x0, x1, x2, x3, x4, f0, f1, f2, f3, f4⟩ := rest_out r3))
  go_wp2
  refine bodyPost_ret (v := .tuple #[St (pickI a (seeN n false) n) (pickB a false a) (pickB a b b) a false, .int .i64 0]) (by simp [results, Try.results21, go_sem, x0, x1, x2, x3, x4]) rfl ⟨rfl, ?_⟩
  exact (rest_set (rest_set (rest_set (rest_set (rest_set r3 0 _) 1 _) 2 _) 3 _) 4 _).2.2

set_option maxHeartbeats 400000 in
theorem do_refuse_f (n : Int) (a b : Bool) (h : Hid (rightB n a b = true)) (h0 : 0 ≤ n) (h3 : n ≤ 3) (hs : Hid (seenB n = false)) (w : World) :
    Calls Try.prog 21 #[S n a b, .int .i64 4] w fun e w' => e = .returned (.tuple #[St (pickI b (showN n false) n) (pickB b a a) (pickB b false b) b false, .int .i64 0]) ∧ Below w.heap.size w w' := by
  go_enter Try.func21, Try.ntmps21
  go_wp2_with (go_at_call 15; refine (right_yes n a b h _).mono ?_; rintro e w1 ⟨rfl, hb1⟩; have r1 := rest_new _ _ _ _ _ _ _ _ _ hb1; clear hb1)
  go_region_held3 (fun w' => w'.cell? ⟨w.heap.size, 0, none⟩ = some (.int .i64 n) ∧ w'.cell? ⟨w.heap.size, 1, none⟩ = some (.bool a) ∧ w'.cell? ⟨w.heap.size, 2, none⟩ = some (.bool b) ∧ Rest w n a b w') (first | ((with_reducible refine full_drew ?_); assumption) | (refine rest_full ?_; (repeat (with_reducible refine rest_set ?_ _ _)); assumption))
    (first | (go_at_call 17; refine (seen_at n a b false hs _).mono ?_; rintro e w4 ⟨rfl, hb4⟩; have r4 := full_below w n a b hb4 (by assumption); clear hb4) | (go_at_call 29; refine (show_any n a b false h0 h3 _).mono ?_; rintro e w2 ⟨rfl, hb2⟩; have r2 := full_below w n a b hb2 (by assumption); clear hb2) | (go_at_call 28; refine (when_any b n a b (showN n false) a false _).mono ?_; rintro e w3 ⟨rfl, hb3⟩; have r3 := full_below w n a b hb3 (by assumption); clear hb3; obtain ⟨c0, c1, c2, c3, c4, x0, x1, x2, x3, x4, f0, f1, f2, f3, f4⟩ := rest_out r3))
  go_wp2
  refine bodyPost_ret (v := .tuple #[St (pickI b (showN n false) n) (pickB b a a) (pickB b false b) b false, .int .i64 0]) (by simp [results, Try.results21, go_sem, x0, x1, x2, x3, x4]) rfl ⟨rfl, ?_⟩
  exact (rest_set (rest_set (rest_set (rest_set (rest_set r3 0 _) 1 _) 2 _) 3 _) 4 _).2.2

theorem rest_alloc {w0 W : World} {n : Int} {a b : Bool} (h : Rest w0 n a b W) (o : Obj) : Rest w0 n a b (W.alloc o) := by
  obtain ⟨h1, ⟨c0, c1, c2, c3, c4, h2⟩, h3⟩ := h
  exact ⟨h1.alloc o, ⟨c0, c1, c2, c3, c4, h2.alloc o⟩, h3.alloc h3.size o⟩
theorem rest_far {w0 W : World} {n : Int} {a b : Bool} (h : Rest w0 n a b W) {g : Nat} (hg : w0.heap.size + 1 < g) (i : Nat) (v : Value) : Rest w0 n a b (W.setCell ⟨g, i, none⟩ v) := by
  obtain ⟨h1, ⟨c0, c1, c2, c3, c4, h2⟩, h3⟩ := h
  exact ⟨h1.far (by simp; omega) v, ⟨c0, c1, c2, c3, c4, h2.far (by simp; omega) v⟩, h3.setCell (by simp; omega) v⟩
theorem rest_size {w0 W : World} {n : Int} {a b : Bool} (h : Rest w0 n a b W) : w0.heap.size + 1 < W.heap.size := by
  obtain ⟨_, ⟨_, _, _, _, _, h2⟩, _⟩ := h
  exact h2.lt

set_option maxHeartbeats 400000 in
theorem do_ask (n : Int) (a b : Bool) (h : Hid (rightB n a b = true)) (w : World) :
    Calls Try.prog 21 #[S n a b, .int .i64 1] w fun e w' => e = .returned (.tuple #[St (pickI true n n) (pickB true (!seesB n) a) (pickB true b b) true false, .int .i64 0]) ∧ Below w.heap.size w w' := by
  go_enter Try.func21, Try.ntmps21
  go_wp2_with fail
  refine (right_yes n a b h _).mono ?_
  rintro e w1 ⟨rfl, hb1⟩
  have r1 := rest_new _ _ _ _ _ _ _ _ _ hb1
  clear hb1
  have z1 := rest_size r1
  have n1 : ¬ w1.heap.size = w.heap.size := by omega
  have n2 : ¬ w.heap.size = w1.heap.size := by omega
  have n3 : ¬ w1.heap.size = w.heap.size + 1 := by omega
  have n4 : ¬ w.heap.size + 1 = w1.heap.size := by omega
  obtain ⟨y0, y1, y2⟩ := rest_side r1
  obtain ⟨y3, y4, y5⟩ := rest_side (rest_alloc r1 (.cells #[.int .i64 n, .bool a, .bool b] 23))
  go_wp2_with fail
  refine (sees_any n a b _).mono ?_
  rintro e w2 ⟨rfl, hb2⟩
  have r2 := rest_below hb2 (rest_alloc r1 _)
  have q2 := (Blk.new _ _ _).below hb2 (by simp)
  clear hb2
  obtain ⟨y6, y7, y8⟩ := rest_side r2
  have q20 := q2.cell 0
  have q21 := q2.cell 1
  have q22 := q2.cell 2
  have q23 := q2.frozen 1
  simp only [List.getElem?_toArray, List.getElem?_cons_zero, List.getElem?_cons_succ] at q20 q21 q22
  go_wp2_with fail
  refine (when_any true n a b n (!seesB n) b _).mono ?_
  rintro e w3 ⟨rfl, hb3⟩
  have r3 := rest_below hb3 (rest_far r2 z1 _ _)
  clear hb3
  obtain ⟨c0, c1, c2, c3, c4, x0, x1, x2, x3, x4, f0, f1, f2, f3, f4⟩ := rest_out r3
  go_wp2
  refine bodyPost_ret (v := .tuple #[St (pickI true n n) (pickB true (!seesB n) a) (pickB true b b) true false, .int .i64 0]) (by simp [results, Try.results21, go_sem, x0, x1, x2, x3, x4]) rfl ⟨rfl, ?_⟩
  exact (rest_set (rest_set (rest_set (rest_set (rest_set r3 0 _) 1 _) 2 _) 3 _) 4 _).2.2

set_option maxHeartbeats 400000 in
theorem do_other (n : Int) (a b : Bool) (act : Int) (h : Hid (rightB n a b = true)) (k1 : (act == 1) = false) (k2 : (act == 2) = false) (k3 : (act == 3) = false) (k4 : (act == 4) = false) (w : World) :
    Calls Try.prog 21 #[S n a b, .int .i64 act] w fun e w' => e = .returned (.tuple #[St 0 false false false false, .int .i64 1]) ∧ Below w.heap.size w w' := by
  go_enter Try.func21, Try.ntmps21
  go_wp2_with (go_at_call 15; refine (right_yes n a b h _).mono ?_; rintro e w1 ⟨rfl, hb1⟩; have r1 := rest_new _ _ _ _ _ _ _ _ _ hb1; clear hb1; obtain ⟨y0, y1, y2⟩ := rest_side r1; obtain ⟨c0, c1, c2, c3, c4, x0, x1, x2, x3, x4, f0, f1, f2, f3, f4⟩ := rest_out r1)
  refine bodyPost_ret (v := .tuple #[St 0 false false false false, .int .i64 1]) (by simp [results, Try.results21, go_sem, x0, x1, x2, x3, x4]) rfl ⟨rfl, ?_⟩
  exact (rest_set (rest_set (rest_set (rest_set (rest_set r1 0 _) 1 _) 2 _) 3 _) 4 _).2.2

set_option maxHeartbeats 400000 in
theorem do_no (n : Int) (a b : Bool) (act : Int) (h : Hid (rightB n a b = false)) (w : World) :
    Calls Try.prog 21 #[S n a b, .int .i64 act] w fun e w' => e = .returned (.tuple #[St 0 false false false false, .int .i64 1]) ∧ Below w.heap.size w w' := by
  go_enter Try.func21, Try.ntmps21
  go_wp2_with (go_at_call 15; refine (right_no n a b h _).mono ?_; rintro e w1 ⟨rfl, hb1⟩; have r1 := rest_new _ _ _ _ _ _ _ _ _ hb1; clear hb1; obtain ⟨y0, y1, y2⟩ := rest_side r1; obtain ⟨c0, c1, c2, c3, c4, x0, x1, x2, x3, x4, f0, f1, f2, f3, f4⟩ := rest_out r1)
  refine bodyPost_ret (v := .tuple #[St 0 false false false false, .int .i64 1]) (by simp [results, Try.results21, go_sem, x0, x1, x2, x3, x4]) rfl ⟨rfl, ?_⟩
  exact (rest_set (rest_set (rest_set (rest_set (rest_set r1 0 _) 1 _) 2 _) 3 _) 4 _).2.2
end Go.Proofs.Ytajdhlcnfmlkiaa
