/- pact.Hear: what comes of the other one's act. -/
import Derived.Test.YtajdhlcnfmlkiaaB
namespace Go.Proofs.Ytajdhlcnfmlkiaa
open Go.RowKit
attribute [local go_sem ↓] Go.wp_at_zero Go.wp_at_succ

set_option maxHeartbeats 400000 in
theorem hear_grant (n : Int) (a b : Bool) (h : Hid (rightB n a b = true)) (h0 : 0 ≤ n) (h3 : n ≤ 3) (w : World) :
    Calls Try.prog 22 #[S n a b, .int .i64 2] w fun e w' => e = .returned (.tuple #[St (pickI a (seeN n true) n) (pickB a false a) (pickB a b b) a false, .int .i64 0]) ∧ Below w.heap.size w w' := by
  go_enter Try.func22, Try.ntmps22
  go_wp2_with (go_at_call 15; refine (right_yes n a b h _).mono ?_; rintro e w1 ⟨rfl, hb1⟩; have r1 := rest_new _ _ _ _ _ _ _ _ _ hb1; clear hb1)
  go_region_held3 (fun w' => w'.cell? ⟨w.heap.size, 0, none⟩ = some (.int .i64 n) ∧ w'.cell? ⟨w.heap.size, 1, none⟩ = some (.bool a) ∧ w'.cell? ⟨w.heap.size, 2, none⟩ = some (.bool b) ∧ Rest w n a b w') (first | ((with_reducible refine full_drew ?_); assumption) | (refine rest_full ?_; (repeat (with_reducible refine rest_set ?_ _ _)); assumption))
    (first | (go_at_call 30; refine (see_any n a b true h0 h3 _).mono ?_; rintro e w2 ⟨rfl, hb2⟩; have r2 := full_below w n a b hb2 (by assumption); clear hb2) | (go_at_call 28; refine (when_any a n a b (seeN n true) false b _).mono ?_; rintro e w3 ⟨rfl, hb3⟩; have r3 := full_below w n a b hb3 (by assumption); clear hb3; obtain ⟨c0, c1, c2, c3, c4, x0, x1, x2, x3, x4, f0, f1, f2, f3, f4⟩ := rest_out r3))
  go_wp2
  refine bodyPost_ret (v := .tuple #[St (pickI a (seeN n true) n) (pickB a false a) (pickB a b b) a false, .int .i64 0]) (by simp [results, Try.results22, go_sem, x0, x1, x2, x3, x4]) rfl ⟨rfl, ?_⟩
  exact (rest_set (rest_set (rest_set (rest_set (rest_set r3 0 _) 1 _) 2 _) 3 _) 4 _).2.2

set_option maxHeartbeats 400000 in
theorem hear_leave_f (n : Int) (a b : Bool) (h : Hid (rightB n a b = true)) (h0 : 0 ≤ n) (h3 : n ≤ 3) (hs : Hid (seenB n = false)) (w : World) :
    Calls Try.prog 22 #[S n a b, .int .i64 3] w fun e w' => e = .returned (.tuple #[St (pickI b (showN n false) n) (pickB b a a) (pickB b false b) b false, .int .i64 0]) ∧ Below w.heap.size w w' := by
  go_enter Try.func22, Try.ntmps22
  go_wp2_with (go_at_call 15; refine (right_yes n a b h _).mono ?_; rintro e w1 ⟨rfl, hb1⟩; have r1 := rest_new _ _ _ _ _ _ _ _ _ hb1; clear hb1)
  go_region_held3 (fun w' => w'.cell? ⟨w.heap.size, 0, none⟩ = some (.int .i64 n) ∧ w'.cell? ⟨w.heap.size, 1, none⟩ = some (.bool a) ∧ w'.cell? ⟨w.heap.size, 2, none⟩ = some (.bool b) ∧ Rest w n a b w') (first | ((with_reducible refine full_drew ?_); assumption) | (refine rest_full ?_; (repeat (with_reducible refine rest_set ?_ _ _)); assumption))
    (first | (go_at_call 17; refine (seen_at n a b false hs _).mono ?_; rintro e w4 ⟨rfl, hb4⟩; have r4 := full_below w n a b hb4 (by assumption); clear hb4) | (go_at_call 29; refine (show_any n a b false h0 h3 _).mono ?_; rintro e w2 ⟨rfl, hb2⟩; have r2 := full_below w n a b hb2 (by assumption); clear hb2) | (go_at_call 28; refine (when_any b n a b (showN n false) a false _).mono ?_; rintro e w3 ⟨rfl, hb3⟩; have r3 := full_below w n a b hb3 (by assumption); clear hb3; obtain ⟨c0, c1, c2, c3, c4, x0, x1, x2, x3, x4, f0, f1, f2, f3, f4⟩ := rest_out r3))
  go_wp2
  refine bodyPost_ret (v := .tuple #[St (pickI b (showN n false) n) (pickB b a a) (pickB b false b) b false, .int .i64 0]) (by simp [results, Try.results22, go_sem, x0, x1, x2, x3, x4]) rfl ⟨rfl, ?_⟩
  exact (rest_set (rest_set (rest_set (rest_set (rest_set r3 0 _) 1 _) 2 _) 3 _) 4 _).2.2

set_option maxHeartbeats 400000 in
theorem hear_refuse_f (n : Int) (a b : Bool) (h : Hid (rightB n a b = true)) (h0 : 0 ≤ n) (h3 : n ≤ 3) (hs : Hid (seesB n = false)) (w : World) :
    Calls Try.prog 22 #[S n a b, .int .i64 4] w fun e w' => e = .returned (.tuple #[St (pickI a (seeN n false) n) (pickB a false a) (pickB a b b) a false, .int .i64 0]) ∧ Below w.heap.size w w' := by
  go_enter Try.func22, Try.ntmps22
  go_wp2_with (go_at_call 15; refine (right_yes n a b h _).mono ?_; rintro e w1 ⟨rfl, hb1⟩; have r1 := rest_new _ _ _ _ _ _ _ _ _ hb1; clear hb1)
  go_region_held3 (fun w' => w'.cell? ⟨w.heap.size, 0, none⟩ = some (.int .i64 n) ∧ w'.cell? ⟨w.heap.size, 1, none⟩ = some (.bool a) ∧ w'.cell? ⟨w.heap.size, 2, none⟩ = some (.bool b) ∧ Rest w n a b w') (first | ((with_reducible refine full_drew ?_); assumption) | (refine rest_full ?_; (repeat (with_reducible refine rest_set ?_ _ _)); assumption))
    (first | (go_at_call 16; refine (sees_at n a b false hs _).mono ?_; rintro e w4 ⟨rfl, hb4⟩; have r4 := full_below w n a b hb4 (by assumption); clear hb4) | (go_at_call 30; refine (see_any n a b false h0 h3 _).mono ?_; rintro e w2 ⟨rfl, hb2⟩; have r2 := full_below w n a b hb2 (by assumption); clear hb2) | (go_at_call 28; refine (when_any a n a b (seeN n false) false b _).mono ?_; rintro e w3 ⟨rfl, hb3⟩; have r3 := full_below w n a b hb3 (by assumption); clear hb3; obtain ⟨c0, c1, c2, c3, c4, x0, x1, x2, x3, x4, f0, f1, f2, f3, f4⟩ := rest_out r3))
  go_wp2
  refine bodyPost_ret (v := .tuple #[St (pickI a (seeN n false) n) (pickB a false a) (pickB a b b) a false, .int .i64 0]) (by simp [results, Try.results22, go_sem, x0, x1, x2, x3, x4]) rfl ⟨rfl, ?_⟩
  exact (rest_set (rest_set (rest_set (rest_set (rest_set r3 0 _) 1 _) 2 _) 3 _) 4 _).2.2

set_option maxHeartbeats 400000 in
theorem hear_other (n : Int) (a b : Bool) (act : Int) (h : Hid (rightB n a b = true)) (k1 : (act == 1) = false) (k2 : (act == 2) = false) (k3 : (act == 3) = false) (k4 : (act == 4) = false) (w : World) :
    Calls Try.prog 22 #[S n a b, .int .i64 act] w fun e w' => e = .returned (.tuple #[St 0 false false false false, .int .i64 1]) ∧ Below w.heap.size w w' := by
  go_enter Try.func22, Try.ntmps22
  go_wp2_with (go_at_call 15; refine (right_yes n a b h _).mono ?_; rintro e w1 ⟨rfl, hb1⟩; have r1 := rest_new _ _ _ _ _ _ _ _ _ hb1; clear hb1; obtain ⟨y0, y1, y2⟩ := rest_side r1; obtain ⟨c0, c1, c2, c3, c4, x0, x1, x2, x3, x4, f0, f1, f2, f3, f4⟩ := rest_out r1)
  refine bodyPost_ret (v := .tuple #[St 0 false false false false, .int .i64 1]) (by simp [results, Try.results22, go_sem, x0, x1, x2, x3, x4]) rfl ⟨rfl, ?_⟩
  exact (rest_set (rest_set (rest_set (rest_set (rest_set r1 0 _) 1 _) 2 _) 3 _) 4 _).2.2

set_option maxHeartbeats 400000 in
theorem hear_no (n : Int) (a b : Bool) (act : Int) (h : Hid (rightB n a b = false)) (w : World) :
    Calls Try.prog 22 #[S n a b, .int .i64 act] w fun e w' => e = .returned (.tuple #[St 0 false false false false, .int .i64 1]) ∧ Below w.heap.size w w' := by
  go_enter Try.func22, Try.ntmps22
  go_wp2_with (go_at_call 15; refine (right_no n a b h _).mono ?_; rintro e w1 ⟨rfl, hb1⟩; have r1 := rest_new _ _ _ _ _ _ _ _ _ hb1; clear hb1; obtain ⟨y0, y1, y2⟩ := rest_side r1; obtain ⟨c0, c1, c2, c3, c4, x0, x1, x2, x3, x4, f0, f1, f2, f3, f4⟩ := rest_out r1)
  refine bodyPost_ret (v := .tuple #[St 0 false false false false, .int .i64 1]) (by simp [results, Try.results22, go_sem, x0, x1, x2, x3, x4]) rfl ⟨rfl, ?_⟩
  exact (rest_set (rest_set (rest_set (rest_set (rest_set r1 0 _) 1 _) 2 _) 3 _) 4 _).2.2

set_option maxHeartbeats 400000 in
theorem hear_ask_t (n : Int) (a b : Bool) (h : Hid (rightB n a b = true)) (hs : Hid (seenB n = true)) (w : World) :
    Calls Try.prog 22 #[S n a b, .int .i64 1] w fun e w' => e = .returned (.tuple #[St n a b false true, .int .i64 0]) ∧ Below w.heap.size w w' := by
  go_enter Try.func22, Try.ntmps22
  go_wp2_with fail
  refine (right_yes n a b h _).mono ?_
  rintro e w1 ⟨rfl, hb1⟩
  have r1 := rest_new _ _ _ _ _ _ _ _ _ hb1
  clear hb1
  obtain ⟨y0, y1, y2⟩ := rest_side r1
  go_wp2_with fail
  refine (seen_at n a b true hs _).mono ?_
  rintro e w3 ⟨rfl, hb2⟩
  have r3 := rest_below hb2 r1
  clear hb2
  obtain ⟨y6, y7, y8⟩ := rest_side r3
  obtain ⟨c0, c1, c2, c3, c4, x0, x1, x2, x3, x4, f0, f1, f2, f3, f4⟩ := rest_out r3
  go_wp2
  refine bodyPost_ret (v := .tuple #[St n a b false true, .int .i64 0]) (by simp [results, Try.results22, go_sem, x0, x1, x2, x3, x4]) rfl ⟨rfl, ?_⟩
  exact (rest_set (rest_set (rest_set (rest_set (rest_set r3 0 _) 1 _) 2 _) 3 _) 4 _).2.2

set_option maxHeartbeats 400000 in
theorem hear_ask_f (n : Int) (a b : Bool) (h : Hid (rightB n a b = true)) (hs : Hid (seenB n = false)) (w : World) :
    Calls Try.prog 22 #[S n a b, .int .i64 1] w fun e w' => e = .returned (.tuple #[St (pickI (!b) n n) (pickB (!b) a a) (pickB (!b) true b) (!b) false, .int .i64 0]) ∧ Below w.heap.size w w' := by
  go_enter Try.func22, Try.ntmps22
  go_wp2_with fail
  refine (right_yes n a b h _).mono ?_
  rintro e w1 ⟨rfl, hb1⟩
  have r1 := rest_new _ _ _ _ _ _ _ _ _ hb1
  clear hb1
  obtain ⟨y0, y1, y2⟩ := rest_side r1
  go_wp2_with fail
  refine (seen_at n a b false hs _).mono ?_
  rintro e w2 ⟨rfl, hb2⟩
  have r2 := rest_below hb2 r1
  clear hb2
  have z1 := rest_size r2
  have n1 : ¬ w2.heap.size = w.heap.size := by omega
  have n2 : ¬ w.heap.size = w2.heap.size := by omega
  have n3 : ¬ w2.heap.size = w.heap.size + 1 := by omega
  have n4 : ¬ w.heap.size + 1 = w2.heap.size := by omega
  obtain ⟨y6, y7, y8⟩ := rest_side r2
  have q0 := fun o => (rest_side (rest_alloc r2 o)).1
  have q1 := fun o => (rest_side (rest_alloc r2 o)).2.1
  have q2 := fun o => (rest_side (rest_alloc r2 o)).2.2
  go_wp2_with fail
  refine (when_any (!b) n a b n a true _).mono ?_
  rintro e w3 ⟨rfl, hb3⟩
  have r3 := rest_below hb3 (rest_alloc r2 _)
  clear hb3
  obtain ⟨c0, c1, c2, c3, c4, x0, x1, x2, x3, x4, f0, f1, f2, f3, f4⟩ := rest_out r3
  go_wp2
  refine bodyPost_ret (v := .tuple #[St (pickI (!b) n n) (pickB (!b) a a) (pickB (!b) true b) (!b) false, .int .i64 0]) (by simp [results, Try.results22, go_sem, x0, x1, x2, x3, x4]) rfl ⟨rfl, ?_⟩
  exact (rest_set (rest_set (rest_set (rest_set (rest_set r3 0 _) 1 _) 2 _) 3 _) 4 _).2.2

end Go.Proofs.Ytajdhlcnfmlkiaa
