/- One way through pact.Do and pact.Hear: the guarded half of the test is not asked. -/
import Derived.Test.YtajdhlcnfmlkiaaB
namespace Go.Proofs.Ytajdhlcnfmlkiaa
open Go.RowKit
attribute [local go_sem ↓] Go.wp_at_zero Go.wp_at_succ

set_option maxHeartbeats 4000000 in
theorem hear_leave_t (n : Int) (a b : Bool) (h : Hid (rightB n a b = true)) (h0 : 0 ≤ n) (h3 : n ≤ 3) (hs : Hid (seenB n = true)) (w : World) :
    Calls Try.prog 22 #[S n a b, .int .i64 3] w fun e w' => e = .returned (.tuple #[St (pickI true (showN n false) n) (pickB true a a) (pickB true false b) true false, .int .i64 0]) ∧ Below w.heap.size w w' := by
  go_enter Try.func22, Try.ntmps22
  go_wp2_with (go_at_call 15; refine (right_yes n a b h _).mono ?_; rintro e w1 ⟨rfl, hb1⟩; have r1 := rest_new _ _ _ _ _ _ _ _ _ hb1; clear hb1; obtain ⟨y10, y11, y12⟩ := rest_side r1)
  first | (go_region_with (first | (go_at_call 17; refine (seen_at n a b true hs _).mono ?_; rintro e w4 ⟨rfl, hb4⟩; have r4 := rest_below (w0 := w) (n := n) (a := a) (b := b) hb4 (by first | assumption | exact rest_drew (by assumption)); clear hb4; obtain ⟨y40, y41, y42⟩ := rest_side r4) | (go_at_call 29; refine (show_any n a b false h0 h3 _).mono ?_; rintro e w2 ⟨rfl, hb2⟩; have r2 := rest_below (w0 := w) (n := n) (a := a) (b := b) hb2 (by first | assumption | exact rest_drew (by assumption)); clear hb2; obtain ⟨y20, y21, y22⟩ := rest_side r2) | (go_at_call 28; refine (when_any true n a b (showN n false) a false _).mono ?_; rintro e w3 ⟨rfl, hb3⟩; have r3 := rest_below (w0 := w) (n := n) (a := a) (b := b) hb3 (by first | assumption | exact rest_drew (by assumption)); clear hb3; obtain ⟨y30, y31, y32⟩ := rest_side r3; obtain ⟨c0, c1, c2, c3, c4, x0, x1, x2, x3, x4, f0, f1, f2, f3, f4⟩ := rest_out r3))) | fail
  all_goals
    go_wp2
    refine bodyPost_ret (v := .tuple #[St (pickI true (showN n false) n) (pickB true a a) (pickB true false b) true false, .int .i64 0]) (by simp [results, Try.results22, go_sem, x0, x1, x2, x3, x4]) rfl ⟨rfl, ?_⟩
    exact (rest_set (rest_set (rest_set (rest_set (rest_set r3 0 _) 1 _) 2 _) 3 _) 4 _).2.2

end Go.Proofs.Ytajdhlcnfmlkiaa
