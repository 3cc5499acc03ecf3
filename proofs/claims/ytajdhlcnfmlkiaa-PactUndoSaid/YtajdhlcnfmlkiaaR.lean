/- The reference's functions of layer 11 at sides that may be: Of, Fit, Do, Hear, Both, Sub, and the law's side. -/
import Derived.Test.YtajdhlcnfmlkiaaH
namespace Go.Proofs.Ytajdhlcnfmlkiaa
open Go.RowKit
attribute [local go_sem ↓] Go.wp_at_zero Go.wp_at_succ

abbrev R4 (x y a b : Bool) : Value := .agg #[.bool x, .bool y, .bool a, .bool b]

set_option maxHeartbeats 2000000 in
theorem of_in (n : Int) (a b : Bool) (h0 : 0 ≤ n) (h3 : n ≤ 3) (w : World) :
    Calls Try.prog 10 #[.int .i64 n, .bool a, .bool b] w fun e w' => e = .returned (.tuple #[R4 (seesB n) (seenB n) a b, .bool (rightB n a b)]) ∧ Below w.heap.size w w' := by
  rcases small4 h0 h3 with rfl | rfl | rfl | rfl <;> cases a <;> cases b
  all_goals
    go_enter Try.func10, Try.ntmps10
    go_wp2
    refine bodyPost_ret (v := .tuple #[R4 _ _ _ _, .bool _]) (by simp [results, Try.results10, go_sem]; decide) rfl ⟨rfl, ?_⟩
    repeat (first | exact Below.refl _ _ | (refine Below.alloc ?_ (by simp; try omega) _))
theorem of_low (n : Int) (a b : Bool) (h0 : n < 0) (w : World) :
    Calls Try.prog 10 #[.int .i64 n, .bool a, .bool b] w fun e w' => e = .returned (.tuple #[R4 false false a b, .bool false]) ∧ Below w.heap.size w w' := by
  have k1 : (n == 1) = false := by simp; omega
  have k2 : (n == 2) = false := by simp; omega
  have k3 : (n == 3) = false := by simp; omega
  go_enter Try.func10, Try.ntmps10
  go_wp2
  refine bodyPost_ret (v := .tuple #[R4 false false a b, .bool false]) (by simp [results, Try.results10, go_sem]) rfl ⟨rfl, ?_⟩
  repeat (first | exact Below.refl _ _ | (refine Below.alloc ?_ (by simp; try omega) _))
theorem of_high (n : Int) (a b : Bool) (h0 : 3 < n) (w : World) :
    Calls Try.prog 10 #[.int .i64 n, .bool a, .bool b] w fun e w' => e = .returned (.tuple #[R4 false false a b, .bool false]) ∧ Below w.heap.size w w' := by
  have k1 : (n == 1) = false := by simp; omega
  have k2 : (n == 2) = false := by simp; omega
  have k3 : (n == 3) = false := by simp; omega
  go_enter Try.func10, Try.ntmps10
  go_wp2
  refine bodyPost_ret (v := .tuple #[R4 false false a b, .bool false]) (by simp [results, Try.results10, go_sem]) rfl ⟨rfl, ?_⟩
  repeat (first | exact Below.refl _ _ | (refine Below.alloc ?_ (by simp; try omega) _))
theorem of_any (n : Int) (a b : Bool) (w : World) :
    Calls Try.prog 10 #[.int .i64 n, .bool a, .bool b] w fun e w' => e = .returned (.tuple #[R4 (seesB n) (seenB n) a b, .bool (rightB n a b)]) ∧ Below w.heap.size w w' := by
  by_cases h0 : n < 0
  · rw [show seesB n = false by simp [seesB]; omega, show seenB n = false by simp [seenB]; omega, show rightB n a b = false by simp [rightB]; omega]
    exact of_low n a b h0 w
  · by_cases h3 : 3 < n
    · rw [show seesB n = false by simp [seesB]; omega, show seenB n = false by simp [seenB]; omega, show rightB n a b = false by simp [rightB]; omega]
      exact of_high n a b h3 w
    · exact of_in n a b (by omega) (by omega) w

def rfitB (x y a b x' y' a' b' : Bool) : Bool := x == y' && x' == y && a == b' && a' == b
set_option maxHeartbeats 1000000 in
theorem rfit_any (x y a b x' y' a' b' : Bool) (w : World) :
    Calls Try.prog 12 #[R4 x y a b, R4 x' y' a' b'] w fun e w' => e = .returned (.bool (rfitB x y a b x' y' a' b')) ∧ Below w.heap.size w w' := by
  cases h1 : (x == y')
  · rw [show rfitB x y a b x' y' a' b' = false by simp [rfitB, h1]]
    go_enter Try.func12, Try.ntmps12
    go_wp2
    go_ret
    exact ⟨rfl, ((Below.refl _ _).alloc (Nat.le_refl _) _).alloc (by simp) _⟩
  · cases h2 : (x' == y)
    · rw [show rfitB x y a b x' y' a' b' = false by simp [rfitB, h2]]
      go_enter Try.func12, Try.ntmps12
      go_wp2
      go_ret
      exact ⟨rfl, ((Below.refl _ _).alloc (Nat.le_refl _) _).alloc (by simp) _⟩
    · cases h3 : (a == b')
      · rw [show rfitB x y a b x' y' a' b' = false by simp [rfitB, h3]]
        go_enter Try.func12, Try.ntmps12
        go_wp2
        go_ret
        exact ⟨rfl, ((Below.refl _ _).alloc (Nat.le_refl _) _).alloc (by simp) _⟩
      · rw [show rfitB x y a b x' y' a' b' = (a' == b) by simp [rfitB, h1, h2, h3]]
        go_enter Try.func12, Try.ntmps12
        go_wp2
        go_ret
        exact ⟨rfl, ((Below.refl _ _).alloc (Nat.le_refl _) _).alloc (by simp) _⟩

def subN (x y : Bool) : Int := (if x then 1 else 0) + if y then 2 else 0
theorem sub_any (x y a b : Bool) (w : World) : Calls Try.prog 25 #[R4 x y a b] w fun e w' => e = .returned (.int .i64 (subN x y)) ∧ Below w.heap.size w w' := by
  cases x <;> cases y
  all_goals
    go_enter Try.func25, Try.ntmps25
    go_wp2
    go_ret
    exact ⟨rfl, (Below.refl _ _).alloc (Nat.le_refl _) _⟩
end Go.Proofs.Ytajdhlcnfmlkiaa
