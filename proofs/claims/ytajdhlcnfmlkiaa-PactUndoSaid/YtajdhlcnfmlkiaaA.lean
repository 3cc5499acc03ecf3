/- The inner functions of package pact: sees, seen, right, when, show, see, each as a plain function of the side; no condition but that show and see are handed a state from 0 to 3. -/
import Derived.Test.YtajdhlcnfmlkiaaRows
import Derived.WalkKit
import Derived.WalkSpells
import Derived.WalkLawsBesides
import Derived.Deep.RegionHeld3
import Derived.Deep.DrawnRows
import Derived.Lib.Hide
import Derived.BigQuiet
namespace Go.Proofs.Ytajdhlcnfmlkiaa
open Go.RowKit
attribute [local go_sem ↓] Go.wp_at_zero Go.wp_at_succ

abbrev S (n : Int) (a w : Bool) : Value := .agg #[.int .i64 n, .bool a, .bool w]
abbrev St (n : Int) (a w t e : Bool) : Value := .agg #[.int .i64 n, .bool a, .bool w, .bool t, .bool e]
def seesB (n : Int) : Bool := n == 1 || n == 3
def seenB (n : Int) : Bool := n == 2 || n == 3
def rightB (n : Int) (a b : Bool) : Bool := decide (0 ≤ n) && decide (n ≤ 3) && !(a && seesB n) && !(b && seenB n)

theorem ret_bool {a b : Bool} (h : a = b) : Ending.returned (.bool a) = .returned (.bool b) := by rw [h]

set_option maxHeartbeats 400000 in
theorem sees_any (n : Int) (a b : Bool) (w : World) :
    Calls Try.prog 16 #[S n a b] w fun e w' => e = .returned (.bool (seesB n)) ∧ Below w.heap.size w w' := by
  by_cases h1 : n = 1
  · subst h1
    go_enter Try.func16, Try.ntmps16
    go_wp2
    go_ret
    exact ⟨rfl, (Below.refl _ _).alloc (Nat.le_refl _) _⟩
  · have h1' : (n == 1) = false := by simpa using h1
    have e : seesB n = (n == 3) := by simp [seesB, h1']
    rw [e]
    clear e
    go_enter Try.func16, Try.ntmps16
    go_wp2
    go_ret
    exact ⟨ret_bool (by simp), (Below.refl _ _).alloc (Nat.le_refl _) _⟩
set_option maxHeartbeats 400000 in
theorem seen_any (n : Int) (a b : Bool) (w : World) :
    Calls Try.prog 17 #[S n a b] w fun e w' => e = .returned (.bool (seenB n)) ∧ Below w.heap.size w w' := by
  by_cases h1 : n = 2
  · subst h1
    go_enter Try.func17, Try.ntmps17
    go_wp2
    go_ret
    exact ⟨rfl, (Below.refl _ _).alloc (Nat.le_refl _) _⟩
  · have h1' : (n == 2) = false := by simpa using h1
    have e : seenB n = (n == 3) := by simp [seenB, h1']
    rw [e]
    clear e
    go_enter Try.func17, Try.ntmps17
    go_wp2
    go_ret
    exact ⟨ret_bool (by simp), (Below.refl _ _).alloc (Nat.le_refl _) _⟩

theorem bcell {W w1 : World} (hb : Below W.heap.size W w1) : (∀ b o, b < W.heap.size → w1.cell? ⟨b, o, none⟩ = W.cell? ⟨b, o, none⟩) ∧ (∀ b o, b < W.heap.size → w1.frozen? ⟨b, o, none⟩ = W.frozen? ⟨b, o, none⟩) :=
  ⟨fun b o h => hb.cell (p := ⟨b, o, none⟩) h, fun b o h => hb.frozen (p := ⟨b, o, none⟩) h⟩

theorem small4 {n : Int} (h0 : 0 ≤ n) (h3 : n ≤ 3) : n = 0 ∨ n = 1 ∨ n = 2 ∨ n = 3 := by omega

set_option maxHeartbeats 1000000 in
theorem right_in (n : Int) (a b : Bool) (h0 : 0 ≤ n) (h3 : n ≤ 3) (w : World) :
    Calls Try.prog 15 #[S n a b] w fun e w' => e = .returned (.bool (rightB n a b)) ∧ Below w.heap.size w w' := by
  rcases small4 h0 h3 with rfl | rfl | rfl | rfl <;> cases a <;> cases b
  all_goals
    go_enter Try.func15, Try.ntmps15
    go_wp2
    go_ret
    exact ⟨rfl, by repeat (first | exact Below.refl _ _ | (refine Below.alloc ?_ (by simp; try omega) _))⟩

theorem right_low (n : Int) (a b : Bool) (h0 : n < 0) (w : World) :
    Calls Try.prog 15 #[S n a b] w fun e w' => e = .returned (.bool (rightB n a b)) ∧ Below w.heap.size w w' := by
  have e : rightB n a b = false := by simp [rightB]; omega
  rw [e]
  clear e
  go_enter Try.func15, Try.ntmps15
  go_wp2
  go_ret
  exact ⟨ret_bool (by simp), (Below.refl _ _).alloc (Nat.le_refl _) _⟩

theorem right_high (n : Int) (a b : Bool) (h0 : 3 < n) (w : World) :
    Calls Try.prog 15 #[S n a b] w fun e w' => e = .returned (.bool (rightB n a b)) ∧ Below w.heap.size w w' := by
  have e : rightB n a b = false := by simp [rightB]; omega
  rw [e]
  clear e
  go_enter Try.func15, Try.ntmps15
  go_wp2
  go_ret
  exact ⟨ret_bool (by simp), (Below.refl _ _).alloc (Nat.le_refl _) _⟩

theorem right_any (n : Int) (a b : Bool) (w : World) :
    Calls Try.prog 15 #[S n a b] w fun e w' => e = .returned (.bool (rightB n a b)) ∧ Below w.heap.size w w' := by
  by_cases h0 : n < 0
  · exact right_low n a b h0 w
  · by_cases h3 : 3 < n
    · exact right_high n a b h3 w
    · exact right_in n a b (by omega) (by omega) w


def pickI (t : Bool) (x y : Int) : Int := if t then x else y
def pickB (t : Bool) (x y : Bool) : Bool := if t then x else y

set_option maxHeartbeats 400000 in
theorem when_any (t : Bool) (n : Int) (a b : Bool) (n' : Int) (a' b' : Bool) (w : World) :
    Calls Try.prog 28 #[.bool t, S n a b, S n' a' b'] w fun e w' => e = .returned (St (pickI t n' n) (pickB t a' a) (pickB t b' b) t false) ∧ Below w.heap.size w w' := by
  cases t
  · go_enter Try.func28, Try.ntmps28
    go_wp2
    exact bodyPost_ret (v := St n a b false false) (by simp [results, Try.results28, go_sem]) rfl ⟨rfl, by repeat (first | exact Below.refl _ _ | (refine Below.alloc ?_ (by simp; try omega) _))⟩
  · go_enter Try.func28, Try.ntmps28
    go_wp2
    exact bodyPost_ret (v := St n' a' b' true false) (by simp [results, Try.results28, go_sem]) rfl ⟨rfl, by repeat (first | exact Below.refl _ _ | (refine Below.alloc ?_ (by simp; try omega) _))⟩

def showN (n : Int) (b : Bool) : Int := (if n == 1 || n == 3 then 1 else 0) + if b then 2 else 0
def seeN (n : Int) (b : Bool) : Int := (if n == 2 || n == 3 then 2 else 0) + if b then 1 else 0

set_option maxHeartbeats 1000000 in
theorem show_any (n : Int) (a b t : Bool) (h0 : 0 ≤ n) (h3 : n ≤ 3) (w : World) :
    Calls Try.prog 29 #[S n a b, .bool t] w fun e w' => e = .returned (S (showN n t) a false) ∧ Below w.heap.size w w' := by
  have k01 : bits BinOp.and IntKind.i64 0 1 = 0 := by decide
  have k11 : bits BinOp.and IntKind.i64 1 1 = 1 := by decide
  have k21 : bits BinOp.and IntKind.i64 2 1 = 0 := by decide
  have k31 : bits BinOp.and IntKind.i64 3 1 = 1 := by decide
  have o0 : bits BinOp.or IntKind.i64 0 2 = 2 := by decide
  have o1 : bits BinOp.or IntKind.i64 1 2 = 3 := by decide
  rcases small4 h0 h3 with rfl | rfl | rfl | rfl <;> cases t
  all_goals
    go_enter Try.func29, Try.ntmps29
    go_wp2
    refine bodyPost_ret (v := S _ a false) (by simp [results, Try.results29, go_sem]; rfl) rfl ⟨rfl, ?_⟩
    repeat (first | exact Below.refl _ _ | (refine Below.alloc ?_ (by simp; try omega) _))
set_option maxHeartbeats 1000000 in
theorem see_any (n : Int) (a b t : Bool) (h0 : 0 ≤ n) (h3 : n ≤ 3) (w : World) :
    Calls Try.prog 30 #[S n a b, .bool t] w fun e w' => e = .returned (S (seeN n t) false b) ∧ Below w.heap.size w w' := by
  have k01 : bits BinOp.and IntKind.i64 0 2 = 0 := by decide
  have k11 : bits BinOp.and IntKind.i64 1 2 = 0 := by decide
  have k21 : bits BinOp.and IntKind.i64 2 2 = 2 := by decide
  have k31 : bits BinOp.and IntKind.i64 3 2 = 2 := by decide
  have o0 : bits BinOp.or IntKind.i64 0 1 = 1 := by decide
  have o1 : bits BinOp.or IntKind.i64 2 1 = 3 := by decide
  rcases small4 h0 h3 with rfl | rfl | rfl | rfl <;> cases t
  all_goals
    go_enter Try.func30, Try.ntmps30
    go_wp2
    refine bodyPost_ret (v := S _ false b) (by simp [results, Try.results30, go_sem]; rfl) rfl ⟨rfl, ?_⟩
    repeat (first | exact Below.refl _ _ | (refine Below.alloc ?_ (by simp; try omega) _))

end Go.Proofs.Ytajdhlcnfmlkiaa
