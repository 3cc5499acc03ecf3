/- The reference's Do and Hear of layer 11, over all truths and the four acts. -/
import Derived.Test.YtajdhlcnfmlkiaaH
namespace Go.Proofs.Ytajdhlcnfmlkiaa
open Go.RowKit
attribute [local go_sem ↓] Go.wp_at_zero Go.wp_at_succ
abbrev Q4 (x y a b : Bool) : Value := .agg #[.bool x, .bool y, .bool a, .bool b]

set_option maxHeartbeats 1000000 in
theorem rdo1 (x y a b : Bool) (w : World) : Calls Try.prog 23 #[Q4 x y a b, .int .i64 1] w fun e w' => e = .returned (.tuple #[Q4 x y (!x) b, .bool true, .bool true]) ∧ Below w.heap.size w w' := by
  go_enter Try.func23, Try.ntmps23
  go_wp2
  refine bodyPost_ret (v := .tuple #[Q4 x y (!x) b, .bool true, .bool true]) (by simp [results, Try.results23, go_sem]) rfl ⟨rfl, ?_⟩
  repeat (first | exact Below.refl _ _ | (refine Below.alloc ?_ (by simp; try omega) _))

set_option maxHeartbeats 1000000 in
theorem rdo2 (x y a b : Bool) (w : World) : Calls Try.prog 23 #[Q4 x y a b, .int .i64 2] w fun e w' => e = .returned (.tuple #[Q4 x (b || y) a false, .bool b, .bool true]) ∧ Below w.heap.size w w' := by
  cases b
  · go_enter Try.func23, Try.ntmps23
    go_wp2
    refine bodyPost_ret (v := .tuple #[Q4 x (false || y) a false, .bool false, .bool true]) (by simp [results, Try.results23, go_sem]) rfl ⟨rfl, ?_⟩
    repeat (first | exact Below.refl _ _ | (refine Below.alloc ?_ (by simp; try omega) _))
  · go_enter Try.func23, Try.ntmps23
    go_wp2
    refine bodyPost_ret (v := .tuple #[Q4 x (true || y) a false, .bool true, .bool true]) (by simp [results, Try.results23, go_sem]) rfl ⟨rfl, ?_⟩
    repeat (first | exact Below.refl _ _ | (refine Below.alloc ?_ (by simp; try omega) _))

set_option maxHeartbeats 1000000 in
theorem rdo3 (x y a b : Bool) (w : World) : Calls Try.prog 23 #[Q4 x y a b, .int .i64 3] w fun e w' => e = .returned (.tuple #[Q4 false y false b, .bool (x || a), .bool true]) ∧ Below w.heap.size w w' := by
  cases x
  · go_enter Try.func23, Try.ntmps23
    go_wp2
    refine bodyPost_ret (v := .tuple #[Q4 false y false b, .bool (false || a), .bool true]) (by simp [results, Try.results23, go_sem]) rfl ⟨rfl, ?_⟩
    repeat (first | exact Below.refl _ _ | (refine Below.alloc ?_ (by simp; try omega) _))
  · go_enter Try.func23, Try.ntmps23
    go_wp2
    refine bodyPost_ret (v := .tuple #[Q4 false y false b, .bool (true || a), .bool true]) (by simp [results, Try.results23, go_sem]) rfl ⟨rfl, ?_⟩
    repeat (first | exact Below.refl _ _ | (refine Below.alloc ?_ (by simp; try omega) _))

set_option maxHeartbeats 1000000 in
theorem rdo4 (x y a b : Bool) (w : World) : Calls Try.prog 23 #[Q4 x y a b, .int .i64 4] w fun e w' => e = .returned (.tuple #[Q4 x false a false, .bool (y || b), .bool true]) ∧ Below w.heap.size w w' := by
  cases y
  · go_enter Try.func23, Try.ntmps23
    go_wp2
    refine bodyPost_ret (v := .tuple #[Q4 x false a false, .bool (false || b), .bool true]) (by simp [results, Try.results23, go_sem]) rfl ⟨rfl, ?_⟩
    repeat (first | exact Below.refl _ _ | (refine Below.alloc ?_ (by simp; try omega) _))
  · go_enter Try.func23, Try.ntmps23
    go_wp2
    refine bodyPost_ret (v := .tuple #[Q4 x false a false, .bool (true || b), .bool true]) (by simp [results, Try.results23, go_sem]) rfl ⟨rfl, ?_⟩
    repeat (first | exact Below.refl _ _ | (refine Below.alloc ?_ (by simp; try omega) _))

set_option maxHeartbeats 1000000 in
theorem rhear1 (x y a b : Bool) (w : World) : Calls Try.prog 24 #[Q4 x y a b, .int .i64 1] w fun e w' => e = .returned (.tuple #[Q4 x y a (b || !y), .bool (!y && !b), .bool y, .bool true]) ∧ Below w.heap.size w w' := by
  cases y
  · go_enter Try.func24, Try.ntmps24
    go_wp2
    refine bodyPost_ret (v := .tuple #[Q4 x false a (b || !false), .bool (!false && !b), .bool false, .bool true]) (by simp [results, Try.results24, go_sem]) rfl ⟨rfl, ?_⟩
    repeat (first | exact Below.refl _ _ | (refine Below.alloc ?_ (by simp; try omega) _))
  · go_enter Try.func24, Try.ntmps24
    go_wp2
    refine bodyPost_ret (v := .tuple #[Q4 x true a (b || !true), .bool (!true && !b), .bool true, .bool true]) (by simp [results, Try.results24, go_sem]) rfl ⟨rfl, ?_⟩
    repeat (first | exact Below.refl _ _ | (refine Below.alloc ?_ (by simp; try omega) _))

set_option maxHeartbeats 1000000 in
theorem rhear2 (x y a b : Bool) (w : World) : Calls Try.prog 24 #[Q4 x y a b, .int .i64 2] w fun e w' => e = .returned (.tuple #[Q4 (a || x) y false b, .bool a, .bool false, .bool true]) ∧ Below w.heap.size w w' := by
  cases a
  · go_enter Try.func24, Try.ntmps24
    go_wp2
    refine bodyPost_ret (v := .tuple #[Q4 (false || x) y false b, .bool false, .bool false, .bool true]) (by simp [results, Try.results24, go_sem]) rfl ⟨rfl, ?_⟩
    repeat (first | exact Below.refl _ _ | (refine Below.alloc ?_ (by simp; try omega) _))
  · go_enter Try.func24, Try.ntmps24
    go_wp2
    refine bodyPost_ret (v := .tuple #[Q4 (true || x) y false b, .bool true, .bool false, .bool true]) (by simp [results, Try.results24, go_sem]) rfl ⟨rfl, ?_⟩
    repeat (first | exact Below.refl _ _ | (refine Below.alloc ?_ (by simp; try omega) _))

set_option maxHeartbeats 1000000 in
theorem rhear3 (x y a b : Bool) (w : World) : Calls Try.prog 24 #[Q4 x y a b, .int .i64 3] w fun e w' => e = .returned (.tuple #[Q4 x false a false, .bool (y || b), .bool false, .bool true]) ∧ Below w.heap.size w w' := by
  cases y
  · go_enter Try.func24, Try.ntmps24
    go_wp2
    refine bodyPost_ret (v := .tuple #[Q4 x false a false, .bool (false || b), .bool false, .bool true]) (by simp [results, Try.results24, go_sem]) rfl ⟨rfl, ?_⟩
    repeat (first | exact Below.refl _ _ | (refine Below.alloc ?_ (by simp; try omega) _))
  · go_enter Try.func24, Try.ntmps24
    go_wp2
    refine bodyPost_ret (v := .tuple #[Q4 x false a false, .bool (true || b), .bool false, .bool true]) (by simp [results, Try.results24, go_sem]) rfl ⟨rfl, ?_⟩
    repeat (first | exact Below.refl _ _ | (refine Below.alloc ?_ (by simp; try omega) _))

set_option maxHeartbeats 1000000 in
theorem rhear4 (x y a b : Bool) (w : World) : Calls Try.prog 24 #[Q4 x y a b, .int .i64 4] w fun e w' => e = .returned (.tuple #[Q4 false y false b, .bool (x || a), .bool false, .bool true]) ∧ Below w.heap.size w w' := by
  cases x
  · go_enter Try.func24, Try.ntmps24
    go_wp2
    refine bodyPost_ret (v := .tuple #[Q4 false y false b, .bool (false || a), .bool false, .bool true]) (by simp [results, Try.results24, go_sem]) rfl ⟨rfl, ?_⟩
    repeat (first | exact Below.refl _ _ | (refine Below.alloc ?_ (by simp; try omega) _))
  · go_enter Try.func24, Try.ntmps24
    go_wp2
    refine bodyPost_ret (v := .tuple #[Q4 false y false b, .bool (true || a), .bool false, .bool true]) (by simp [results, Try.results24, go_sem]) rfl ⟨rfl, ?_⟩
    repeat (first | exact Below.refl _ _ | (refine Below.alloc ?_ (by simp; try omega) _))
end Go.Proofs.Ytajdhlcnfmlkiaa
