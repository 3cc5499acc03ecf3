/- PactNames, the row: for every act and every name the law answers true, and its arguments read as they did. No condition. -/
import Derived.Test.YtajdhlcnfmlkiaaH
import Derived.Test.YtajdhlcnfmlkiaaLaw
import Derived.ChangeMaps5
namespace Go.Proofs.Ytajdhlcnfmlkiaa
open Go.ChangeMaps (open_string)
open Go.RowKit Go.Joins Go.ChangeShapes Go.WideShapes Go.ChangeAt
attribute [local go_sem ↓] Go.wp_at_zero Go.wp_at_succ

theorem ref_in (act : Int) (f : Int) (hf : f = 1 ∨ f = 2 ∨ f = 3 ∨ f = 4) (w : World) (h : act = f) : Calls Try.prog 20 #[.int .i64 act] w fun e w' => e = .returned (.string (nameOf act)) ∧ Below w.heap.size w w' := by
  subst h
  rcases hf with rfl | rfl | rfl | rfl
  all_goals
    go_enter Try.func20, Try.ntmps20
    go_wp2
    go_ret
    exact ⟨rfl, (Below.refl _ _).alloc (Nat.le_refl _) _⟩
theorem ref_low (act : Int) (h : act < 1) (w : World) : Calls Try.prog 20 #[.int .i64 act] w fun e w' => e = .returned (.string (nameOf act)) ∧ Below w.heap.size w w' := by
  have e : nameOf act = ⟨#[]⟩ := by unfold nameOf; rw [if_neg (by omega), if_neg (by omega), if_neg (by omega), if_neg (by omega)]
  rw [e]
  clear e
  go_enter Try.func20, Try.ntmps20
  go_wp2
  go_ret
  exact ⟨rfl, Below.refl _ _⟩
theorem ref_high (act : Int) (h : 4 < act) (w : World) : Calls Try.prog 20 #[.int .i64 act] w fun e w' => e = .returned (.string (nameOf act)) ∧ Below w.heap.size w w' := by
  have e : nameOf act = ⟨#[]⟩ := by unfold nameOf; rw [if_neg (by omega), if_neg (by omega), if_neg (by omega), if_neg (by omega)]
  rw [e]
  clear e
  have h' : ¬ act < 1 := by omega
  go_enter Try.func20, Try.ntmps20
  go_wp2
  go_ret
  exact ⟨rfl, Below.refl _ _⟩
theorem ref_any (act : Int) (w : World) : Calls Try.prog 20 #[.int .i64 act] w fun e w' => e = .returned (.string (nameOf act)) ∧ Below w.heap.size w w' := by
  by_cases h1 : act < 1
  · exact ref_low act h1 w
  · by_cases h4 : 4 < act
    · exact ref_high act h4 w
    · exact ref_in act act (by omega) w rfl

theorem act_at (s : ByteArray) (k : Int) (h : actOf s = k) (w : World) : Calls Try.prog 18 #[.string s] w fun e w' => e = .returned (.int .i64 k) ∧ Below w.heap.size w w' := by
  rw [← h]; exact act_any s w
theorem name_at (act : Int) (s : ByteArray) (h : nameOf act = s) (w : World) : Calls Try.prog 19 #[.int .i64 act] w fun e w' => e = .returned (.string s) ∧ Below w.heap.size w w' := by
  rw [← h]; exact name_any act w
theorem ref_at (act : Int) (s : ByteArray) (h : nameOf act = s) (w : World) : Calls Try.prog 20 #[.int .i64 act] w fun e w' => e = .returned (.string s) ∧ Below w.heap.size w w' := by
  rw [← h]; exact ref_any act w
theorem name_none (act : Int) (h : act < 1 ∨ 4 < act) : nameOf act = ⟨#[]⟩ := by unfold nameOf; rw [if_neg (by omega), if_neg (by omega), if_neg (by omega), if_neg (by omega)]
theorem act_none (s : ByteArray) (h1 : same s t1 = false) (h2 : same s t2 = false) (h3 : same s t3 = false) (h4 : same s t4 = false) : actOf s = 0 := by
  unfold actOf idx4
  rw [h1, h2, h3, h4]; rfl
theorem same_eq {s t : ByteArray} (h : same s t = true) : s = t := by
  have h' : s.toList = t.toList := eq_of_beq h
  rw [ByteArray.toList_eq, ByteArray.toList_eq] at h'
  exact bytes_inj h'
theorem l1 : t1.toList = [115, 117, 98, 115, 99, 114, 105, 98, 101] := by decide +kernel
theorem l2 : t2.toList = [115, 117, 98, 115, 99, 114, 105, 98, 101, 100] := by decide +kernel
theorem l3 : t3.toList = [117, 110, 115, 117, 98, 115, 99, 114, 105, 98, 101] := by decide +kernel
theorem l4 : t4.toList = [117, 110, 115, 117, 98, 115, 99, 114, 105, 98, 101, 100] := by decide +kernel
theorem ne_of {s t : ByteArray} {l : List UInt8} (hl : t.toList = l) (h : same s t = false) : (s.toList == l) = false := by
  subst hl
  exact h

set_option maxHeartbeats 400000 in
theorem names_low_0 (act : Int) (ha : act < 1) (name : ByteArray) (h1 : same name t1 = false) (h2 : same name t2 = false) (h3 : same name t3 = false) (h4 : same name t4 = false) (w : World) : Calls Try.prog 6 #[.int .i64 act, .string name] w fun e w' => e = .returned (.bool true) ∧ Below w.heap.size w w' := by
  have ea := Lib.hid (act_none name h1 h2 h3 h4)
  have n1 := ne_of l1 h1
  have n2 := ne_of l2 h2
  have n3 := ne_of l3 h3
  have n4 := ne_of l4 h4
  clear h1 h2 h3 h4
  have en := Lib.hid (name_none act (.inl ha))
  go_enter Try.func6, Try.ntmps6
  go_wp2_with fail
  refine (lives_any _).mono ?_
  rintro e w1 ⟨rfl, hb1⟩
  have B1 := hb1
  clear hb1
  go_wp2_with fail
  refine (act_at name 0 ea.out _).mono ?_
  rintro e w2 ⟨rfl, hb2⟩
  have B2 := B1.trans (hb2.mono B1.size)
  clear hb2 B1
  go_wp2_with fail
  refine (name_at act _ en.out _).mono ?_
  rintro e w3 ⟨rfl, hb3⟩
  have B3 := B2.trans (hb3.mono B2.size)
  clear hb3 B2
  go_wp2_with fail
  refine (ref_at act _ en.out _).mono ?_
  rintro e w4 ⟨rfl, hb4⟩
  have B4 := B3.trans (hb4.mono B3.size)
  clear hb4 B3
  go_wp2
  go_ret
  exact ⟨rfl, B4⟩

set_option maxHeartbeats 400000 in
theorem names_low_1 (act : Int) (ha : act < 1) (w : World) : Calls Try.prog 6 #[.int .i64 act, .string t1] w fun e w' => e = .returned (.bool true) ∧ Below w.heap.size w w' := by
  have n1 : (t1.toList == [115, 117, 98, 115, 99, 114, 105, 98, 101]) = true := by decide +kernel
  have en := Lib.hid (name_none act (.inl ha))
  go_enter Try.func6, Try.ntmps6
  go_wp2_with fail
  refine (lives_any _).mono ?_
  rintro e w1 ⟨rfl, hb1⟩
  have B1 := hb1
  clear hb1
  go_wp2_with fail
  refine (act_at t1 1 (by decide +kernel) _).mono ?_
  rintro e w2 ⟨rfl, hb2⟩
  have B2 := B1.trans (hb2.mono B1.size)
  clear hb2 B1
  go_wp2_with fail
  refine (name_at act _ en.out _).mono ?_
  rintro e w3 ⟨rfl, hb3⟩
  have B3 := B2.trans (hb3.mono B2.size)
  clear hb3 B2
  go_wp2_with fail
  refine (ref_at act _ en.out _).mono ?_
  rintro e w4 ⟨rfl, hb4⟩
  have B4 := B3.trans (hb4.mono B3.size)
  clear hb4 B3
  go_wp2_with fail
  refine (ref_at 1 t1 rfl _).mono ?_
  rintro e w5 ⟨rfl, hb5⟩
  have B5 := B4.trans (hb5.mono B4.size)
  clear hb5 B4
  go_wp2
  go_ret
  exact ⟨rfl, B5⟩

set_option maxHeartbeats 400000 in
theorem names_low_2 (act : Int) (ha : act < 1) (w : World) : Calls Try.prog 6 #[.int .i64 act, .string t2] w fun e w' => e = .returned (.bool true) ∧ Below w.heap.size w w' := by
  have n1 : (t2.toList == [115, 117, 98, 115, 99, 114, 105, 98, 101]) = false := by decide +kernel
  have n2 : (t2.toList == [115, 117, 98, 115, 99, 114, 105, 98, 101, 100]) = true := by decide +kernel
  have en := Lib.hid (name_none act (.inl ha))
  go_enter Try.func6, Try.ntmps6
  go_wp2_with fail
  refine (lives_any _).mono ?_
  rintro e w1 ⟨rfl, hb1⟩
  have B1 := hb1
  clear hb1
  go_wp2_with fail
  refine (act_at t2 2 (by decide +kernel) _).mono ?_
  rintro e w2 ⟨rfl, hb2⟩
  have B2 := B1.trans (hb2.mono B1.size)
  clear hb2 B1
  go_wp2_with fail
  refine (name_at act _ en.out _).mono ?_
  rintro e w3 ⟨rfl, hb3⟩
  have B3 := B2.trans (hb3.mono B2.size)
  clear hb3 B2
  go_wp2_with fail
  refine (ref_at act _ en.out _).mono ?_
  rintro e w4 ⟨rfl, hb4⟩
  have B4 := B3.trans (hb4.mono B3.size)
  clear hb4 B3
  go_wp2_with fail
  refine (ref_at 2 t2 rfl _).mono ?_
  rintro e w5 ⟨rfl, hb5⟩
  have B5 := B4.trans (hb5.mono B4.size)
  clear hb5 B4
  go_wp2
  go_ret
  exact ⟨rfl, B5⟩

set_option maxHeartbeats 400000 in
theorem names_low_3 (act : Int) (ha : act < 1) (w : World) : Calls Try.prog 6 #[.int .i64 act, .string t3] w fun e w' => e = .returned (.bool true) ∧ Below w.heap.size w w' := by
  have n1 : (t3.toList == [115, 117, 98, 115, 99, 114, 105, 98, 101]) = false := by decide +kernel
  have n2 : (t3.toList == [115, 117, 98, 115, 99, 114, 105, 98, 101, 100]) = false := by decide +kernel
  have n3 : (t3.toList == [117, 110, 115, 117, 98, 115, 99, 114, 105, 98, 101]) = true := by decide +kernel
  have en := Lib.hid (name_none act (.inl ha))
  go_enter Try.func6, Try.ntmps6
  go_wp2_with fail
  refine (lives_any _).mono ?_
  rintro e w1 ⟨rfl, hb1⟩
  have B1 := hb1
  clear hb1
  go_wp2_with fail
  refine (act_at t3 3 (by decide +kernel) _).mono ?_
  rintro e w2 ⟨rfl, hb2⟩
  have B2 := B1.trans (hb2.mono B1.size)
  clear hb2 B1
  go_wp2_with fail
  refine (name_at act _ en.out _).mono ?_
  rintro e w3 ⟨rfl, hb3⟩
  have B3 := B2.trans (hb3.mono B2.size)
  clear hb3 B2
  go_wp2_with fail
  refine (ref_at act _ en.out _).mono ?_
  rintro e w4 ⟨rfl, hb4⟩
  have B4 := B3.trans (hb4.mono B3.size)
  clear hb4 B3
  go_wp2_with fail
  refine (ref_at 3 t3 rfl _).mono ?_
  rintro e w5 ⟨rfl, hb5⟩
  have B5 := B4.trans (hb5.mono B4.size)
  clear hb5 B4
  go_wp2
  go_ret
  exact ⟨rfl, B5⟩

set_option maxHeartbeats 400000 in
theorem names_low_4 (act : Int) (ha : act < 1) (w : World) : Calls Try.prog 6 #[.int .i64 act, .string t4] w fun e w' => e = .returned (.bool true) ∧ Below w.heap.size w w' := by
  have n1 : (t4.toList == [115, 117, 98, 115, 99, 114, 105, 98, 101]) = false := by decide +kernel
  have n2 : (t4.toList == [115, 117, 98, 115, 99, 114, 105, 98, 101, 100]) = false := by decide +kernel
  have n3 : (t4.toList == [117, 110, 115, 117, 98, 115, 99, 114, 105, 98, 101]) = false := by decide +kernel
  have n4 : (t4.toList == [117, 110, 115, 117, 98, 115, 99, 114, 105, 98, 101, 100]) = true := by decide +kernel
  have en := Lib.hid (name_none act (.inl ha))
  go_enter Try.func6, Try.ntmps6
  go_wp2_with fail
  refine (lives_any _).mono ?_
  rintro e w1 ⟨rfl, hb1⟩
  have B1 := hb1
  clear hb1
  go_wp2_with fail
  refine (act_at t4 4 (by decide +kernel) _).mono ?_
  rintro e w2 ⟨rfl, hb2⟩
  have B2 := B1.trans (hb2.mono B1.size)
  clear hb2 B1
  go_wp2_with fail
  refine (name_at act _ en.out _).mono ?_
  rintro e w3 ⟨rfl, hb3⟩
  have B3 := B2.trans (hb3.mono B2.size)
  clear hb3 B2
  go_wp2_with fail
  refine (ref_at act _ en.out _).mono ?_
  rintro e w4 ⟨rfl, hb4⟩
  have B4 := B3.trans (hb4.mono B3.size)
  clear hb4 B3
  go_wp2_with fail
  refine (ref_at 4 t4 rfl _).mono ?_
  rintro e w5 ⟨rfl, hb5⟩
  have B5 := B4.trans (hb5.mono B4.size)
  clear hb5 B4
  go_wp2
  go_ret
  exact ⟨rfl, B5⟩

set_option maxHeartbeats 400000 in
theorem names_high_0 (act : Int) (ha : 4 < act) (name : ByteArray) (h1 : same name t1 = false) (h2 : same name t2 = false) (h3 : same name t3 = false) (h4 : same name t4 = false) (w : World) : Calls Try.prog 6 #[.int .i64 act, .string name] w fun e w' => e = .returned (.bool true) ∧ Below w.heap.size w w' := by
  have ha' : ¬ act < 1 := by omega
  have ea := Lib.hid (act_none name h1 h2 h3 h4)
  have n1 := ne_of l1 h1
  have n2 := ne_of l2 h2
  have n3 := ne_of l3 h3
  have n4 := ne_of l4 h4
  clear h1 h2 h3 h4
  have en := Lib.hid (name_none act (.inr ha))
  go_enter Try.func6, Try.ntmps6
  go_wp2_with fail
  refine (lives_any _).mono ?_
  rintro e w1 ⟨rfl, hb1⟩
  have B1 := hb1
  clear hb1
  go_wp2_with fail
  refine (act_at name 0 ea.out _).mono ?_
  rintro e w2 ⟨rfl, hb2⟩
  have B2 := B1.trans (hb2.mono B1.size)
  clear hb2 B1
  go_wp2_with fail
  refine (name_at act _ en.out _).mono ?_
  rintro e w3 ⟨rfl, hb3⟩
  have B3 := B2.trans (hb3.mono B2.size)
  clear hb3 B2
  go_wp2_with fail
  refine (ref_at act _ en.out _).mono ?_
  rintro e w4 ⟨rfl, hb4⟩
  have B4 := B3.trans (hb4.mono B3.size)
  clear hb4 B3
  go_wp2
  go_ret
  exact ⟨rfl, B4⟩

set_option maxHeartbeats 400000 in
theorem names_high_1 (act : Int) (ha : 4 < act) (w : World) : Calls Try.prog 6 #[.int .i64 act, .string t1] w fun e w' => e = .returned (.bool true) ∧ Below w.heap.size w w' := by
  have ha' : ¬ act < 1 := by omega
  have n1 : (t1.toList == [115, 117, 98, 115, 99, 114, 105, 98, 101]) = true := by decide +kernel
  have en := Lib.hid (name_none act (.inr ha))
  go_enter Try.func6, Try.ntmps6
  go_wp2_with fail
  refine (lives_any _).mono ?_
  rintro e w1 ⟨rfl, hb1⟩
  have B1 := hb1
  clear hb1
  go_wp2_with fail
  refine (act_at t1 1 (by decide +kernel) _).mono ?_
  rintro e w2 ⟨rfl, hb2⟩
  have B2 := B1.trans (hb2.mono B1.size)
  clear hb2 B1
  go_wp2_with fail
  refine (name_at act _ en.out _).mono ?_
  rintro e w3 ⟨rfl, hb3⟩
  have B3 := B2.trans (hb3.mono B2.size)
  clear hb3 B2
  go_wp2_with fail
  refine (ref_at act _ en.out _).mono ?_
  rintro e w4 ⟨rfl, hb4⟩
  have B4 := B3.trans (hb4.mono B3.size)
  clear hb4 B3
  go_wp2_with fail
  refine (ref_at 1 t1 rfl _).mono ?_
  rintro e w5 ⟨rfl, hb5⟩
  have B5 := B4.trans (hb5.mono B4.size)
  clear hb5 B4
  go_wp2
  go_ret
  exact ⟨rfl, B5⟩

set_option maxHeartbeats 400000 in
theorem names_high_2 (act : Int) (ha : 4 < act) (w : World) : Calls Try.prog 6 #[.int .i64 act, .string t2] w fun e w' => e = .returned (.bool true) ∧ Below w.heap.size w w' := by
  have ha' : ¬ act < 1 := by omega
  have n1 : (t2.toList == [115, 117, 98, 115, 99, 114, 105, 98, 101]) = false := by decide +kernel
  have n2 : (t2.toList == [115, 117, 98, 115, 99, 114, 105, 98, 101, 100]) = true := by decide +kernel
  have en := Lib.hid (name_none act (.inr ha))
  go_enter Try.func6, Try.ntmps6
  go_wp2_with fail
  refine (lives_any _).mono ?_
  rintro e w1 ⟨rfl, hb1⟩
  have B1 := hb1
  clear hb1
  go_wp2_with fail
  refine (act_at t2 2 (by decide +kernel) _).mono ?_
  rintro e w2 ⟨rfl, hb2⟩
  have B2 := B1.trans (hb2.mono B1.size)
  clear hb2 B1
  go_wp2_with fail
  refine (name_at act _ en.out _).mono ?_
  rintro e w3 ⟨rfl, hb3⟩
  have B3 := B2.trans (hb3.mono B2.size)
  clear hb3 B2
  go_wp2_with fail
  refine (ref_at act _ en.out _).mono ?_
  rintro e w4 ⟨rfl, hb4⟩
  have B4 := B3.trans (hb4.mono B3.size)
  clear hb4 B3
  go_wp2_with fail
  refine (ref_at 2 t2 rfl _).mono ?_
  rintro e w5 ⟨rfl, hb5⟩
  have B5 := B4.trans (hb5.mono B4.size)
  clear hb5 B4
  go_wp2
  go_ret
  exact ⟨rfl, B5⟩

set_option maxHeartbeats 400000 in
theorem names_high_3 (act : Int) (ha : 4 < act) (w : World) : Calls Try.prog 6 #[.int .i64 act, .string t3] w fun e w' => e = .returned (.bool true) ∧ Below w.heap.size w w' := by
  have ha' : ¬ act < 1 := by omega
  have n1 : (t3.toList == [115, 117, 98, 115, 99, 114, 105, 98, 101]) = false := by decide +kernel
  have n2 : (t3.toList == [115, 117, 98, 115, 99, 114, 105, 98, 101, 100]) = false := by decide +kernel
  have n3 : (t3.toList == [117, 110, 115, 117, 98, 115, 99, 114, 105, 98, 101]) = true := by decide +kernel
  have en := Lib.hid (name_none act (.inr ha))
  go_enter Try.func6, Try.ntmps6
  go_wp2_with fail
  refine (lives_any _).mono ?_
  rintro e w1 ⟨rfl, hb1⟩
  have B1 := hb1
  clear hb1
  go_wp2_with fail
  refine (act_at t3 3 (by decide +kernel) _).mono ?_
  rintro e w2 ⟨rfl, hb2⟩
  have B2 := B1.trans (hb2.mono B1.size)
  clear hb2 B1
  go_wp2_with fail
  refine (name_at act _ en.out _).mono ?_
  rintro e w3 ⟨rfl, hb3⟩
  have B3 := B2.trans (hb3.mono B2.size)
  clear hb3 B2
  go_wp2_with fail
  refine (ref_at act _ en.out _).mono ?_
  rintro e w4 ⟨rfl, hb4⟩
  have B4 := B3.trans (hb4.mono B3.size)
  clear hb4 B3
  go_wp2_with fail
  refine (ref_at 3 t3 rfl _).mono ?_
  rintro e w5 ⟨rfl, hb5⟩
  have B5 := B4.trans (hb5.mono B4.size)
  clear hb5 B4
  go_wp2
  go_ret
  exact ⟨rfl, B5⟩

set_option maxHeartbeats 400000 in
theorem names_high_4 (act : Int) (ha : 4 < act) (w : World) : Calls Try.prog 6 #[.int .i64 act, .string t4] w fun e w' => e = .returned (.bool true) ∧ Below w.heap.size w w' := by
  have ha' : ¬ act < 1 := by omega
  have n1 : (t4.toList == [115, 117, 98, 115, 99, 114, 105, 98, 101]) = false := by decide +kernel
  have n2 : (t4.toList == [115, 117, 98, 115, 99, 114, 105, 98, 101, 100]) = false := by decide +kernel
  have n3 : (t4.toList == [117, 110, 115, 117, 98, 115, 99, 114, 105, 98, 101]) = false := by decide +kernel
  have n4 : (t4.toList == [117, 110, 115, 117, 98, 115, 99, 114, 105, 98, 101, 100]) = true := by decide +kernel
  have en := Lib.hid (name_none act (.inr ha))
  go_enter Try.func6, Try.ntmps6
  go_wp2_with fail
  refine (lives_any _).mono ?_
  rintro e w1 ⟨rfl, hb1⟩
  have B1 := hb1
  clear hb1
  go_wp2_with fail
  refine (act_at t4 4 (by decide +kernel) _).mono ?_
  rintro e w2 ⟨rfl, hb2⟩
  have B2 := B1.trans (hb2.mono B1.size)
  clear hb2 B1
  go_wp2_with fail
  refine (name_at act _ en.out _).mono ?_
  rintro e w3 ⟨rfl, hb3⟩
  have B3 := B2.trans (hb3.mono B2.size)
  clear hb3 B2
  go_wp2_with fail
  refine (ref_at act _ en.out _).mono ?_
  rintro e w4 ⟨rfl, hb4⟩
  have B4 := B3.trans (hb4.mono B3.size)
  clear hb4 B3
  go_wp2_with fail
  refine (ref_at 4 t4 rfl _).mono ?_
  rintro e w5 ⟨rfl, hb5⟩
  have B5 := B4.trans (hb5.mono B4.size)
  clear hb5 B4
  go_wp2
  go_ret
  exact ⟨rfl, B5⟩

set_option maxHeartbeats 400000 in
theorem names_1_0 (name : ByteArray) (h1 : same name t1 = false) (h2 : same name t2 = false) (h3 : same name t3 = false) (h4 : same name t4 = false) (w : World) : Calls Try.prog 6 #[.int .i64 1, .string name] w fun e w' => e = .returned (.bool true) ∧ Below w.heap.size w w' := by
  have ea := Lib.hid (act_none name h1 h2 h3 h4)
  have n1 := ne_of l1 h1
  have n2 := ne_of l2 h2
  have n3 := ne_of l3 h3
  have n4 := ne_of l4 h4
  clear h1 h2 h3 h4
  go_enter Try.func6, Try.ntmps6
  go_wp2_with fail
  refine (lives_any _).mono ?_
  rintro e w1 ⟨rfl, hb1⟩
  have B1 := hb1
  clear hb1
  go_wp2_with fail
  refine (act_at name 0 ea.out _).mono ?_
  rintro e w2 ⟨rfl, hb2⟩
  have B2 := B1.trans (hb2.mono B1.size)
  clear hb2 B1
  go_wp2_with fail
  refine (name_at 1 t1 rfl _).mono ?_
  rintro e w3 ⟨rfl, hb3⟩
  have B3 := B2.trans (hb3.mono B2.size)
  clear hb3 B2
  go_wp2_with fail
  refine (ref_at 1 t1 rfl _).mono ?_
  rintro e w4 ⟨rfl, hb4⟩
  have B4 := B3.trans (hb4.mono B3.size)
  clear hb4 B3
  go_wp2_with fail
  refine (name_at 1 t1 rfl _).mono ?_
  rintro e w5 ⟨rfl, hb5⟩
  have B5 := B4.trans (hb5.mono B4.size)
  clear hb5 B4
  go_wp2_with fail
  refine (act_at t1 1 (by decide +kernel) _).mono ?_
  rintro e w6 ⟨rfl, hb6⟩
  have B6 := B5.trans (hb6.mono B5.size)
  clear hb6 B5
  go_wp2
  go_ret
  exact ⟨rfl, B6⟩

set_option maxHeartbeats 400000 in
theorem names_1_1 (w : World) : Calls Try.prog 6 #[.int .i64 1, .string t1] w fun e w' => e = .returned (.bool true) ∧ Below w.heap.size w w' := by
  have n1 : (t1.toList == [115, 117, 98, 115, 99, 114, 105, 98, 101]) = true := by decide +kernel
  go_enter Try.func6, Try.ntmps6
  go_wp2_with fail
  refine (lives_any _).mono ?_
  rintro e w1 ⟨rfl, hb1⟩
  have B1 := hb1
  clear hb1
  go_wp2_with fail
  refine (act_at t1 1 (by decide +kernel) _).mono ?_
  rintro e w2 ⟨rfl, hb2⟩
  have B2 := B1.trans (hb2.mono B1.size)
  clear hb2 B1
  go_wp2_with fail
  refine (name_at 1 t1 rfl _).mono ?_
  rintro e w3 ⟨rfl, hb3⟩
  have B3 := B2.trans (hb3.mono B2.size)
  clear hb3 B2
  go_wp2_with fail
  refine (ref_at 1 t1 rfl _).mono ?_
  rintro e w4 ⟨rfl, hb4⟩
  have B4 := B3.trans (hb4.mono B3.size)
  clear hb4 B3
  go_wp2_with fail
  refine (name_at 1 t1 rfl _).mono ?_
  rintro e w5 ⟨rfl, hb5⟩
  have B5 := B4.trans (hb5.mono B4.size)
  clear hb5 B4
  go_wp2_with fail
  refine (act_at t1 1 (by decide +kernel) _).mono ?_
  rintro e w6 ⟨rfl, hb6⟩
  have B6 := B5.trans (hb6.mono B5.size)
  clear hb6 B5
  go_wp2_with fail
  refine (ref_at 1 t1 rfl _).mono ?_
  rintro e w7 ⟨rfl, hb7⟩
  have B7 := B6.trans (hb7.mono B6.size)
  clear hb7 B6
  go_wp2
  go_ret
  exact ⟨rfl, B7⟩

set_option maxHeartbeats 400000 in
theorem names_1_2 (w : World) : Calls Try.prog 6 #[.int .i64 1, .string t2] w fun e w' => e = .returned (.bool true) ∧ Below w.heap.size w w' := by
  have n1 : (t2.toList == [115, 117, 98, 115, 99, 114, 105, 98, 101]) = false := by decide +kernel
  have n2 : (t2.toList == [115, 117, 98, 115, 99, 114, 105, 98, 101, 100]) = true := by decide +kernel
  go_enter Try.func6, Try.ntmps6
  go_wp2_with fail
  refine (lives_any _).mono ?_
  rintro e w1 ⟨rfl, hb1⟩
  have B1 := hb1
  clear hb1
  go_wp2_with fail
  refine (act_at t2 2 (by decide +kernel) _).mono ?_
  rintro e w2 ⟨rfl, hb2⟩
  have B2 := B1.trans (hb2.mono B1.size)
  clear hb2 B1
  go_wp2_with fail
  refine (name_at 1 t1 rfl _).mono ?_
  rintro e w3 ⟨rfl, hb3⟩
  have B3 := B2.trans (hb3.mono B2.size)
  clear hb3 B2
  go_wp2_with fail
  refine (ref_at 1 t1 rfl _).mono ?_
  rintro e w4 ⟨rfl, hb4⟩
  have B4 := B3.trans (hb4.mono B3.size)
  clear hb4 B3
  go_wp2_with fail
  refine (name_at 1 t1 rfl _).mono ?_
  rintro e w5 ⟨rfl, hb5⟩
  have B5 := B4.trans (hb5.mono B4.size)
  clear hb5 B4
  go_wp2_with fail
  refine (act_at t1 1 (by decide +kernel) _).mono ?_
  rintro e w6 ⟨rfl, hb6⟩
  have B6 := B5.trans (hb6.mono B5.size)
  clear hb6 B5
  go_wp2_with fail
  refine (ref_at 2 t2 rfl _).mono ?_
  rintro e w7 ⟨rfl, hb7⟩
  have B7 := B6.trans (hb7.mono B6.size)
  clear hb7 B6
  go_wp2
  go_ret
  exact ⟨rfl, B7⟩

set_option maxHeartbeats 400000 in
theorem names_1_3 (w : World) : Calls Try.prog 6 #[.int .i64 1, .string t3] w fun e w' => e = .returned (.bool true) ∧ Below w.heap.size w w' := by
  have n1 : (t3.toList == [115, 117, 98, 115, 99, 114, 105, 98, 101]) = false := by decide +kernel
  have n2 : (t3.toList == [115, 117, 98, 115, 99, 114, 105, 98, 101, 100]) = false := by decide +kernel
  have n3 : (t3.toList == [117, 110, 115, 117, 98, 115, 99, 114, 105, 98, 101]) = true := by decide +kernel
  go_enter Try.func6, Try.ntmps6
  go_wp2_with fail
  refine (lives_any _).mono ?_
  rintro e w1 ⟨rfl, hb1⟩
  have B1 := hb1
  clear hb1
  go_wp2_with fail
  refine (act_at t3 3 (by decide +kernel) _).mono ?_
  rintro e w2 ⟨rfl, hb2⟩
  have B2 := B1.trans (hb2.mono B1.size)
  clear hb2 B1
  go_wp2_with fail
  refine (name_at 1 t1 rfl _).mono ?_
  rintro e w3 ⟨rfl, hb3⟩
  have B3 := B2.trans (hb3.mono B2.size)
  clear hb3 B2
  go_wp2_with fail
  refine (ref_at 1 t1 rfl _).mono ?_
  rintro e w4 ⟨rfl, hb4⟩
  have B4 := B3.trans (hb4.mono B3.size)
  clear hb4 B3
  go_wp2_with fail
  refine (name_at 1 t1 rfl _).mono ?_
  rintro e w5 ⟨rfl, hb5⟩
  have B5 := B4.trans (hb5.mono B4.size)
  clear hb5 B4
  go_wp2_with fail
  refine (act_at t1 1 (by decide +kernel) _).mono ?_
  rintro e w6 ⟨rfl, hb6⟩
  have B6 := B5.trans (hb6.mono B5.size)
  clear hb6 B5
  go_wp2_with fail
  refine (ref_at 3 t3 rfl _).mono ?_
  rintro e w7 ⟨rfl, hb7⟩
  have B7 := B6.trans (hb7.mono B6.size)
  clear hb7 B6
  go_wp2
  go_ret
  exact ⟨rfl, B7⟩

set_option maxHeartbeats 400000 in
theorem names_1_4 (w : World) : Calls Try.prog 6 #[.int .i64 1, .string t4] w fun e w' => e = .returned (.bool true) ∧ Below w.heap.size w w' := by
  have n1 : (t4.toList == [115, 117, 98, 115, 99, 114, 105, 98, 101]) = false := by decide +kernel
  have n2 : (t4.toList == [115, 117, 98, 115, 99, 114, 105, 98, 101, 100]) = false := by decide +kernel
  have n3 : (t4.toList == [117, 110, 115, 117, 98, 115, 99, 114, 105, 98, 101]) = false := by decide +kernel
  have n4 : (t4.toList == [117, 110, 115, 117, 98, 115, 99, 114, 105, 98, 101, 100]) = true := by decide +kernel
  go_enter Try.func6, Try.ntmps6
  go_wp2_with fail
  refine (lives_any _).mono ?_
  rintro e w1 ⟨rfl, hb1⟩
  have B1 := hb1
  clear hb1
  go_wp2_with fail
  refine (act_at t4 4 (by decide +kernel) _).mono ?_
  rintro e w2 ⟨rfl, hb2⟩
  have B2 := B1.trans (hb2.mono B1.size)
  clear hb2 B1
  go_wp2_with fail
  refine (name_at 1 t1 rfl _).mono ?_
  rintro e w3 ⟨rfl, hb3⟩
  have B3 := B2.trans (hb3.mono B2.size)
  clear hb3 B2
  go_wp2_with fail
  refine (ref_at 1 t1 rfl _).mono ?_
  rintro e w4 ⟨rfl, hb4⟩
  have B4 := B3.trans (hb4.mono B3.size)
  clear hb4 B3
  go_wp2_with fail
  refine (name_at 1 t1 rfl _).mono ?_
  rintro e w5 ⟨rfl, hb5⟩
  have B5 := B4.trans (hb5.mono B4.size)
  clear hb5 B4
  go_wp2_with fail
  refine (act_at t1 1 (by decide +kernel) _).mono ?_
  rintro e w6 ⟨rfl, hb6⟩
  have B6 := B5.trans (hb6.mono B5.size)
  clear hb6 B5
  go_wp2_with fail
  refine (ref_at 4 t4 rfl _).mono ?_
  rintro e w7 ⟨rfl, hb7⟩
  have B7 := B6.trans (hb7.mono B6.size)
  clear hb7 B6
  go_wp2
  go_ret
  exact ⟨rfl, B7⟩

set_option maxHeartbeats 400000 in
theorem names_2_0 (name : ByteArray) (h1 : same name t1 = false) (h2 : same name t2 = false) (h3 : same name t3 = false) (h4 : same name t4 = false) (w : World) : Calls Try.prog 6 #[.int .i64 2, .string name] w fun e w' => e = .returned (.bool true) ∧ Below w.heap.size w w' := by
  have ea := Lib.hid (act_none name h1 h2 h3 h4)
  have n1 := ne_of l1 h1
  have n2 := ne_of l2 h2
  have n3 := ne_of l3 h3
  have n4 := ne_of l4 h4
  clear h1 h2 h3 h4
  go_enter Try.func6, Try.ntmps6
  go_wp2_with fail
  refine (lives_any _).mono ?_
  rintro e w1 ⟨rfl, hb1⟩
  have B1 := hb1
  clear hb1
  go_wp2_with fail
  refine (act_at name 0 ea.out _).mono ?_
  rintro e w2 ⟨rfl, hb2⟩
  have B2 := B1.trans (hb2.mono B1.size)
  clear hb2 B1
  go_wp2_with fail
  refine (name_at 2 t2 rfl _).mono ?_
  rintro e w3 ⟨rfl, hb3⟩
  have B3 := B2.trans (hb3.mono B2.size)
  clear hb3 B2
  go_wp2_with fail
  refine (ref_at 2 t2 rfl _).mono ?_
  rintro e w4 ⟨rfl, hb4⟩
  have B4 := B3.trans (hb4.mono B3.size)
  clear hb4 B3
  go_wp2_with fail
  refine (name_at 2 t2 rfl _).mono ?_
  rintro e w5 ⟨rfl, hb5⟩
  have B5 := B4.trans (hb5.mono B4.size)
  clear hb5 B4
  go_wp2_with fail
  refine (act_at t2 2 (by decide +kernel) _).mono ?_
  rintro e w6 ⟨rfl, hb6⟩
  have B6 := B5.trans (hb6.mono B5.size)
  clear hb6 B5
  go_wp2
  go_ret
  exact ⟨rfl, B6⟩

set_option maxHeartbeats 400000 in
theorem names_2_1 (w : World) : Calls Try.prog 6 #[.int .i64 2, .string t1] w fun e w' => e = .returned (.bool true) ∧ Below w.heap.size w w' := by
  have n1 : (t1.toList == [115, 117, 98, 115, 99, 114, 105, 98, 101]) = true := by decide +kernel
  go_enter Try.func6, Try.ntmps6
  go_wp2_with fail
  refine (lives_any _).mono ?_
  rintro e w1 ⟨rfl, hb1⟩
  have B1 := hb1
  clear hb1
  go_wp2_with fail
  refine (act_at t1 1 (by decide +kernel) _).mono ?_
  rintro e w2 ⟨rfl, hb2⟩
  have B2 := B1.trans (hb2.mono B1.size)
  clear hb2 B1
  go_wp2_with fail
  refine (name_at 2 t2 rfl _).mono ?_
  rintro e w3 ⟨rfl, hb3⟩
  have B3 := B2.trans (hb3.mono B2.size)
  clear hb3 B2
  go_wp2_with fail
  refine (ref_at 2 t2 rfl _).mono ?_
  rintro e w4 ⟨rfl, hb4⟩
  have B4 := B3.trans (hb4.mono B3.size)
  clear hb4 B3
  go_wp2_with fail
  refine (name_at 2 t2 rfl _).mono ?_
  rintro e w5 ⟨rfl, hb5⟩
  have B5 := B4.trans (hb5.mono B4.size)
  clear hb5 B4
  go_wp2_with fail
  refine (act_at t2 2 (by decide +kernel) _).mono ?_
  rintro e w6 ⟨rfl, hb6⟩
  have B6 := B5.trans (hb6.mono B5.size)
  clear hb6 B5
  go_wp2_with fail
  refine (ref_at 1 t1 rfl _).mono ?_
  rintro e w7 ⟨rfl, hb7⟩
  have B7 := B6.trans (hb7.mono B6.size)
  clear hb7 B6
  go_wp2
  go_ret
  exact ⟨rfl, B7⟩

set_option maxHeartbeats 400000 in
theorem names_2_2 (w : World) : Calls Try.prog 6 #[.int .i64 2, .string t2] w fun e w' => e = .returned (.bool true) ∧ Below w.heap.size w w' := by
  have n1 : (t2.toList == [115, 117, 98, 115, 99, 114, 105, 98, 101]) = false := by decide +kernel
  have n2 : (t2.toList == [115, 117, 98, 115, 99, 114, 105, 98, 101, 100]) = true := by decide +kernel
  go_enter Try.func6, Try.ntmps6
  go_wp2_with fail
  refine (lives_any _).mono ?_
  rintro e w1 ⟨rfl, hb1⟩
  have B1 := hb1
  clear hb1
  go_wp2_with fail
  refine (act_at t2 2 (by decide +kernel) _).mono ?_
  rintro e w2 ⟨rfl, hb2⟩
  have B2 := B1.trans (hb2.mono B1.size)
  clear hb2 B1
  go_wp2_with fail
  refine (name_at 2 t2 rfl _).mono ?_
  rintro e w3 ⟨rfl, hb3⟩
  have B3 := B2.trans (hb3.mono B2.size)
  clear hb3 B2
  go_wp2_with fail
  refine (ref_at 2 t2 rfl _).mono ?_
  rintro e w4 ⟨rfl, hb4⟩
  have B4 := B3.trans (hb4.mono B3.size)
  clear hb4 B3
  go_wp2_with fail
  refine (name_at 2 t2 rfl _).mono ?_
  rintro e w5 ⟨rfl, hb5⟩
  have B5 := B4.trans (hb5.mono B4.size)
  clear hb5 B4
  go_wp2_with fail
  refine (act_at t2 2 (by decide +kernel) _).mono ?_
  rintro e w6 ⟨rfl, hb6⟩
  have B6 := B5.trans (hb6.mono B5.size)
  clear hb6 B5
  go_wp2_with fail
  refine (ref_at 2 t2 rfl _).mono ?_
  rintro e w7 ⟨rfl, hb7⟩
  have B7 := B6.trans (hb7.mono B6.size)
  clear hb7 B6
  go_wp2
  go_ret
  exact ⟨rfl, B7⟩

set_option maxHeartbeats 400000 in
theorem names_2_3 (w : World) : Calls Try.prog 6 #[.int .i64 2, .string t3] w fun e w' => e = .returned (.bool true) ∧ Below w.heap.size w w' := by
  have n1 : (t3.toList == [115, 117, 98, 115, 99, 114, 105, 98, 101]) = false := by decide +kernel
  have n2 : (t3.toList == [115, 117, 98, 115, 99, 114, 105, 98, 101, 100]) = false := by decide +kernel
  have n3 : (t3.toList == [117, 110, 115, 117, 98, 115, 99, 114, 105, 98, 101]) = true := by decide +kernel
  go_enter Try.func6, Try.ntmps6
  go_wp2_with fail
  refine (lives_any _).mono ?_
  rintro e w1 ⟨rfl, hb1⟩
  have B1 := hb1
  clear hb1
  go_wp2_with fail
  refine (act_at t3 3 (by decide +kernel) _).mono ?_
  rintro e w2 ⟨rfl, hb2⟩
  have B2 := B1.trans (hb2.mono B1.size)
  clear hb2 B1
  go_wp2_with fail
  refine (name_at 2 t2 rfl _).mono ?_
  rintro e w3 ⟨rfl, hb3⟩
  have B3 := B2.trans (hb3.mono B2.size)
  clear hb3 B2
  go_wp2_with fail
  refine (ref_at 2 t2 rfl _).mono ?_
  rintro e w4 ⟨rfl, hb4⟩
  have B4 := B3.trans (hb4.mono B3.size)
  clear hb4 B3
  go_wp2_with fail
  refine (name_at 2 t2 rfl _).mono ?_
  rintro e w5 ⟨rfl, hb5⟩
  have B5 := B4.trans (hb5.mono B4.size)
  clear hb5 B4
  go_wp2_with fail
  refine (act_at t2 2 (by decide +kernel) _).mono ?_
  rintro e w6 ⟨rfl, hb6⟩
  have B6 := B5.trans (hb6.mono B5.size)
  clear hb6 B5
  go_wp2_with fail
  refine (ref_at 3 t3 rfl _).mono ?_
  rintro e w7 ⟨rfl, hb7⟩
  have B7 := B6.trans (hb7.mono B6.size)
  clear hb7 B6
  go_wp2
  go_ret
  exact ⟨rfl, B7⟩

set_option maxHeartbeats 400000 in
theorem names_2_4 (w : World) : Calls Try.prog 6 #[.int .i64 2, .string t4] w fun e w' => e = .returned (.bool true) ∧ Below w.heap.size w w' := by
  have n1 : (t4.toList == [115, 117, 98, 115, 99, 114, 105, 98, 101]) = false := by decide +kernel
  have n2 : (t4.toList == [115, 117, 98, 115, 99, 114, 105, 98, 101, 100]) = false := by decide +kernel
  have n3 : (t4.toList == [117, 110, 115, 117, 98, 115, 99, 114, 105, 98, 101]) = false := by decide +kernel
  have n4 : (t4.toList == [117, 110, 115, 117, 98, 115, 99, 114, 105, 98, 101, 100]) = true := by decide +kernel
  go_enter Try.func6, Try.ntmps6
  go_wp2_with fail
  refine (lives_any _).mono ?_
  rintro e w1 ⟨rfl, hb1⟩
  have B1 := hb1
  clear hb1
  go_wp2_with fail
  refine (act_at t4 4 (by decide +kernel) _).mono ?_
  rintro e w2 ⟨rfl, hb2⟩
  have B2 := B1.trans (hb2.mono B1.size)
  clear hb2 B1
  go_wp2_with fail
  refine (name_at 2 t2 rfl _).mono ?_
  rintro e w3 ⟨rfl, hb3⟩
  have B3 := B2.trans (hb3.mono B2.size)
  clear hb3 B2
  go_wp2_with fail
  refine (ref_at 2 t2 rfl _).mono ?_
  rintro e w4 ⟨rfl, hb4⟩
  have B4 := B3.trans (hb4.mono B3.size)
  clear hb4 B3
  go_wp2_with fail
  refine (name_at 2 t2 rfl _).mono ?_
  rintro e w5 ⟨rfl, hb5⟩
  have B5 := B4.trans (hb5.mono B4.size)
  clear hb5 B4
  go_wp2_with fail
  refine (act_at t2 2 (by decide +kernel) _).mono ?_
  rintro e w6 ⟨rfl, hb6⟩
  have B6 := B5.trans (hb6.mono B5.size)
  clear hb6 B5
  go_wp2_with fail
  refine (ref_at 4 t4 rfl _).mono ?_
  rintro e w7 ⟨rfl, hb7⟩
  have B7 := B6.trans (hb7.mono B6.size)
  clear hb7 B6
  go_wp2
  go_ret
  exact ⟨rfl, B7⟩

set_option maxHeartbeats 400000 in
theorem names_3_0 (name : ByteArray) (h1 : same name t1 = false) (h2 : same name t2 = false) (h3 : same name t3 = false) (h4 : same name t4 = false) (w : World) : Calls Try.prog 6 #[.int .i64 3, .string name] w fun e w' => e = .returned (.bool true) ∧ Below w.heap.size w w' := by
  have ea := Lib.hid (act_none name h1 h2 h3 h4)
  have n1 := ne_of l1 h1
  have n2 := ne_of l2 h2
  have n3 := ne_of l3 h3
  have n4 := ne_of l4 h4
  clear h1 h2 h3 h4
  go_enter Try.func6, Try.ntmps6
  go_wp2_with fail
  refine (lives_any _).mono ?_
  rintro e w1 ⟨rfl, hb1⟩
  have B1 := hb1
  clear hb1
  go_wp2_with fail
  refine (act_at name 0 ea.out _).mono ?_
  rintro e w2 ⟨rfl, hb2⟩
  have B2 := B1.trans (hb2.mono B1.size)
  clear hb2 B1
  go_wp2_with fail
  refine (name_at 3 t3 rfl _).mono ?_
  rintro e w3 ⟨rfl, hb3⟩
  have B3 := B2.trans (hb3.mono B2.size)
  clear hb3 B2
  go_wp2_with fail
  refine (ref_at 3 t3 rfl _).mono ?_
  rintro e w4 ⟨rfl, hb4⟩
  have B4 := B3.trans (hb4.mono B3.size)
  clear hb4 B3
  go_wp2_with fail
  refine (name_at 3 t3 rfl _).mono ?_
  rintro e w5 ⟨rfl, hb5⟩
  have B5 := B4.trans (hb5.mono B4.size)
  clear hb5 B4
  go_wp2_with fail
  refine (act_at t3 3 (by decide +kernel) _).mono ?_
  rintro e w6 ⟨rfl, hb6⟩
  have B6 := B5.trans (hb6.mono B5.size)
  clear hb6 B5
  go_wp2
  go_ret
  exact ⟨rfl, B6⟩

set_option maxHeartbeats 400000 in
theorem names_3_1 (w : World) : Calls Try.prog 6 #[.int .i64 3, .string t1] w fun e w' => e = .returned (.bool true) ∧ Below w.heap.size w w' := by
  have n1 : (t1.toList == [115, 117, 98, 115, 99, 114, 105, 98, 101]) = true := by decide +kernel
  go_enter Try.func6, Try.ntmps6
  go_wp2_with fail
  refine (lives_any _).mono ?_
  rintro e w1 ⟨rfl, hb1⟩
  have B1 := hb1
  clear hb1
  go_wp2_with fail
  refine (act_at t1 1 (by decide +kernel) _).mono ?_
  rintro e w2 ⟨rfl, hb2⟩
  have B2 := B1.trans (hb2.mono B1.size)
  clear hb2 B1
  go_wp2_with fail
  refine (name_at 3 t3 rfl _).mono ?_
  rintro e w3 ⟨rfl, hb3⟩
  have B3 := B2.trans (hb3.mono B2.size)
  clear hb3 B2
  go_wp2_with fail
  refine (ref_at 3 t3 rfl _).mono ?_
  rintro e w4 ⟨rfl, hb4⟩
  have B4 := B3.trans (hb4.mono B3.size)
  clear hb4 B3
  go_wp2_with fail
  refine (name_at 3 t3 rfl _).mono ?_
  rintro e w5 ⟨rfl, hb5⟩
  have B5 := B4.trans (hb5.mono B4.size)
  clear hb5 B4
  go_wp2_with fail
  refine (act_at t3 3 (by decide +kernel) _).mono ?_
  rintro e w6 ⟨rfl, hb6⟩
  have B6 := B5.trans (hb6.mono B5.size)
  clear hb6 B5
  go_wp2_with fail
  refine (ref_at 1 t1 rfl _).mono ?_
  rintro e w7 ⟨rfl, hb7⟩
  have B7 := B6.trans (hb7.mono B6.size)
  clear hb7 B6
  go_wp2
  go_ret
  exact ⟨rfl, B7⟩

set_option maxHeartbeats 400000 in
theorem names_3_2 (w : World) : Calls Try.prog 6 #[.int .i64 3, .string t2] w fun e w' => e = .returned (.bool true) ∧ Below w.heap.size w w' := by
  have n1 : (t2.toList == [115, 117, 98, 115, 99, 114, 105, 98, 101]) = false := by decide +kernel
  have n2 : (t2.toList == [115, 117, 98, 115, 99, 114, 105, 98, 101, 100]) = true := by decide +kernel
  go_enter Try.func6, Try.ntmps6
  go_wp2_with fail
  refine (lives_any _).mono ?_
  rintro e w1 ⟨rfl, hb1⟩
  have B1 := hb1
  clear hb1
  go_wp2_with fail
  refine (act_at t2 2 (by decide +kernel) _).mono ?_
  rintro e w2 ⟨rfl, hb2⟩
  have B2 := B1.trans (hb2.mono B1.size)
  clear hb2 B1
  go_wp2_with fail
  refine (name_at 3 t3 rfl _).mono ?_
  rintro e w3 ⟨rfl, hb3⟩
  have B3 := B2.trans (hb3.mono B2.size)
  clear hb3 B2
  go_wp2_with fail
  refine (ref_at 3 t3 rfl _).mono ?_
  rintro e w4 ⟨rfl, hb4⟩
  have B4 := B3.trans (hb4.mono B3.size)
  clear hb4 B3
  go_wp2_with fail
  refine (name_at 3 t3 rfl _).mono ?_
  rintro e w5 ⟨rfl, hb5⟩
  have B5 := B4.trans (hb5.mono B4.size)
  clear hb5 B4
  go_wp2_with fail
  refine (act_at t3 3 (by decide +kernel) _).mono ?_
  rintro e w6 ⟨rfl, hb6⟩
  have B6 := B5.trans (hb6.mono B5.size)
  clear hb6 B5
  go_wp2_with fail
  refine (ref_at 2 t2 rfl _).mono ?_
  rintro e w7 ⟨rfl, hb7⟩
  have B7 := B6.trans (hb7.mono B6.size)
  clear hb7 B6
  go_wp2
  go_ret
  exact ⟨rfl, B7⟩

set_option maxHeartbeats 400000 in
theorem names_3_3 (w : World) : Calls Try.prog 6 #[.int .i64 3, .string t3] w fun e w' => e = .returned (.bool true) ∧ Below w.heap.size w w' := by
  have n1 : (t3.toList == [115, 117, 98, 115, 99, 114, 105, 98, 101]) = false := by decide +kernel
  have n2 : (t3.toList == [115, 117, 98, 115, 99, 114, 105, 98, 101, 100]) = false := by decide +kernel
  have n3 : (t3.toList == [117, 110, 115, 117, 98, 115, 99, 114, 105, 98, 101]) = true := by decide +kernel
  go_enter Try.func6, Try.ntmps6
  go_wp2_with fail
  refine (lives_any _).mono ?_
  rintro e w1 ⟨rfl, hb1⟩
  have B1 := hb1
  clear hb1
  go_wp2_with fail
  refine (act_at t3 3 (by decide +kernel) _).mono ?_
  rintro e w2 ⟨rfl, hb2⟩
  have B2 := B1.trans (hb2.mono B1.size)
  clear hb2 B1
  go_wp2_with fail
  refine (name_at 3 t3 rfl _).mono ?_
  rintro e w3 ⟨rfl, hb3⟩
  have B3 := B2.trans (hb3.mono B2.size)
  clear hb3 B2
  go_wp2_with fail
  refine (ref_at 3 t3 rfl _).mono ?_
  rintro e w4 ⟨rfl, hb4⟩
  have B4 := B3.trans (hb4.mono B3.size)
  clear hb4 B3
  go_wp2_with fail
  refine (name_at 3 t3 rfl _).mono ?_
  rintro e w5 ⟨rfl, hb5⟩
  have B5 := B4.trans (hb5.mono B4.size)
  clear hb5 B4
  go_wp2_with fail
  refine (act_at t3 3 (by decide +kernel) _).mono ?_
  rintro e w6 ⟨rfl, hb6⟩
  have B6 := B5.trans (hb6.mono B5.size)
  clear hb6 B5
  go_wp2_with fail
  refine (ref_at 3 t3 rfl _).mono ?_
  rintro e w7 ⟨rfl, hb7⟩
  have B7 := B6.trans (hb7.mono B6.size)
  clear hb7 B6
  go_wp2
  go_ret
  exact ⟨rfl, B7⟩

set_option maxHeartbeats 400000 in
theorem names_3_4 (w : World) : Calls Try.prog 6 #[.int .i64 3, .string t4] w fun e w' => e = .returned (.bool true) ∧ Below w.heap.size w w' := by
  have n1 : (t4.toList == [115, 117, 98, 115, 99, 114, 105, 98, 101]) = false := by decide +kernel
  have n2 : (t4.toList == [115, 117, 98, 115, 99, 114, 105, 98, 101, 100]) = false := by decide +kernel
  have n3 : (t4.toList == [117, 110, 115, 117, 98, 115, 99, 114, 105, 98, 101]) = false := by decide +kernel
  have n4 : (t4.toList == [117, 110, 115, 117, 98, 115, 99, 114, 105, 98, 101, 100]) = true := by decide +kernel
  go_enter Try.func6, Try.ntmps6
  go_wp2_with fail
  refine (lives_any _).mono ?_
  rintro e w1 ⟨rfl, hb1⟩
  have B1 := hb1
  clear hb1
  go_wp2_with fail
  refine (act_at t4 4 (by decide +kernel) _).mono ?_
  rintro e w2 ⟨rfl, hb2⟩
  have B2 := B1.trans (hb2.mono B1.size)
  clear hb2 B1
  go_wp2_with fail
  refine (name_at 3 t3 rfl _).mono ?_
  rintro e w3 ⟨rfl, hb3⟩
  have B3 := B2.trans (hb3.mono B2.size)
  clear hb3 B2
  go_wp2_with fail
  refine (ref_at 3 t3 rfl _).mono ?_
  rintro e w4 ⟨rfl, hb4⟩
  have B4 := B3.trans (hb4.mono B3.size)
  clear hb4 B3
  go_wp2_with fail
  refine (name_at 3 t3 rfl _).mono ?_
  rintro e w5 ⟨rfl, hb5⟩
  have B5 := B4.trans (hb5.mono B4.size)
  clear hb5 B4
  go_wp2_with fail
  refine (act_at t3 3 (by decide +kernel) _).mono ?_
  rintro e w6 ⟨rfl, hb6⟩
  have B6 := B5.trans (hb6.mono B5.size)
  clear hb6 B5
  go_wp2_with fail
  refine (ref_at 4 t4 rfl _).mono ?_
  rintro e w7 ⟨rfl, hb7⟩
  have B7 := B6.trans (hb7.mono B6.size)
  clear hb7 B6
  go_wp2
  go_ret
  exact ⟨rfl, B7⟩

set_option maxHeartbeats 400000 in
theorem names_4_0 (name : ByteArray) (h1 : same name t1 = false) (h2 : same name t2 = false) (h3 : same name t3 = false) (h4 : same name t4 = false) (w : World) : Calls Try.prog 6 #[.int .i64 4, .string name] w fun e w' => e = .returned (.bool true) ∧ Below w.heap.size w w' := by
  have ea := Lib.hid (act_none name h1 h2 h3 h4)
  have n1 := ne_of l1 h1
  have n2 := ne_of l2 h2
  have n3 := ne_of l3 h3
  have n4 := ne_of l4 h4
  clear h1 h2 h3 h4
  go_enter Try.func6, Try.ntmps6
  go_wp2_with fail
  refine (lives_any _).mono ?_
  rintro e w1 ⟨rfl, hb1⟩
  have B1 := hb1
  clear hb1
  go_wp2_with fail
  refine (act_at name 0 ea.out _).mono ?_
  rintro e w2 ⟨rfl, hb2⟩
  have B2 := B1.trans (hb2.mono B1.size)
  clear hb2 B1
  go_wp2_with fail
  refine (name_at 4 t4 rfl _).mono ?_
  rintro e w3 ⟨rfl, hb3⟩
  have B3 := B2.trans (hb3.mono B2.size)
  clear hb3 B2
  go_wp2_with fail
  refine (ref_at 4 t4 rfl _).mono ?_
  rintro e w4 ⟨rfl, hb4⟩
  have B4 := B3.trans (hb4.mono B3.size)
  clear hb4 B3
  go_wp2_with fail
  refine (name_at 4 t4 rfl _).mono ?_
  rintro e w5 ⟨rfl, hb5⟩
  have B5 := B4.trans (hb5.mono B4.size)
  clear hb5 B4
  go_wp2_with fail
  refine (act_at t4 4 (by decide +kernel) _).mono ?_
  rintro e w6 ⟨rfl, hb6⟩
  have B6 := B5.trans (hb6.mono B5.size)
  clear hb6 B5
  go_wp2
  go_ret
  exact ⟨rfl, B6⟩

set_option maxHeartbeats 400000 in
theorem names_4_1 (w : World) : Calls Try.prog 6 #[.int .i64 4, .string t1] w fun e w' => e = .returned (.bool true) ∧ Below w.heap.size w w' := by
  have n1 : (t1.toList == [115, 117, 98, 115, 99, 114, 105, 98, 101]) = true := by decide +kernel
  go_enter Try.func6, Try.ntmps6
  go_wp2_with fail
  refine (lives_any _).mono ?_
  rintro e w1 ⟨rfl, hb1⟩
  have B1 := hb1
  clear hb1
  go_wp2_with fail
  refine (act_at t1 1 (by decide +kernel) _).mono ?_
  rintro e w2 ⟨rfl, hb2⟩
  have B2 := B1.trans (hb2.mono B1.size)
  clear hb2 B1
  go_wp2_with fail
  refine (name_at 4 t4 rfl _).mono ?_
  rintro e w3 ⟨rfl, hb3⟩
  have B3 := B2.trans (hb3.mono B2.size)
  clear hb3 B2
  go_wp2_with fail
  refine (ref_at 4 t4 rfl _).mono ?_
  rintro e w4 ⟨rfl, hb4⟩
  have B4 := B3.trans (hb4.mono B3.size)
  clear hb4 B3
  go_wp2_with fail
  refine (name_at 4 t4 rfl _).mono ?_
  rintro e w5 ⟨rfl, hb5⟩
  have B5 := B4.trans (hb5.mono B4.size)
  clear hb5 B4
  go_wp2_with fail
  refine (act_at t4 4 (by decide +kernel) _).mono ?_
  rintro e w6 ⟨rfl, hb6⟩
  have B6 := B5.trans (hb6.mono B5.size)
  clear hb6 B5
  go_wp2_with fail
  refine (ref_at 1 t1 rfl _).mono ?_
  rintro e w7 ⟨rfl, hb7⟩
  have B7 := B6.trans (hb7.mono B6.size)
  clear hb7 B6
  go_wp2
  go_ret
  exact ⟨rfl, B7⟩

set_option maxHeartbeats 400000 in
theorem names_4_2 (w : World) : Calls Try.prog 6 #[.int .i64 4, .string t2] w fun e w' => e = .returned (.bool true) ∧ Below w.heap.size w w' := by
  have n1 : (t2.toList == [115, 117, 98, 115, 99, 114, 105, 98, 101]) = false := by decide +kernel
  have n2 : (t2.toList == [115, 117, 98, 115, 99, 114, 105, 98, 101, 100]) = true := by decide +kernel
  go_enter Try.func6, Try.ntmps6
  go_wp2_with fail
  refine (lives_any _).mono ?_
  rintro e w1 ⟨rfl, hb1⟩
  have B1 := hb1
  clear hb1
  go_wp2_with fail
  refine (act_at t2 2 (by decide +kernel) _).mono ?_
  rintro e w2 ⟨rfl, hb2⟩
  have B2 := B1.trans (hb2.mono B1.size)
  clear hb2 B1
  go_wp2_with fail
  refine (name_at 4 t4 rfl _).mono ?_
  rintro e w3 ⟨rfl, hb3⟩
  have B3 := B2.trans (hb3.mono B2.size)
  clear hb3 B2
  go_wp2_with fail
  refine (ref_at 4 t4 rfl _).mono ?_
  rintro e w4 ⟨rfl, hb4⟩
  have B4 := B3.trans (hb4.mono B3.size)
  clear hb4 B3
  go_wp2_with fail
  refine (name_at 4 t4 rfl _).mono ?_
  rintro e w5 ⟨rfl, hb5⟩
  have B5 := B4.trans (hb5.mono B4.size)
  clear hb5 B4
  go_wp2_with fail
  refine (act_at t4 4 (by decide +kernel) _).mono ?_
  rintro e w6 ⟨rfl, hb6⟩
  have B6 := B5.trans (hb6.mono B5.size)
  clear hb6 B5
  go_wp2_with fail
  refine (ref_at 2 t2 rfl _).mono ?_
  rintro e w7 ⟨rfl, hb7⟩
  have B7 := B6.trans (hb7.mono B6.size)
  clear hb7 B6
  go_wp2
  go_ret
  exact ⟨rfl, B7⟩

set_option maxHeartbeats 400000 in
theorem names_4_3 (w : World) : Calls Try.prog 6 #[.int .i64 4, .string t3] w fun e w' => e = .returned (.bool true) ∧ Below w.heap.size w w' := by
  have n1 : (t3.toList == [115, 117, 98, 115, 99, 114, 105, 98, 101]) = false := by decide +kernel
  have n2 : (t3.toList == [115, 117, 98, 115, 99, 114, 105, 98, 101, 100]) = false := by decide +kernel
  have n3 : (t3.toList == [117, 110, 115, 117, 98, 115, 99, 114, 105, 98, 101]) = true := by decide +kernel
  go_enter Try.func6, Try.ntmps6
  go_wp2_with fail
  refine (lives_any _).mono ?_
  rintro e w1 ⟨rfl, hb1⟩
  have B1 := hb1
  clear hb1
  go_wp2_with fail
  refine (act_at t3 3 (by decide +kernel) _).mono ?_
  rintro e w2 ⟨rfl, hb2⟩
  have B2 := B1.trans (hb2.mono B1.size)
  clear hb2 B1
  go_wp2_with fail
  refine (name_at 4 t4 rfl _).mono ?_
  rintro e w3 ⟨rfl, hb3⟩
  have B3 := B2.trans (hb3.mono B2.size)
  clear hb3 B2
  go_wp2_with fail
  refine (ref_at 4 t4 rfl _).mono ?_
  rintro e w4 ⟨rfl, hb4⟩
  have B4 := B3.trans (hb4.mono B3.size)
  clear hb4 B3
  go_wp2_with fail
  refine (name_at 4 t4 rfl _).mono ?_
  rintro e w5 ⟨rfl, hb5⟩
  have B5 := B4.trans (hb5.mono B4.size)
  clear hb5 B4
  go_wp2_with fail
  refine (act_at t4 4 (by decide +kernel) _).mono ?_
  rintro e w6 ⟨rfl, hb6⟩
  have B6 := B5.trans (hb6.mono B5.size)
  clear hb6 B5
  go_wp2_with fail
  refine (ref_at 3 t3 rfl _).mono ?_
  rintro e w7 ⟨rfl, hb7⟩
  have B7 := B6.trans (hb7.mono B6.size)
  clear hb7 B6
  go_wp2
  go_ret
  exact ⟨rfl, B7⟩

set_option maxHeartbeats 400000 in
theorem names_4_4 (w : World) : Calls Try.prog 6 #[.int .i64 4, .string t4] w fun e w' => e = .returned (.bool true) ∧ Below w.heap.size w w' := by
  have n1 : (t4.toList == [115, 117, 98, 115, 99, 114, 105, 98, 101]) = false := by decide +kernel
  have n2 : (t4.toList == [115, 117, 98, 115, 99, 114, 105, 98, 101, 100]) = false := by decide +kernel
  have n3 : (t4.toList == [117, 110, 115, 117, 98, 115, 99, 114, 105, 98, 101]) = false := by decide +kernel
  have n4 : (t4.toList == [117, 110, 115, 117, 98, 115, 99, 114, 105, 98, 101, 100]) = true := by decide +kernel
  go_enter Try.func6, Try.ntmps6
  go_wp2_with fail
  refine (lives_any _).mono ?_
  rintro e w1 ⟨rfl, hb1⟩
  have B1 := hb1
  clear hb1
  go_wp2_with fail
  refine (act_at t4 4 (by decide +kernel) _).mono ?_
  rintro e w2 ⟨rfl, hb2⟩
  have B2 := B1.trans (hb2.mono B1.size)
  clear hb2 B1
  go_wp2_with fail
  refine (name_at 4 t4 rfl _).mono ?_
  rintro e w3 ⟨rfl, hb3⟩
  have B3 := B2.trans (hb3.mono B2.size)
  clear hb3 B2
  go_wp2_with fail
  refine (ref_at 4 t4 rfl _).mono ?_
  rintro e w4 ⟨rfl, hb4⟩
  have B4 := B3.trans (hb4.mono B3.size)
  clear hb4 B3
  go_wp2_with fail
  refine (name_at 4 t4 rfl _).mono ?_
  rintro e w5 ⟨rfl, hb5⟩
  have B5 := B4.trans (hb5.mono B4.size)
  clear hb5 B4
  go_wp2_with fail
  refine (act_at t4 4 (by decide +kernel) _).mono ?_
  rintro e w6 ⟨rfl, hb6⟩
  have B6 := B5.trans (hb6.mono B5.size)
  clear hb6 B5
  go_wp2_with fail
  refine (ref_at 4 t4 rfl _).mono ?_
  rintro e w7 ⟨rfl, hb7⟩
  have B7 := B6.trans (hb7.mono B6.size)
  clear hb7 B6
  go_wp2
  go_ret
  exact ⟨rfl, B7⟩

theorem names_name (Q : ByteArray → Prop) (h0 : ∀ s, same s t1 = false → same s t2 = false → same s t3 = false → same s t4 = false → Q s) (h1 : Q t1) (h2 : Q t2) (h3 : Q t3) (h4 : Q t4) (s : ByteArray) : Q s := by
  cases e1 : same s t1
  · cases e2 : same s t2
    · cases e3 : same s t3
      · cases e4 : same s t4
        · exact h0 s e1 e2 e3 e4
        · rw [same_eq e4]; exact h4
      · rw [same_eq e3]; exact h3
    · rw [same_eq e2]; exact h2
  · rw [same_eq e1]; exact h1

theorem names_any (act : Int) (name : ByteArray) (w : World) : Calls Try.prog 6 #[.int .i64 act, .string name] w fun e w' => e = .returned (.bool true) ∧ Below w.heap.size w w' := by
  by_cases hl : act < 1
  · exact names_name (fun s => Calls Try.prog 6 #[.int .i64 act, .string s] w fun e w' => e = .returned (.bool true) ∧ Below w.heap.size w w') (fun s a b c d => names_low_0 act hl s a b c d w) (names_low_1 act hl w) (names_low_2 act hl w) (names_low_3 act hl w) (names_low_4 act hl w) name
  · by_cases hh : 4 < act
    · exact names_name (fun s => Calls Try.prog 6 #[.int .i64 act, .string s] w fun e w' => e = .returned (.bool true) ∧ Below w.heap.size w w') (fun s a b c d => names_high_0 act hh s a b c d w) (names_high_1 act hh w) (names_high_2 act hh w) (names_high_3 act hh w) (names_high_4 act hh w) name
    · have hc : act = 1 ∨ act = 2 ∨ act = 3 ∨ act = 4 := by omega
      rcases hc with rfl | rfl | rfl | rfl
      · exact names_name (fun s => Calls Try.prog 6 #[.int .i64 1, .string s] w fun e w' => e = .returned (.bool true) ∧ Below w.heap.size w w') (fun s a b c d => names_1_0 s a b c d w) (names_1_1 w) (names_1_2 w) (names_1_3 w) (names_1_4 w) name
      · exact names_name (fun s => Calls Try.prog 6 #[.int .i64 2, .string s] w fun e w' => e = .returned (.bool true) ∧ Below w.heap.size w w') (fun s a b c d => names_2_0 s a b c d w) (names_2_1 w) (names_2_2 w) (names_2_3 w) (names_2_4 w) name
      · exact names_name (fun s => Calls Try.prog 6 #[.int .i64 3, .string s] w fun e w' => e = .returned (.bool true) ∧ Below w.heap.size w w') (fun s a b c d => names_3_0 s a b c d w) (names_3_1 w) (names_3_2 w) (names_3_3 w) (names_3_4 w) name
      · exact names_name (fun s => Calls Try.prog 6 #[.int .i64 4, .string s] w fun e w' => e = .returned (.bool true) ∧ Below w.heap.size w w') (fun s a b c d => names_4_0 s a b c d w) (names_4_1 w) (names_4_2 w) (names_4_3 w) (names_4_4 w) name

set_option maxRecDepth 100000 in
theorem pactNames_lifted (os : Os) (started : os.Started) (H : Type) (enc : TypeId × Value → H) :
    ReturnsInHanded {} Try.checked os 6 .any (Rows.pactNamesSpec.pre6 enc Try.prog Try.f6 Rows.pactNamesRow.domain false) (Rows.pactNamesSpec.post enc Try.prog Try.f6 false true false false) := by
  refine returnsInHanded_of_change (C := Try.checked) Try.own started (by kernel_rfl) Try.func6
    (ChangeSpec.witness6 (enc := enc) (C := Try.checked) false ⟨#[], #[.int .i64 0, .string ⟨#[]⟩], []⟩ 8 (by kernel_rfl) (by kernel_rfl) (by kernel_rfl) (by kernel_rfl)) ?_
  intro W base args ds gs before hval0 hW hcnd _
  have hval : ∀ (j : Nat) t v, Try.f6.params[j]? = some t → args[j]? = some v → Value.okWide Try.prog W .any base t v := hval0
  have hW' := hW
  obtain ⟨p, q, hA0, hV, rfl, hfz, hnd⟩ := hW
  have hA : DataW.TrodAll enc Try.prog W 0 (fun _ => true) true Try.f6.params.toList args.toList ds p := hA0
  have hA1 := hA
  rw [Try.params6] at hA hval
  obtain ⟨v0, v1, d0, d1, p0, p1, rfl, rfl, rfl, h0, h1⟩ := trodAll_two hA
  obtain ⟨rfl, rfl⟩ := trodVars_none hV
  obtain ⟨act, rfl, rfl, rfl, wa⟩ := open_int Try.underlying3 (hval 0 3 v0 rfl rfl) h0
  obtain ⟨s, rfl, rfl, rfl, ws⟩ := open_string Try.underlying9 (hval 1 9 v1 rfl rfl) h1
  clear hA0 hval0
  simp only [List.append_nil] at hW'
  refine (names_any act s W).mono fun e W' ⟨he, hb⟩ => ?_
  subst he
  have hts : ∀ t ∈ Try.f6.params.toList, Try.prog.readableRec t = true ∧ t < Try.prog.types.size := by
    rw [Try.params6]
    intro t ht
    simp at ht
    rcases ht with rfl | rfl
    · exact ⟨by kernel_rfl, of_decide_eq_true (by kernel_rfl)⟩
    · exact ⟨by kernel_rfl, of_decide_eq_true (by kernel_rfl)⟩
  simp only [List.append_nil] at hA1
  exact ⟨_, rfl, post_of_below (pa := []) (pv := []) hW' (fun _ _ _ => trodAll_mk1 (shut_bool Try.underlying4 _)) (fun sp hsp => trodAll_below Try.laidOut hb hts hA1 (fun x hx => ⟨hW'.lt x hx, hsp x hx⟩)) (fun _ _ => rfl) (by simp)
    hb (ok_one (by kernel_rfl) rfl (okWide_bool_mk Try.underlying4 _))⟩

theorem pactNames_holds : Rows.PactNamesSaid :=
  OpenClaim.holds_of_wide 6 Try.f6 rfl rfl rfl rfl rfl rfl rfl ⟨rfl, rfl, rfl, rfl, rfl⟩ rfl rfl rfl rfl rfl (by kernel_rfl) Try.func6 (by kernel_rfl)
    (of_decide_eq_true (by kernel_rfl)) (by unfold Func.isWrapper; first | (rw [if_pos (by decide +kernel)]; kernel_rfl) | (rw [if_neg (by decide +kernel)]; exact ⟨rfl, rfl⟩))
    (fun os started H enc _ => pactNames_lifted os started H enc)
#print axioms pactNames_holds
end Go.Proofs.Ytajdhlcnfmlkiaa
