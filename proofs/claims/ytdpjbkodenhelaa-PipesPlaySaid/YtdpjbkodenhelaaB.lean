/- Package pipes: live, Whole, Is, Open, Break, Close of a connection that is there, of none, of no pipes. -/
import Derived.Test.YtdpjbkodenhelaaA
namespace Go.Proofs.Ytdpjbkodenhelaa
open Go.RowKit
attribute [local go_sem ↓] Go.wp_at_zero Go.wp_at_succ

section
variable {w : World} {g : Nat} {t : TypeId} {st : Nat → PS} {vs : Nat → Value}
theorem live_ok (hF : Four w g t st vs) (i : Nat) (hi : i < 16) (hl : ((st i).op && !(st i).br) = true) : Calls Try.prog 23 #[.pointer (some ⟨g, 0, none⟩), .int .i64 i] w fun e w' => e = .returned (.tuple #[.pointer (some ⟨g, i * 4, none⟩), .int .i64 0]) ∧ w = w' := by
  go_enter Try.func23, Try.ntmps23
  go_wp2_with fail
  refine (get_in g i hi _).mono ?_
  rintro e w1 ⟨rfl, rfl⟩
  go_wp2_with fail
  refine (whole_any hF i hi).mono ?_
  rintro e w1 ⟨rfl, rfl⟩
  rw [hl]
  go_wp2
  all_goals exact bodyPost_ret (v := .tuple #[_, _]) (by simp [results, Try.results23, go_sem]) rfl ⟨rfl, rfl⟩
theorem live_gone (hF : Four w g t st vs) (i : Nat) (hi : i < 16) (hl : ((st i).op && !(st i).br) = false) : Calls Try.prog 23 #[.pointer (some ⟨g, 0, none⟩), .int .i64 i] w fun e w' => e = .returned (.tuple #[.pointer none, .int .i64 12]) ∧ w = w' := by
  go_enter Try.func23, Try.ntmps23
  go_wp2_with fail
  refine (get_in g i hi _).mono ?_
  rintro e w1 ⟨rfl, rfl⟩
  go_wp2_with fail
  refine (whole_any hF i hi).mono ?_
  rintro e w1 ⟨rfl, rfl⟩
  rw [hl]
  go_wp2
  all_goals exact bodyPost_ret (v := .tuple #[_, _]) (by simp [results, Try.results23, go_sem]) rfl ⟨rfl, rfl⟩
end
theorem live_out (g : Nat) (i : Int) (hi : i < 0 ∨ 16 ≤ i) (w : World) : Calls Try.prog 23 #[.pointer (some ⟨g, 0, none⟩), .int .i64 i] w fun e w' => e = .returned (.tuple #[.pointer none, .int .i64 1]) ∧ w = w' := by
  go_enter Try.func23, Try.ntmps23
  go_wp2_with fail
  refine (get_out g i hi _).mono ?_
  rintro e w1 ⟨rfl, rfl⟩
  go_wp2
  all_goals exact bodyPost_ret (v := .tuple #[_, _]) (by simp [results, Try.results23, go_sem]) rfl ⟨rfl, rfl⟩
theorem live_nil (i : Int) (w : World) : Calls Try.prog 23 #[.pointer none, .int .i64 i] w fun e w' => e = .returned (.tuple #[.pointer none, .int .i64 1]) ∧ w = w' := by
  go_enter Try.func23, Try.ntmps23
  go_wp2_with fail
  refine (get_nil i _).mono ?_
  rintro e w1 ⟨rfl, rfl⟩
  go_wp2
  all_goals exact bodyPost_ret (v := .tuple #[_, _]) (by simp [results, Try.results23, go_sem]) rfl ⟨rfl, rfl⟩

section
variable {w : World} {g : Nat} {t : TypeId} {st : Nat → PS} {vs : Nat → Value}
theorem Whole_in (hF : Four w g t st vs) (i : Nat) (hi : i < 16) : Calls Try.prog 12 #[.pointer (some ⟨g, 0, none⟩), .int .i64 i] w fun e w' => e = .returned (.bool ((st i).op && !(st i).br)) ∧ w = w' := by
  go_enter Try.func12, Try.ntmps12
  go_wp2_with fail
  refine (get_in g i hi _).mono ?_
  rintro e w1 ⟨rfl, rfl⟩
  go_wp2_with fail
  refine (whole_any hF i hi).mono ?_
  rintro e w1 ⟨rfl, rfl⟩
  go_wp2
  all_goals (go_ret; exact ⟨rfl, rfl⟩)
theorem Whole_out (g : Nat) (i : Int) (hi : i < 0 ∨ 16 ≤ i) (w : World) : Calls Try.prog 12 #[.pointer (some ⟨g, 0, none⟩), .int .i64 i] w fun e w' => e = .returned (.bool false) ∧ w = w' := by
  go_enter Try.func12, Try.ntmps12
  go_wp2_with fail
  refine (get_out g i hi _).mono ?_
  rintro e w1 ⟨rfl, rfl⟩
  go_wp2
  all_goals (go_ret; exact ⟨rfl, rfl⟩)
theorem Whole_nil (i : Int) (w : World) : Calls Try.prog 12 #[.pointer none, .int .i64 i] w fun e w' => e = .returned (.bool false) ∧ w = w' := by
  go_enter Try.func12, Try.ntmps12
  go_wp2_with fail
  refine (get_nil i _).mono ?_
  rintro e w1 ⟨rfl, rfl⟩
  go_wp2
  all_goals (go_ret; exact ⟨rfl, rfl⟩)
theorem Is_in (hF : Four w g t st vs) (i : Nat) (hi : i < 16) : Calls Try.prog 15 #[.pointer (some ⟨g, 0, none⟩), .int .i64 i] w fun e w' => e = .returned (.bool (st i).op) ∧ w = w' := by
  have x0 := hF.c0 hi
  go_enter Try.func15, Try.ntmps15
  go_wp2_with fail
  refine (get_in g i hi _).mono ?_
  rintro e w1 ⟨rfl, rfl⟩
  go_wp2
  all_goals (go_ret; exact ⟨rfl, rfl⟩)
theorem Is_out (g : Nat) (i : Int) (hi : i < 0 ∨ 16 ≤ i) (w : World) : Calls Try.prog 15 #[.pointer (some ⟨g, 0, none⟩), .int .i64 i] w fun e w' => e = .returned (.bool false) ∧ w = w' := by
  go_enter Try.func15, Try.ntmps15
  go_wp2_with fail
  refine (get_out g i hi _).mono ?_
  rintro e w1 ⟨rfl, rfl⟩
  go_wp2
  all_goals (go_ret; exact ⟨rfl, rfl⟩)
theorem Is_nil (i : Int) (w : World) : Calls Try.prog 15 #[.pointer none, .int .i64 i] w fun e w' => e = .returned (.bool false) ∧ w = w' := by
  go_enter Try.func15, Try.ntmps15
  go_wp2_with fail
  refine (get_nil i _).mono ?_
  rintro e w1 ⟨rfl, rfl⟩
  go_wp2
  all_goals (go_ret; exact ⟨rfl, rfl⟩)

theorem Break_out (g : Nat) (i n : Int) (hi : i < 0 ∨ 16 ≤ i) (w : World) : Calls Try.prog 11 #[.pointer (some ⟨g, 0, none⟩), .int .i64 i, .int .i64 n] w fun e w' => e = .returned (.int .i64 1) ∧ w = w' := by
  go_enter Try.func11, Try.ntmps11
  go_wp2_with fail
  refine (live_out g i hi _).mono ?_
  rintro e w1 ⟨rfl, rfl⟩
  go_wp2
  all_goals (go_ret; exact ⟨rfl, rfl⟩)
theorem Break_nil (i n : Int) (w : World) : Calls Try.prog 11 #[.pointer none, .int .i64 i, .int .i64 n] w fun e w' => e = .returned (.int .i64 1) ∧ w = w' := by
  go_enter Try.func11, Try.ntmps11
  go_wp2_with fail
  refine (live_nil i _).mono ?_
  rintro e w1 ⟨rfl, rfl⟩
  go_wp2
  all_goals (go_ret; exact ⟨rfl, rfl⟩)
theorem Break_gone (hF : Four w g t st vs) (i : Nat) (hi : i < 16) (n : Int) (hl : ((st i).op && !(st i).br) = false) : Calls Try.prog 11 #[.pointer (some ⟨g, 0, none⟩), .int .i64 i, .int .i64 n] w fun e w' => e = .returned (.int .i64 12) ∧ w = w' := by
  go_enter Try.func11, Try.ntmps11
  go_wp2_with fail
  refine (live_gone hF i hi hl).mono ?_
  rintro e w1 ⟨rfl, rfl⟩
  go_wp2
  all_goals (go_ret; exact ⟨rfl, rfl⟩)
theorem Break_ok (hF : Four w g t st vs) (i : Nat) (hi : i < 16) (n : Int) (hl : ((st i).op && !(st i).br) = true) : Calls Try.prog 11 #[.pointer (some ⟨g, 0, none⟩), .int .i64 i, .int .i64 n] w fun e w' => e = .returned (.int .i64 0) ∧ Four w' g t (upd st i { st i with left := max n (-1) }) vs ∧ w.grownBy w' (some g) := by
  have x2 := hF.c2 hi
  have f2 := hF.frozen (i * 4 + 2)
  go_enter Try.func11, Try.ntmps11
  go_wp2_with fail
  refine (live_ok hF i hi hl).mono ?_
  rintro e w1 ⟨rfl, rfl⟩
  go_wp2
  all_goals
    go_ret
    refine ⟨rfl, ?_, only_setCell (World.grownBy.refl w _) rfl _⟩
    first
    | (rw [show max n (-1) = -1 by omega]; exact hF.set2 hi _)
    | (rw [show max n (-1) = n by omega]; exact hF.set2 hi _)
theorem Close_out (g : Nat) (i : Int) (hi : i < 0 ∨ 16 ≤ i) (w : World) : Calls Try.prog 21 #[.pointer (some ⟨g, 0, none⟩), .int .i64 i] w fun e w' => e = .returned (.int .i64 1) ∧ w = w' := by
  go_enter Try.func21, Try.ntmps21
  go_wp2_with fail
  refine (get_out g i hi _).mono ?_
  rintro e w1 ⟨rfl, rfl⟩
  go_wp2
  all_goals (go_ret; exact ⟨rfl, rfl⟩)
theorem Close_nil (i : Int) (w : World) : Calls Try.prog 21 #[.pointer none, .int .i64 i] w fun e w' => e = .returned (.int .i64 1) ∧ w = w' := by
  go_enter Try.func21, Try.ntmps21
  go_wp2_with fail
  refine (get_nil i _).mono ?_
  rintro e w1 ⟨rfl, rfl⟩
  go_wp2
  all_goals (go_ret; exact ⟨rfl, rfl⟩)
theorem Close_gone (hF : Four w g t st vs) (i : Nat) (hi : i < 16) (hl : (st i).op = false) : Calls Try.prog 21 #[.pointer (some ⟨g, 0, none⟩), .int .i64 i] w fun e w' => e = .returned (.int .i64 12) ∧ w = w' := by
  have x0 := hF.c0 hi
  rw [hl] at x0
  go_enter Try.func21, Try.ntmps21
  go_wp2_with fail
  refine (get_in g i hi _).mono ?_
  rintro e w1 ⟨rfl, rfl⟩
  go_wp2
  all_goals (go_ret; exact ⟨rfl, rfl⟩)
theorem Close_ok (hF : Four w g t st vs) (i : Nat) (hi : i < 16) (hl : (st i).op = true) : Calls Try.prog 21 #[.pointer (some ⟨g, 0, none⟩), .int .i64 i] w fun e w' => e = .returned (.int .i64 0) ∧ Four w' g t (upd st i { st i with op := false }) vs ∧ w.grownBy w' (some g) := by
  have x0 := hF.c0 hi
  rw [hl] at x0
  have f0 := hF.frozen (i * 4)
  go_enter Try.func21, Try.ntmps21
  go_wp2_with fail
  refine (get_in g i hi _).mono ?_
  rintro e w1 ⟨rfl, rfl⟩
  go_wp2
  all_goals (go_ret; exact ⟨rfl, hF.set0 hi false, only_setCell (World.grownBy.refl w _) rfl _⟩)
theorem Open_out (g : Nat) (i : Int) (hi : i < 0 ∨ 16 ≤ i) (w : World) : Calls Try.prog 10 #[.pointer (some ⟨g, 0, none⟩), .int .i64 i] w fun e w' => e = .returned (.int .i64 1) ∧ w = w' := by
  go_enter Try.func10, Try.ntmps10
  go_wp2_with fail
  refine (get_out g i hi _).mono ?_
  rintro e w1 ⟨rfl, rfl⟩
  go_wp2
  all_goals (go_ret; exact ⟨rfl, rfl⟩)
theorem Open_nil (i : Int) (w : World) : Calls Try.prog 10 #[.pointer none, .int .i64 i] w fun e w' => e = .returned (.int .i64 1) ∧ w = w' := by
  go_enter Try.func10, Try.ntmps10
  go_wp2_with fail
  refine (get_nil i _).mono ?_
  rintro e w1 ⟨rfl, rfl⟩
  go_wp2
  all_goals (go_ret; exact ⟨rfl, rfl⟩)
theorem Open_there (hF : Four w g t st vs) (i : Nat) (hi : i < 16) (hl : (st i).op = true) : Calls Try.prog 10 #[.pointer (some ⟨g, 0, none⟩), .int .i64 i] w fun e w' => e = .returned (.int .i64 8) ∧ w = w' := by
  have x0 := hF.c0 hi
  rw [hl] at x0
  go_enter Try.func10, Try.ntmps10
  go_wp2_with fail
  refine (get_in g i hi _).mono ?_
  rintro e w1 ⟨rfl, rfl⟩
  go_wp2
  all_goals (go_ret; exact ⟨rfl, rfl⟩)
theorem Open_ok (hF : Four w g t st vs) (i : Nat) (hi : i < 16) (hl : (st i).op = false) : Calls Try.prog 10 #[.pointer (some ⟨g, 0, none⟩), .int .i64 i] w fun e w' => e = .returned (.int .i64 0) ∧ Four w' g t (upd st i ⟨true, false, -1, ByteArray.empty⟩) (fun j => if j = i then .slice none 0 0 else vs j) ∧ w.grownBy w' (some g) := by
  have x0 := hF.c0 hi
  rw [hl] at x0
  have x1 := hF.c1 hi
  have x2 := hF.c2 hi
  have x3 := hF.c3 hi
  have f0 := hF.frozen (i * 4)
  have f1 := hF.frozen (i * 4 + 1)
  have f2 := hF.frozen (i * 4 + 2)
  have f3 := hF.frozen (i * 4 + 3)
  go_enter Try.func10, Try.ntmps10
  go_wp2_with fail
  refine (get_in g i hi _).mono ?_
  rintro e w1 ⟨rfl, rfl⟩
  go_wp2
  all_goals (go_ret; refine ⟨rfl, ?_, only_set (only_set (only_set (only_set (World.grownBy.refl w (some g)) _ _) _ _) _ _) _ _⟩)
  all_goals
    have k := (((hF.set0 hi true).set1 hi false).set2 hi (-1)).set3 hi (.slice none 0 0) ByteArray.empty
    simp only [upd_same, upd_upd] at k
    exact k
end
end Go.Proofs.Ytdpjbkodenhelaa
