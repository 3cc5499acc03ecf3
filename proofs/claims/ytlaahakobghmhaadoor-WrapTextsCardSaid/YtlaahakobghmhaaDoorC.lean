/- Package wrap: what each law asks first (lives). -/
import Derived.Test.YtlaahakobghmhaaDoorB
namespace Go.Proofs.YtlaahakobghmhaaDoor
open Go.RowKit
attribute [local go_sem ↓] Go.wp_at_zero Go.wp_at_succ

theorem fmt_10 (w : World) : Calls Tryd.prog 26 #[.int .u64 10, .int .i64 10] w fun e w' => e = .returned (.string ⟨#[49, 48]⟩) ∧ w = w' := by
  go_enter Tryd.func26, Tryd.ntmps26
  go_wp2_with fail
  refine (small_10 _).mono ?_
  rintro e w1 ⟨rfl, rfl⟩
  go_wp2
  all_goals (go_ret; exact ⟨rfl, rfl⟩)
theorem fmt_42 (w : World) : Calls Tryd.prog 26 #[.int .u64 42, .int .i64 10] w fun e w' => e = .returned (.string ⟨#[52, 50]⟩) ∧ w = w' := by
  go_enter Tryd.func26, Tryd.ntmps26
  go_wp2_with fail
  refine (small_42 _).mono ?_
  rintro e w1 ⟨rfl, rfl⟩
  go_wp2
  all_goals (go_ret; exact ⟨rfl, rfl⟩)
theorem text_lift (x : Int) (hx : 0 ≤ x ∧ x < 4294967296) (t : ByteArray) (Q : World → Prop) (w : World) (F : Calls Tryd.prog 26 #[.int .u64 x, .int .i64 10] w fun e w' => e = .returned (.string t) ∧ Q w') : Calls Tryd.prog 19 #[.int .u32 x] w fun e w' => e = .returned (.string t) ∧ Q w' := by
  have G : Calls Tryd.prog 25 #[.int .u64 x, .int .i64 10] w fun e w' => e = .returned (.string t) ∧ Q w' := by
    have F := Lib.hid F
    go_enter Tryd.func25, Tryd.ntmps25
    go_wp2_with fail
    refine F.out.mono ?_
    rintro e w1 ⟨rfl, q⟩
    go_wp2
    all_goals (go_ret; exact ⟨rfl, q⟩)
  have G := Lib.hid G
  have e1 : IntKind.u64.wrap x = x := IntWalk.u64_in _ (by omega)
  go_enter Tryd.func19, Tryd.ntmps19
  go_wp2_with fail
  refine G.out.mono ?_
  rintro e w1 ⟨rfl, q⟩
  go_wp2
  all_goals (go_ret; exact ⟨rfl, q⟩)
theorem text_10 (w : World) : Calls Tryd.prog 19 #[.int .u32 10] w fun e w' => e = .returned (.string ⟨#[49, 48]⟩) ∧ w = w' := text_lift 10 (by omega) _ _ w (fmt_10 w)
theorem text_42 (w : World) : Calls Tryd.prog 19 #[.int .u32 42] w fun e w' => e = .returned (.string ⟨#[52, 50]⟩) ∧ w = w' := text_lift 42 (by omega) _ _ w (fmt_42 w)
theorem rdn_42 : rdn ⟨#[52, 50]⟩ 2 = some 42 := by decide
theorem lives_any (w : World) : Calls Tryd.prog 9 #[] w fun e w' => e = .returned (.bool true) ∧ w.grownBy w' none := by
  have R := read_any (fun _ => ⟨#[52, 50]⟩) ⟨#[52, 50]⟩ (by decide) w (fun n hn W _ => by
    obtain rfl : 42 = n := Option.some.inj (rdn_42.symm.trans hn)
    exact (text_42 W).mono fun e w' k => ⟨k.1, by rw [← k.2]; exact World.grownBy.refl _ _⟩)
  have e1 : readR (fun _ => ⟨#[52, 50]⟩) ⟨#[52, 50]⟩ = .tuple #[.int .u32 42, .bool true] := by
    unfold readR
    rw [show rdn (⟨#[52, 50]⟩ : ByteArray) (ByteArray.size ⟨#[52, 50]⟩) = some 42 from rdn_42]
    simp
  rw [e1] at R
  go_enter Tryd.func9, Tryd.ntmps9
  go_wp2_with fail
  refine R.mono ?_
  rintro e w1 ⟨rfl, g1⟩
  go_wp2_with fail
  refine (add_any _ _ _).mono ?_
  rintro e w2 ⟨rfl, rfl⟩
  go_wp2_with fail
  refine (ahead_any _ _ _).mono ?_
  rintro e w2 ⟨rfl, rfl⟩
  go_wp2_with fail
  refine (within_any _ _ _ _).mono ?_
  rintro e w2 ⟨rfl, rfl⟩
  rw [show withinB 1 4294967295 2 = true by decide]
  go_wp2_with fail
  refine (less_any _ _ _).mono ?_
  rintro e w2 ⟨rfl, rfl⟩
  rw [show lessB 4294967295 2 = true by decide]
  go_wp2_with fail
  refine (text_10 _).mono ?_
  rintro e w2 ⟨rfl, rfl⟩
  go_wp2
  all_goals (go_ret; exact ⟨rfl, g1⟩)
end Go.Proofs.YtlaahakobghmhaaDoor
