/- Same, of the reference. -/
import Derived.Test.YthpnfbpkoiebaaaHalves
import Derived.Laws.Externs
namespace Go.Proofs.Ythpnfbpkoiebaaa
open Go.RowKit PaceFl Go.Joins Go.ChangeShapes Go.WideShapes Go.ChangeAt
attribute [local go_sem ↓] Go.wp_at_zero Go.wp_at_succ
attribute [local go_sem] run_store_float

theorem bits_run (b : Nat) (w : World) : (callFunc 23 #[.float .f64 b]).run Try.prog w = .ok (.value (.int .u64 b)) w := by
  have hf : Try.prog.funcs[23]? = some (Try.prog.funcs[23]!) := by kernel_rfl
  rw [run_callFunc_extern hf (by kernel_rfl) (by kernel_rfl) (by kernel_rfl) (show Extern.find _ = some Extern.MathFloatBits.float64bits by kernel_rfl)]
  rfl
theorem same_self (b : Nat) (w : World) : Calls Try.prog 15 #[.float .f64 b, .float .f64 b] w fun e w' => e = .returned (.bool true) ∧ w = w' := by
  have hb := fun w => bits_run b w
  go_enter Try.func15, Try.ntmps15
  go_wp2
  go_ret
  exact ⟨rfl, rfl⟩
end Go.Proofs.Ythpnfbpkoiebaaa
