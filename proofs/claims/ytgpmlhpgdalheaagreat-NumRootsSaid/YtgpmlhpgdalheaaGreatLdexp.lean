/- 'math.Ldexp' at two places. -/
import Derived.Test.YtgpmlhpgdalheaaGreatWhole
import Derived.WalkLawsBesides
namespace Go.Proofs.YtgpmlhpgdalheaaGreat
open Go.RowKit Pl
set_option linter.unusedVariables false
set_option linter.unusedSimpArgs false
theorem f64bits (x : Nat) (w : World) : (callFunc 92 #[.float .f64 x]).run Tryz.prog w = .ok (.value (.int .u64 x)) w := by kernel_rfl
theorem f64from (x : Nat) (w : World) : (callFunc 60 #[.int .u64 x]).run Tryz.prog w = .ok (.value (.float .f64 x)) w := by kernel_rfl

set_option maxRecDepth 100000 in
set_option maxHeartbeats 4000000 in
theorem ldexp_a (w : World) : Calls Tryz.prog 184 #[.float .f64 4844071759199705498, .int .i64 (-56)] w (fun e w' => e = .returned (.float .f64 4591870180066957722) ∧ w' = w) := by
  have h1 := f64bits
  have e0 : bits .andNot .u64 4844071759199705498 9223372036854775808 = 4844071759199705498 := by kernel_rfl
  have e1 : (FloatKind.f64.format.order 4844071759199705498 9218868437227405311 == some Ordering.gt) = false := by kernel_rfl
  have e2 : (FloatKind.f64.format.order 4844071759199705498 4844071759199705498 != some Ordering.eq) = false := by kernel_rfl
  have e3 : (FloatKind.f64.format.order 4844071759199705498 4503599627370496 == some Ordering.lt) = false := by kernel_rfl
  have e4 : (FloatKind.f64.format.order 4844071759199705498 0 == some Ordering.eq) = false := by kernel_rfl
  have e5 : bits .and .i64 1075 2047 = 1075 := by kernel_rfl
  have e6 : bits .andNot .u64 4844071759199705498 9218868437227405312 = 2702159776422298 := by kernel_rfl
  have e7 : bits .or .u64 2702159776422298 4589168020290535424 = 4591870180066957722 := by kernel_rfl
  have g0 : ∀ w, (callFunc 60 #[.int .u64 4844071759199705498]).run Tryz.prog w = .ok (.value (.float .f64 4844071759199705498)) w := fun w => f64from 4844071759199705498 w
  have g1 : ∀ w, (callFunc 60 #[.int .u64 4591870180066957722]).run Tryz.prog w = .ok (.value (.float .f64 4591870180066957722)) w := fun w => f64from 4591870180066957722 w
  have hm : ∀ w, (binOp .mul 44 (.float .f64 4607182418800017408) (.float .f64 4591870180066957722)).run Tryz.prog w = .ok (.float .f64 4591870180066957722) w := fun w => by kernel_rfl
  go_enter Tryz.func184, Tryz.ntmps184
  go_wp2
  go_ret
  exact ⟨rfl, rfl⟩

set_option maxRecDepth 100000 in
set_option maxHeartbeats 4000000 in
theorem ldexp_b (w : World) : Calls Tryz.prog 184 #[.float .f64 4843171039274231398, .int .i64 (-53)] w (fun e w' => e = .returned (.float .f64 4604480259023595110) ∧ w' = w) := by
  have h1 := f64bits
  have e0 : bits .andNot .u64 4843171039274231398 9223372036854775808 = 4843171039274231398 := by kernel_rfl
  have e1 : (FloatKind.f64.format.order 4843171039274231398 9218868437227405311 == some Ordering.gt) = false := by kernel_rfl
  have e2 : (FloatKind.f64.format.order 4843171039274231398 4843171039274231398 != some Ordering.eq) = false := by kernel_rfl
  have e3 : (FloatKind.f64.format.order 4843171039274231398 4503599627370496 == some Ordering.lt) = false := by kernel_rfl
  have e4 : (FloatKind.f64.format.order 4843171039274231398 0 == some Ordering.eq) = false := by kernel_rfl
  have e5 : bits .and .i64 1075 2047 = 1075 := by kernel_rfl
  have e6 : bits .andNot .u64 4843171039274231398 9218868437227405312 = 1801439850948198 := by kernel_rfl
  have e7 : bits .or .u64 1801439850948198 4602678819172646912 = 4604480259023595110 := by kernel_rfl
  have g0 : ∀ w, (callFunc 60 #[.int .u64 4843171039274231398]).run Tryz.prog w = .ok (.value (.float .f64 4843171039274231398)) w := fun w => f64from 4843171039274231398 w
  have g1 : ∀ w, (callFunc 60 #[.int .u64 4604480259023595110]).run Tryz.prog w = .ok (.value (.float .f64 4604480259023595110)) w := fun w => f64from 4604480259023595110 w
  have hm : ∀ w, (binOp .mul 44 (.float .f64 4607182418800017408) (.float .f64 4604480259023595110)).run Tryz.prog w = .ok (.float .f64 4604480259023595110) w := fun w => by kernel_rfl
  go_enter Tryz.func184, Tryz.ntmps184
  go_wp2
  go_ret
  exact ⟨rfl, rfl⟩

end Go.Proofs.YtgpmlhpgdalheaaGreat
