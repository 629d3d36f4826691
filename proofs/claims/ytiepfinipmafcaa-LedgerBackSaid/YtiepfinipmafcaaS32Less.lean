/- cmp.Less at uint32. -/
import Derived.Lib.Walk
import Derived.Sort.Row
import Derived.Lib.Strings
import Derived.RowKit
import Derived.Test.YtiepfinipmafcaaProg
namespace Go.Proofs.Ytiepfinipmafcaa.S32
open Go.RowKit Go.Sort
set_option linter.unusedVariables false
set_option linter.unusedSimpArgs false
set_option maxHeartbeats 1000000 in
theorem cmp_isNaN_u32 (x : Int) (w : World) : Calls Try.prog 58 #[.int .u32 x] w fun e w' => e = .returned (.bool false) ∧ w' = w := by
  go_enter Try.func58, Try.ntmps58
  go_wp2
  go_ret
  exact ⟨by simp, rfl⟩
set_option maxHeartbeats 1000000 in
theorem cmp_Less_u32 (x y : Int) (w : World) : Calls Try.prog 48 #[.int .u32 x, .int .u32 y] w fun e w' => e = .returned (.bool (Sort.ltInt x y)) ∧ w' = w := by
  go_enter Try.func48, Try.ntmps48
  go_wp2_with (go_at_call 58; refine (cmp_isNaN_u32 _ _).mono ?_; rintro e w' ⟨rfl, rfl⟩)
  go_ret
  exact ⟨rfl, rfl⟩
end Go.Proofs.Ytiepfinipmafcaa.S32
