/- The document's record: coamingref11.Room. -/
import Derived.Test.YtefgahakbnfdeaaRefWire
namespace Go.Proofs.Ytefgahakbnfdeaa.Rc
open Go.RowKit Go.Proofs.YtefgahakbnfdeaaW.PrintWords Go.Proofs.YtefgahakbnfdeaaW.PrintMore Go.Proofs.Ytefgahakbnfdeaa.Base
set_option linter.unusedVariables false
set_option linter.unusedSimpArgs false
theorem rmZ_pow {b : Int} (h : Pw.Pow b) : rmZ b = (b - 19) / 19 := if_pos h
theorem rmZ_not {b : Int} (h : ¬ Pw.Pow b) : rmZ b = 0 := if_neg h
theorem rroom_calls (b : Int) (hb : -9223372036854775808 ≤ b ∧ b ≤ 9223372036854775807) (w : World) :
    Calls Try.prog 14 #[.int .i64 b] w fun e w' => e = .returned (.int .i64 (rmZ b)) ∧ w = w' := by
  obtain ⟨hb1, hb2⟩ := hb
  go_enter Try.func14, Try.ntmps14
  have HP := Aside0.mk (show Pw.pOf b 7 = decide (Pw.Pow b) from by
    rw [show Pw.pOf b 7 = (((((((64 : Int) == b) || ((128 : Int) == b)) || ((256 : Int) == b)) || ((512 : Int) == b)) || ((1024 : Int) == b)) || ((2048 : Int) == b) || ((4096 : Int) == b)) from rfl, Bool.eq_iff_iff]
    simp only [Bool.or_eq_true, beq_iff_eq, decide_eq_true_eq]
    unfold Pw.Pow
    omega)
  go_wp2
  go_loopg [3] 7 (fun k v3 wr => ∃ (j : Nat) (x : Int), v3 = .int .i64 x ∧ Aside0 (k + j = 7 ∧ Pw.pOf b j = false ∧ x = Pw.pw j) ∧ w = wr)
  case atStart => exact ⟨0, 64, rfl, ⟨rfl, rfl, rfl⟩, rfl⟩
  case round =>
    obtain ⟨j, x, rfl, HJ, rfl⟩ := hrel
    by_cases h7 : j = 7
    · have hx : x = 8192 := by rw [HJ.out.2.2, h7]; rfl
      subst hx
      have hR := Aside0.mk (show rmZ b = 0 from rmZ_not (by have := HP.out; rw [← h7, HJ.out.2.1] at this; simpa using this.symm))
      go_wp2
      go_ret
      exact ⟨by rw [hR.out]; rfl, rfl⟩
    · have hx : x ≤ 4096 ∧ 64 ≤ x ∧ Pw.Pow x := by
        rw [HJ.out.2.2]
        have h1 := HJ.out.1
        have : j = 0 ∨ j = 1 ∨ j = 2 ∨ j = 3 ∨ j = 4 ∨ j = 5 ∨ j = 6 := by omega
        rcases this with rfl | rfl | rfl | rfl | rfl | rfl | rfl <;> decide
      obtain ⟨hx1, hx2, hx3⟩ := hx
      by_cases hxb : x = b
      · subst hxb
        have hR := Aside0.mk (show rmZ x = (x - 19) / 19 from rmZ_pow hx3)
        clear hx3
        go_wp2
        go_ret
        exact ⟨by rw [hR.out]; rfl, rfl⟩
      · have hne : (x == b) = false := by rw [beq_eq_false_iff_ne]; exact hxb
        clear hx3
        go_wp2
        go_roundg (gk - 1)
        case measure => have := HJ.out.1; omega
        case rel => exact ⟨j + 1, 2 * x, rfl, ⟨by have := HJ.out.1; omega, by rw [Pw.pOf, HJ.out.2.1, ← HJ.out.2.2, Bool.false_or]; simpa using hxb, by rw [Pw.pw, HJ.out.2.2]⟩, rfl⟩
end Go.Proofs.Ytefgahakbnfdeaa.Rc
