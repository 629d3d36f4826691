/- How many places a checkpoint's block has room for: ckpt.Room and coamingref14.Room. -/
import Derived.Test.YtiepfinipmafcaaRight
namespace Go.Proofs.Ytiepfinipmafcaa.Shp
open Go.RowKit Go.Proofs.YtiepfinipmafcaaW.PrintWords Go.Proofs.YtiepfinipmafcaaW.PrintMore Go.Proofs.Ytiepfinipmafcaa.Base
set_option linter.unusedVariables false
set_option linter.unusedSimpArgs false

def rm (b : Int) : Int := if Pow b then (b - 27) / 16 else 0
theorem pow_range {b : Int} (h : Pow b) : 64 ≤ b ∧ b ≤ 4096 := by unfold Pow at h; omega

theorem room_calls (b : Int) (hb : IsI b) (w : World) :
    Calls Try.prog 35 #[.int .i64 b] w fun e w' => e = .returned (.int .i64 (rm b)) ∧ w = w' := by
  obtain ⟨hb1, hb2⟩ := hb
  by_cases h2 : 64 ≤ b ∧ b ≤ 4096
  · obtain ⟨a5, a6⟩ := h2
    have hc := and_code b a5 a6
    by_cases h3 : Pow b
    · rw [decide_eq_true h3] at hc
      have hR := Aside0.mk (show rm b = (b - 27) / 16 from if_pos h3)
      clear h3
      go_enter Try.func35, Try.ntmps35
      go_wp2
      go_ret
      refine ⟨?_, rfl⟩
      rw [hR.out]
      show Ending.returned (.int .i64 _) = _
      congr 2
      omega
    · rw [decide_eq_false h3] at hc
      have hR := Aside0.mk (show rm b = 0 from if_neg h3)
      clear h3
      go_enter Try.func35, Try.ntmps35
      go_wp2
      go_ret
      exact ⟨by rw [hR.out]; rfl, rfl⟩
  · have hR := Aside0.mk (show rm b = 0 from if_neg (fun h => h2 (pow_range h)))
    by_cases h3 : b < 64
    · go_enter Try.func35, Try.ntmps35
      go_wp2
      go_ret
      exact ⟨by rw [hR.out]; rfl, rfl⟩
    · have h4 : 4096 < b := by omega
      go_enter Try.func35, Try.ntmps35
      go_wp2
      go_ret
      exact ⟨by rw [hR.out]; rfl, rfl⟩

theorem ref_room_calls (b : Int) (hb : IsI b) (w : World) :
    Calls Try.prog 31 #[.int .i64 b] w fun e w' => e = .returned (.int .i64 (rm b)) ∧ w = w' := by
  obtain ⟨hb1, hb2⟩ := hb
  go_enter Try.func31, Try.ntmps31
  have HP := Aside0.mk (show pOf b 7 = decide (Pow b) from by
    rw [show pOf b 7 = (((((((64 : Int) == b) || ((128 : Int) == b)) || ((256 : Int) == b)) || ((512 : Int) == b)) || ((1024 : Int) == b)) || ((2048 : Int) == b) || ((4096 : Int) == b)) from rfl, Bool.eq_iff_iff]
    simp only [Bool.or_eq_true, beq_iff_eq, decide_eq_true_eq]
    unfold Pow
    omega)
  go_wp2
  go_loopg [3] 7 (fun k v3 wr => ∃ (j : Nat) (x : Int), v3 = .int .i64 x ∧ Aside0 (k + j = 7 ∧ pOf b j = false ∧ x = pw j) ∧ w = wr)
  case atStart => exact ⟨0, 64, rfl, ⟨rfl, rfl, rfl⟩, rfl⟩
  case round =>
    obtain ⟨j, x, rfl, HJ, rfl⟩ := hrel
    by_cases h7 : j = 7
    · have hx : x = 8192 := by rw [HJ.out.2.2, h7]; rfl
      subst hx
      have hR := Aside0.mk (show rm b = 0 from if_neg (by have := HP.out; rw [← h7, HJ.out.2.1] at this; simpa using this.symm))
      go_wp2
      go_ret
      exact ⟨by rw [hR.out]; rfl, rfl⟩
    · have hx : x ≤ 4096 ∧ 64 ≤ x ∧ Pow x := by
        rw [HJ.out.2.2]
        have h1 := HJ.out.1
        have : j = 0 ∨ j = 1 ∨ j = 2 ∨ j = 3 ∨ j = 4 ∨ j = 5 ∨ j = 6 := by omega
        rcases this with rfl | rfl | rfl | rfl | rfl | rfl | rfl <;> decide
      obtain ⟨hx1, hx2, hx3⟩ := hx
      by_cases hxb : x = b
      · subst hxb
        have hR := Aside0.mk (show rm x = (x - 27) / 16 from if_pos hx3)
        clear hx3
        go_wp2
        go_ret
        exact ⟨by rw [hR.out]; rfl, rfl⟩
      · have hne : (x == b) = false := by rw [beq_eq_false_iff_ne]; exact hxb
        clear hx3
        go_wp2
        go_roundg (gk - 1)
        case measure => have := HJ.out.1; omega
        case rel => exact ⟨j + 1, 2 * x, rfl, ⟨by have := HJ.out.1; omega, by rw [pOf, HJ.out.2.1, ← HJ.out.2.2, Bool.false_or]; simpa using hxb, by rw [pw, HJ.out.2.2]⟩, rfl⟩
end Go.Proofs.Ytiepfinipmafcaa.Shp
