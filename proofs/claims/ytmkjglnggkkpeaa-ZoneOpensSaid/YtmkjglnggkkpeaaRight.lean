/- Which shapes may be: zone.Right and coamingref10.Right: one plain test. -/
import Derived.Test.YtmkjglnggkkpeaaProg
import Derived.Test.YtmkjglnggkkpeaaBase
import Derived.Test.YtmkjglnggkkpeaaWMore
import Derived.WalkKit
import Derived.Deep.LoopGhost
import Derived.Deep.QuietTactic
import Derived.BigQuiet
import Derived.WideLaws
import Derived.Laws.BitsAllLaws
import Derived.Laws.Bits64
import Derived.Outline
import Derived.Lib.SmallJoins
import Derived.WideShapes
namespace Go.Proofs.Ytmkjglnggkkpeaa.Shp
open Go.RowKit Go.Proofs.YtmkjglnggkkpeaaW.PrintWords Go.Proofs.YtmkjglnggkkpeaaW.PrintMore Go.Proofs.Ytmkjglnggkkpeaa.Base
set_option linter.unusedVariables false
set_option linter.unusedSimpArgs false

def Pow (b : Int) : Prop := b = 64 ∨ b = 128 ∨ b = 256 ∨ b = 512 ∨ b = 1024 ∨ b = 2048 ∨ b = 4096
def pw : Nat → Int
  | 0 => 64
  | j + 1 => 2 * pw j
def pOf (b : Int) : Nat → Bool
  | 0 => false
  | j + 1 => pOf b j || (pw j == b)
instance (b : Int) : Decidable (Pow b) := by unfold Pow; infer_instance
def Rt (z zb b r : Int) : Prop := 6 ≤ z ∧ z ≤ 256 ∧ 8 ≤ zb ∧ zb ≤ 4096 ∧ Pow b ∧ 2 ≤ r ∧ r ≤ z - 4
instance (z zb b r : Int) : Decidable (Rt z zb b r) := by unfold Rt; infer_instance
def ck (b : Nat) : Bool := decide ((b &&& (b - 1)) = 0) == decide (b = 64 ∨ b = 128 ∨ b = 256 ∨ b = 512 ∨ b = 1024 ∨ b = 2048 ∨ b = 4096)
theorem and_cut : ((List.range 65).all fun k => (List.range 64).all fun j => decide (64 * k + j < 64) || decide (4096 < 64 * k + j) || ck (64 * k + j)) = true := by decide +kernel
theorem and_nat (b : Nat) (h : b < 4097) (h' : 64 ≤ b) : ((b &&& (b - 1)) = 0 ↔ b = 64 ∨ b = 128 ∨ b = 256 ∨ b = 512 ∨ b = 1024 ∨ b = 2048 ∨ b = 4096) := by
  have h1 := List.all_eq_true.1 and_cut (b / 64) (List.mem_range.2 (by omega))
  have h2 := List.all_eq_true.1 h1 (b % 64) (List.mem_range.2 (by omega))
  rw [Nat.div_add_mod, decide_eq_false (show ¬ b < 64 by omega), decide_eq_false (show ¬ 4096 < b by omega), Bool.false_or, Bool.false_or] at h2
  unfold ck at h2
  exact decide_eq_decide.1 (beq_iff_eq.1 h2)
theorem and_code (b : Int) (h1 : 64 ≤ b) (h2 : b ≤ 4096) : (bits .and .i64 b (b - 1) != 0) = !(decide (Pow b)) := by
  obtain ⟨n, rfl⟩ := Int.eq_ofNat_of_zero_le (show 0 ≤ b by omega)
  have e := bits_nat .i64 13 (by decide) (fun n h0 h1 => by rw [IntKind.wrap_i64]; omega) n (n - 1) (by omega) (by omega)
  have h := and_nat n (by omega) (by omega)
  have e' : bits .and .i64 (n : Int) ((n : Int) - 1) = ((n &&& (n - 1) : Nat) : Int) := by
    rw [show ((n : Int) - 1) = ((n - 1 : Nat) : Int) by omega]
    exact e.1
  rw [e']
  have hp : Pow (n : Int) ↔ (n &&& (n - 1)) = 0 := by rw [h]; unfold Pow; omega
  by_cases h0 : (n &&& (n - 1)) = 0
  · rw [h0, decide_eq_true (hp.2 h0)]; rfl
  · rw [decide_eq_false (fun x => h0 (hp.1 x)), Bool.not_false, bne_iff_ne]
    omega

/-- A shape's value. -/
def shV (z zb b r : Int) : Value := .agg #[.int .i64 z, .int .i64 zb, .int .i64 b, .int .i64 r]
def IsI (x : Int) : Prop := -9223372036854775808 ≤ x ∧ x ≤ 9223372036854775807

theorem right_calls (z zb b r : Int) (hz : IsI z) (hzb : IsI zb) (hb : IsI b) (hr : IsI r) (w : World) :
    Calls Try.prog 28 #[.agg #[.int .i64 z, .int .i64 zb, .int .i64 b, .int .i64 r]] w fun e w' => e = .returned (.bool (decide (Rt z zb b r))) ∧ Below w.heap.size w w' := by
  obtain ⟨hz1, hz2⟩ := hz
  obtain ⟨hzb1, hzb2⟩ := hzb
  obtain ⟨hb1, hb2⟩ := hb
  obtain ⟨hr1, hr2⟩ := hr
  have hA := Aside0.mk (alloc_below w (.cells #[.int .i64 z, .int .i64 zb, .int .i64 b, .int .i64 r] 23))
  by_cases h1 : 6 ≤ z ∧ z ≤ 256 ∧ 8 ≤ zb ∧ zb ≤ 4096
  · obtain ⟨a1, a2, a3, a4⟩ := h1
    by_cases h2 : 64 ≤ b ∧ b ≤ 4096
    · obtain ⟨a5, a6⟩ := h2
      have hc := and_code b a5 a6
      by_cases h3 : Pow b
      · rw [decide_eq_true h3] at hc
        by_cases h4 : 2 ≤ r
        · by_cases h5 : r ≤ z - 4
          · have hR := Aside0.mk (decide_eq_true (show Rt z zb b r from ⟨a1, a2, a3, a4, h3, h4, h5⟩))
            clear h3
            go_enter Try.func28, Try.ntmps28
            go_wp2
            go_ret
            exact ⟨by rw [hR.out]; simp [h4, h5], hA.out⟩
          · have hR := Aside0.mk (decide_eq_false (show ¬ Rt z zb b r from fun h => h5 h.2.2.2.2.2.2))
            clear h3
            go_enter Try.func28, Try.ntmps28
            go_wp2
            go_ret
            exact ⟨by rw [hR.out]; simp [h4, h5], hA.out⟩
        · have hR := Aside0.mk (decide_eq_false (show ¬ Rt z zb b r from fun h => h4 h.2.2.2.2.2.1))
          clear h3
          go_enter Try.func28, Try.ntmps28
          go_wp2
          go_ret
          exact ⟨by rw [hR.out]; simp [h4], hA.out⟩
      · rw [decide_eq_false h3] at hc
        have hR := Aside0.mk (decide_eq_false (show ¬ Rt z zb b r from fun h => h3 h.2.2.2.2.1))
        clear h3
        go_enter Try.func28, Try.ntmps28
        go_wp2
        go_ret
        exact ⟨by rw [hR.out]; rfl, hA.out⟩
    · have hR := Aside0.mk (decide_eq_false (show ¬ Rt z zb b r from fun h => h2 (by have := h.2.2.2.2.1; unfold Pow at this; omega)))
      by_cases h3 : b < 64
      · go_enter Try.func28, Try.ntmps28
        go_wp2
        go_ret
        exact ⟨by rw [hR.out]; rfl, hA.out⟩
      · have h4 : 4096 < b := by omega
        go_enter Try.func28, Try.ntmps28
        go_wp2
        go_ret
        exact ⟨by rw [hR.out]; rfl, hA.out⟩
  · have hR := Aside0.mk (decide_eq_false (show ¬ Rt z zb b r from fun h => h1 ⟨h.1, h.2.1, h.2.2.1, h.2.2.2.1⟩))
    have h1' := Aside0.mk h1
    clear h1
    go_enter Try.func28, Try.ntmps28
    go_wp2
    all_goals
      first
        | (go_ret; exact ⟨by rw [hR.out]; rfl, hA.out⟩)
        | (exfalso; have := h1'.out; omega)

theorem ref_right_calls (z zb b r : Int) (hz : IsI z) (hzb : IsI zb) (hb : IsI b) (hr : IsI r) (w : World) :
    Calls Try.prog 29 #[.agg #[.int .i64 z, .int .i64 zb, .int .i64 b, .int .i64 r]] w fun e w' => e = .returned (.bool (decide (Rt z zb b r))) ∧ Below w.heap.size w w' := by
  obtain ⟨hz1, hz2⟩ := hz
  obtain ⟨hzb1, hzb2⟩ := hzb
  obtain ⟨hb1, hb2⟩ := hb
  obtain ⟨hr1, hr2⟩ := hr
  have hA := Aside0.mk (alloc_below w (.cells #[.int .i64 z, .int .i64 zb, .int .i64 b, .int .i64 r] 23))
  have hP : pOf b 7 = decide (Pow b) := by
    rw [show pOf b 7 = (((((((64 : Int) == b) || ((128 : Int) == b)) || ((256 : Int) == b)) || ((512 : Int) == b)) || ((1024 : Int) == b)) || ((2048 : Int) == b) || ((4096 : Int) == b)) from rfl, Bool.eq_iff_iff]
    simp only [Bool.or_eq_true, beq_iff_eq, decide_eq_true_eq]
    unfold Pow
    omega
  have HP := Aside0.mk hP
  clear hP
  go_enter Try.func29, Try.ntmps29
  go_wp2
  have hb0 : (w.alloc (.cells #[.int .i64 z, .int .i64 zb, .int .i64 b, .int .i64 r] 23)).cell? ⟨w.heap.size, 2, none⟩ = some (.int .i64 b) := by go_simp
  have hb0' : (w.alloc (.cells #[.int .i64 z, .int .i64 zb, .int .i64 b, .int .i64 r] 23)).cell? ⟨w.heap.size, 0, none⟩ = some (.int .i64 z) := by go_simp
  have hb0'' : (w.alloc (.cells #[.int .i64 z, .int .i64 zb, .int .i64 b, .int .i64 r] 23)).cell? ⟨w.heap.size, 1, none⟩ = some (.int .i64 zb) := by go_simp
  have hb0r : (w.alloc (.cells #[.int .i64 z, .int .i64 zb, .int .i64 b, .int .i64 r] 23)).cell? ⟨w.heap.size, 3, none⟩ = some (.int .i64 r) := by go_simp
  generalize w.alloc (.cells #[.int .i64 z, .int .i64 zb, .int .i64 b, .int .i64 r] 23) = W at *
  go_loopg [3, 4] 7 (fun k v3 v4 wr => ∃ (j : Nat) (p : Bool) (x : Int), v3 = .bool p ∧ v4 = .int .i64 x ∧ Aside0 (k + j = 7 ∧ p = pOf b j ∧ x = pw j) ∧ wr = W)
  case atStart => exact ⟨0, false, 64, rfl, rfl, ⟨rfl, rfl, rfl⟩, rfl⟩
  case round =>
    obtain ⟨j, p, x, rfl, rfl, HJ, rfl⟩ := hrel
    by_cases h7 : j = 7
    · have hx : x = 8192 := by rw [HJ.out.2.2, h7]; rfl
      subst hx
      have hp : p = decide (Pow b) := by rw [HJ.out.2.1, h7]; exact HP.out
      subst hp
      by_cases a1 : 6 ≤ z
      · by_cases a2 : z ≤ 256
        · by_cases a3 : 8 ≤ zb
          · by_cases a4 : zb ≤ 4096
            · by_cases h3 : Pow b
              · rw [decide_eq_true h3]
                by_cases h4 : 2 ≤ r
                · have hR := Aside0.mk (show decide (r ≤ z - 4) = decide (Rt z zb b r) from by
                    rw [decide_eq_decide]; exact ⟨fun h => ⟨a1, a2, a3, a4, h3, h4, h⟩, fun h => h.2.2.2.2.2.2⟩)
                  clear h3
                  go_wp2
                  go_ret
                  exact ⟨by rw [← hR.out]; simp [a1, a2, a3, a4, h4], hA.out⟩
                · have hR := Aside0.mk (decide_eq_false (show ¬ Rt z zb b r from fun h => h4 h.2.2.2.2.2.1))
                  clear h3
                  go_wp2
                  go_ret
                  exact ⟨by rw [hR.out]; simp [h4], hA.out⟩
              · rw [decide_eq_false h3]
                have hR := Aside0.mk (decide_eq_false (show ¬ Rt z zb b r from fun h => h3 h.2.2.2.2.1))
                clear h3
                go_wp2
                go_ret
                exact ⟨by rw [hR.out]; simp, hA.out⟩
            · have hR := Aside0.mk (decide_eq_false (show ¬ Rt z zb b r from fun h => a4 h.2.2.2.1))
              go_wp2
              go_ret
              exact ⟨by rw [hR.out]; simp [a4], hA.out⟩
          · have hR := Aside0.mk (decide_eq_false (show ¬ Rt z zb b r from fun h => a3 h.2.2.1))
            go_wp2
            go_ret
            exact ⟨by rw [hR.out]; simp [a3], hA.out⟩
        · have hR := Aside0.mk (decide_eq_false (show ¬ Rt z zb b r from fun h => a2 h.2.1))
          go_wp2
          go_ret
          exact ⟨by rw [hR.out]; simp [a2], hA.out⟩
      · have hR := Aside0.mk (decide_eq_false (show ¬ Rt z zb b r from fun h => a1 h.1))
        go_wp2
        go_ret
        exact ⟨by rw [hR.out]; simp [a1], hA.out⟩
    · have hx : x ≤ 4096 ∧ 0 ≤ x := by
        rw [HJ.out.2.2]
        have h1 := HJ.out.1
        have : j = 0 ∨ j = 1 ∨ j = 2 ∨ j = 3 ∨ j = 4 ∨ j = 5 ∨ j = 6 := by omega
        rcases this with rfl | rfl | rfl | rfl | rfl | rfl | rfl <;> decide
      obtain ⟨hx1, hx2⟩ := hx
      cases p with
      | true =>
        go_wp2
        go_roundg (gk - 1)
        case measure => have := HJ.out.1; omega
        case rel => exact ⟨j + 1, true, 2 * x, rfl, rfl, ⟨by have := HJ.out.1; omega, by rw [pOf, ← HJ.out.2.1]; rfl, by rw [pw, HJ.out.2.2]⟩, rfl⟩
      | false =>
        go_wp2
        go_roundg (gk - 1)
        case measure => have := HJ.out.1; omega
        case rel => exact ⟨j + 1, _, 2 * x, rfl, rfl, ⟨by have := HJ.out.1; omega, by rw [pOf, ← HJ.out.2.1, ← HJ.out.2.2]; rfl, by rw [pw, HJ.out.2.2]⟩, rfl⟩

/-- A shape, as a kind. -/
def shK : Kd (Int × Int × Int × Int) := Kd.pair (num .i64) (Kd.pair (num .i64) (Kd.pair (num .i64) (num .i64)))
theorem opn_shape : Opn Try.prog 23 shK :=
  Opn.struct Try.underlying23 (by kernel_rfl) (OpnFs.cons rfl (by kernel_rfl) (Opn.num Try.underlying3) (OpnFs.cons rfl (by kernel_rfl) (Opn.num Try.underlying3)
    (OpnFs.cons rfl (by kernel_rfl) (Opn.num Try.underlying3) (OpnFs.last rfl (by kernel_rfl) (Opn.num Try.underlying3)))))
theorem open_shape {H : Type} {enc : TypeId × Value → H} {W : World} {r : Reach} {b0 base : Nat} {sp : Nat → Bool} {held : Bool} {v : Value} {x : DataW H} {p : List MemPlace}
    (hv : Value.okWide Try.prog W r b0 23 v) (h : DataW.Trod enc Try.prog W base sp held 23 v x p) :
    ∃ s : Int × Int × Int × Int, v = .agg #[.int .i64 s.1, .int .i64 s.2.1, .int .i64 s.2.2.1, .int .i64 s.2.2.2] ∧ IsI s.1 ∧ IsI s.2.1 ∧ IsI s.2.2.1 ∧ IsI s.2.2.2 := by
  obtain ⟨s, cs, rfl, hK⟩ := open_agg_kd Try.underlying23 opn_shape hv h
  obtain ⟨c0, c1, hc, ⟨rfl, h0⟩, c2, c3, rfl, ⟨rfl, h1⟩, c4, c5, rfl, ⟨rfl, h2⟩, ⟨rfl, h3⟩⟩ := hK
  refine ⟨s, ?_, wf_i64 h0, wf_i64 h1, wf_i64 h2, wf_i64 h3⟩
  rw [← Array.toArray_toList (xs := cs), hc]
  rfl
end Go.Proofs.Ytmkjglnggkkpeaa.Shp
