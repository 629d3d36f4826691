/- Clone, Block, SameBytes, Small; Read of a device. -/
import Derived.Test.YtmkjglnggkkpeaaDevApp
namespace Go.Proofs.Ytmkjglnggkkpeaa.Dv
open Go.RowKit Go.Proofs.YtmkjglnggkkpeaaW.PrintWords Go.Proofs.YtmkjglnggkkpeaaW.PrintMore Go.Proofs.Ytmkjglnggkkpeaa.Base Go.Proofs.Ytmkjglnggkkpeaa.Shp
set_option linter.unusedVariables false
set_option linter.unusedSimpArgs false

theorem own_empty (w : World) (base : Nat) (hb : base ≤ w.heap.size) : Own (w.alloc (.cells #[] 5)) base (.slice (some ⟨w.heap.size, 0, none⟩) 0 0) [] :=
  ⟨fun _ _ => trivial, [], ⟨rfl, .inr ⟨w.heap.size, 0, #[], rfl, hb, heap_alloc_new w _, Nat.le_refl _, Nat.zero_le _, rfl, rfl⟩⟩, rfl, fun j p hj => by simp at hj⟩
set_option maxRecDepth 100000 in
theorem clone_calls (A : Option Addr) (n cap : Nat) (xs : List UInt8) (hn : n ≤ 140737488355328) (w : World) (h : byte.C w A n xs) :
    Calls Try.prog 36 #[.slice A n cap] w fun e w' => ∃ v, e = .returned v ∧ Own w' w.heap.size v xs ∧ Below w.heap.size w w' := by
  have H := Aside0.mk h
  have hnil : ∀ (c : Nat) (W : World), (binOp .eql 32 (.slice none 0 c) (.slice none 0 0)).run Try.prog W = .ok (.bool true) W := fun _ _ => by kernel_rfl
  have hnot : ∀ (a : Addr) (m c : Nat) (W : World), (binOp .eql 32 (.slice (some a) m c) (.slice none 0 0)).run Try.prog W = .ok (.bool false) W := fun _ _ _ _ => by kernel_rfl
  cases A with
  | none =>
    have hn0 : n = 0 := by
      rcases Nat.eq_zero_or_pos n with h0 | h0
      · exact h0
      · obtain ⟨ad, he, _⟩ := h.2.2 h0
        cases he
    subst hn0
    have hx : xs = [] := List.eq_nil_of_length_eq_zero h.1
    subst hx
    clear h
    go_enter Try.func36, Try.ntmps36
    go_wp2
    go_ret
    exact ⟨_, rfl, Own.nil _ _, Below.refl _ _⟩
  | some ad =>
    have HC := Aside0.mk (Kd.C_below h (alloc_below w (.cells #[] 5)))
    have HO := Aside0.mk (own_empty w w.heap.size (Nat.le_refl _))
    have HB := Aside0.mk (alloc_below w (.cells #[] 5))
    clear h
    go_enter Try.func36, Try.ntmps36
    go_wp2_with (at_builtin; go_loud (refine app_row (w0 := w) w.heap.size (.tmp 5) (.tmp 6) rfl rfl _ [] xs (some ad) n cap rfl rfl HO.out HC.out HB.out (by simp) (by simp; omega) ?_); intro v1 w1 hO hB _; have HO1 := Aside0.mk hO; have HB1 := Aside0.mk hB; clear hO hB)
    go_ret
    exact ⟨_, rfl, HO1.out, HB1.out⟩
theorem small_calls (z zb b r : Int) (hz : IsI z) (hzb : IsI zb) (hb : IsI b) (hr : IsI r) (w : World) :
    Calls Try.prog 10 #[.agg #[.int .i64 z, .int .i64 zb, .int .i64 b, .int .i64 r]] w
      fun e w' => e = .returned (.bool (decide (z ≤ 12) && decide (zb ≤ 16) && decide (b ≤ 128))) ∧ Below w.heap.size w w' := by
  have hA := Aside0.mk (alloc_below w (.cells #[.int .i64 z, .int .i64 zb, .int .i64 b, .int .i64 r] 23))
  cases h1 : decide (z ≤ 12) <;> cases h2 : decide (zb ≤ 16) <;> cases h3 : decide (b ≤ 128)
  all_goals
    go_enter Try.func10, Try.ntmps10
    go_wp2
    go_ret
    exact ⟨rfl, hA.out⟩
end Go.Proofs.Ytmkjglnggkkpeaa.Dv
