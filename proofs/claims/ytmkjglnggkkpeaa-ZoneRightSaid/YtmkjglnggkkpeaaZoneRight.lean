/- ZoneRight walks whole. -/
import Derived.Test.YtmkjglnggkkpeaaKnown
namespace Go.Proofs.Ytmkjglnggkkpeaa.Dv
open Go.RowKit Go.Proofs.YtmkjglnggkkpeaaW.PrintWords Go.Proofs.YtmkjglnggkkpeaaW.PrintMore Go.Proofs.Ytmkjglnggkkpeaa.Base Go.Proofs.Ytmkjglnggkkpeaa.Shp
set_option linter.unusedVariables false
set_option linter.unusedSimpArgs false
theorem open_bad (z zb b r : Int) (hz : IsI z) (hzb : IsI zb) (hb : IsI b) (hr : IsI r) (hrt : ¬ Rt z zb b r) (A : Option Addr) (n c : Nat) (w : World) :
    Calls Try.prog 30 #[.agg #[.int .i64 z, .int .i64 zb, .int .i64 b, .int .i64 r], .slice A n c] w
      fun e w' => e = .returned (.pointer none) ∧ Below w.heap.size w w' := by
  have HA := Aside0.mk (alloc_below w (.cells #[.int .i64 z, .int .i64 zb, .int .i64 b, .int .i64 r] 23))
  have HRT := Aside0.mk hrt
  clear hrt
  go_enter Try.func30, Try.ntmps30
  go_wp2_with fail
  refine (new_calls z zb b r hz hzb hb hr _).mono ?_
  rintro e w1 ⟨hcase, hw1⟩
  rcases hcase with ⟨_, rfl⟩ | ⟨hr, _⟩
  · have HB := Aside0.mk (below_go HA.out hw1)
    clear hw1
    go_wp2
    go_ret
    exact ⟨rfl, HB.out⟩
  · exact absurd hr HRT.out
theorem zright_walk (w : World) (s : Int × Int × Int × Int) (hs : IsI s.1 ∧ IsI s.2.1 ∧ IsI s.2.2.1 ∧ IsI s.2.2.2) :
    Calls Try.prog 7 #[.agg #[.int .i64 s.1, .int .i64 s.2.1, .int .i64 s.2.2.1, .int .i64 s.2.2.2]] w fun e w' => e = .returned (.bool true) ∧ Below w.heap.size w w' := by
  obtain ⟨z, zb, b, r⟩ := s
  obtain ⟨hz, hzb, hb, hr⟩ := hs
  dsimp only at hz hzb hb hr ⊢
  have hA := alloc_below w (.cells #[.int .i64 z, .int .i64 zb, .int .i64 b, .int .i64 r] 23)
  have d0 : (w.alloc (.cells #[.int .i64 z, .int .i64 zb, .int .i64 b, .int .i64 r] 23)).cell? ⟨w.heap.size, 0, none⟩ = some (.int .i64 z) := by go_simp
  have d1 : (w.alloc (.cells #[.int .i64 z, .int .i64 zb, .int .i64 b, .int .i64 r] 23)).cell? ⟨w.heap.size, 1, none⟩ = some (.int .i64 zb) := by go_simp
  have d2 : (w.alloc (.cells #[.int .i64 z, .int .i64 zb, .int .i64 b, .int .i64 r] 23)).cell? ⟨w.heap.size, 2, none⟩ = some (.int .i64 b) := by go_simp
  have d3 : (w.alloc (.cells #[.int .i64 z, .int .i64 zb, .int .i64 b, .int .i64 r] 23)).cell? ⟨w.heap.size, 3, none⟩ = some (.int .i64 r) := by go_simp
  have HZ := Aside0.mk hz
  have HZB := Aside0.mk hzb
  have HBB := Aside0.mk hb
  have HR := Aside0.mk hr
  have HA := Aside0.mk hA
  clear hz hzb hb hr hA
  go_enter Try.func7, Try.ntmps7
  go_wp2_with fail
  obtain ⟨W, hW⟩ : ∃ W, (w.alloc (.cells #[.int .i64 z, .int .i64 zb, .int .i64 b, .int .i64 r] 23)) = W := ⟨_, rfl⟩
  obtain ⟨g, hg⟩ : ∃ g, w.heap.size = g := ⟨_, rfl⟩
  rw [hW] at d0 d1 d2 d3 HA ⊢
  rw [hg] at d0 d1 d2 d3 ⊢
  clear hW hg
  refine (right_calls z zb b r HZ.out HZB.out HBB.out HR.out _).mono ?_
  rintro e w1 ⟨rfl, hw1⟩
  have d0 := pw_cell_below hw1 d0
  have d1 := pw_cell_below hw1 d1
  have d2 := pw_cell_below hw1 d2
  have d3 := pw_cell_below hw1 d3
  have HA := Aside0.mk (below_go HA.out hw1)
  clear hw1
  go_wp2_with fail
  refine (ref_right_calls z zb b r HZ.out HZB.out HBB.out HR.out _).mono ?_
  rintro e w2 ⟨rfl, hw2⟩
  have d0 := pw_cell_below hw2 d0
  have d1 := pw_cell_below hw2 d1
  have d2 := pw_cell_below hw2 d2
  have d3 := pw_cell_below hw2 d3
  have HA := Aside0.mk (below_go HA.out hw2)
  clear hw2
  by_cases hrt : Rt z zb b r
  · rw [decide_eq_true hrt]
    have HRT := Aside0.mk hrt
    clear hrt
    go_wp2_with fail
    refine (known_calls _).mono ?_
    rintro e w3 ⟨rfl, hw3⟩
    have HA := Aside0.mk (below_go HA.out hw3)
    clear hw3
    go_wp2
    go_ret
    exact ⟨rfl, HA.out⟩
  · rw [decide_eq_false hrt]
    have HRT := Aside0.mk hrt
    clear hrt
    go_wp2_with fail
    refine (known_calls _).mono ?_
    rintro e w3 ⟨rfl, hw3⟩
    have HA := Aside0.mk (below_go HA.out hw3)
    have d0 := pw_cell_below hw3 d0
    have d1 := pw_cell_below hw3 d1
    have d2 := pw_cell_below hw3 d2
    have d3 := pw_cell_below hw3 d3
    clear hw3
    go_wp2_with fail
    refine (new_calls z zb b r HZ.out HZB.out HBB.out HR.out _).mono ?_
    rintro e w4 ⟨hcase, hw4⟩
    rcases hcase with ⟨_, rfl⟩ | ⟨hr, _⟩
    · have HA := Aside0.mk (below_go HA.out hw4)
      have d0 := pw_cell_below hw4 d0
      have d1 := pw_cell_below hw4 d1
      have d2 := pw_cell_below hw4 d2
      have d3 := pw_cell_below hw4 d3
      clear hw4
      go_wp2_with fail
      refine (open_bad z zb b r HZ.out HZB.out HBB.out HR.out HRT.out none 0 0 _).mono ?_
      rintro e w5 ⟨rfl, hw5⟩
      have HA := Aside0.mk (below_go HA.out hw5)
      clear hw5
      go_wp2
      go_ret
      exact ⟨rfl, HA.out⟩
    · exact absurd hr HRT.out
end Go.Proofs.Ytmkjglnggkkpeaa.Dv
