/- A shape in its box; numbers of a shape. -/
import Derived.Test.YtmkjglnggkkpeaaReadsMem
import Derived.Deep.DeepCutAuto
namespace Go.Proofs.Ytmkjglnggkkpeaa.Dv
open Go.RowKit Go.Proofs.YtmkjglnggkkpeaaW.PrintWords Go.Proofs.YtmkjglnggkkpeaaW.PrintMore Go.Proofs.Ytmkjglnggkkpeaa.Base Go.Proofs.Ytmkjglnggkkpeaa.Shp
set_option linter.unusedVariables false
set_option linter.unusedSimpArgs false
/-- A shape in its box. -/
structure Box (w : World) (g : Nat) (z zb b r : Int) : Prop where
  d0 : w.cell? ⟨g, 0, none⟩ = some (.int .i64 z)
  d1 : w.cell? ⟨g, 1, none⟩ = some (.int .i64 zb)
  d2 : w.cell? ⟨g, 2, none⟩ = some (.int .i64 b)
  d3 : w.cell? ⟨g, 3, none⟩ = some (.int .i64 r)
theorem Box.below {w w1 : World} {g : Nat} {z zb b r : Int} (h : Box w g z zb b r) (hb : Below w.heap.size w w1) : Box w1 g z zb b r := ⟨pw_cell_below hb h.d0, pw_cell_below hb h.d1, pw_cell_below hb h.d2, pw_cell_below hb h.d3⟩
theorem Box.new (w : World) (z zb b r : Int) : Box (w.alloc (.cells #[.int .i64 z, .int .i64 zb, .int .i64 b, .int .i64 r] 23)) w.heap.size z zb b r := ⟨by go_simp, by go_simp, by go_simp, by go_simp⟩
theorem small_rt {z zb b r : Int} (hrt : Rt z zb b r) : ∃ (zn zbn bn : Nat), z = (zn : Int) ∧ zb = (zbn : Int) ∧ b = (bn : Int) ∧ 6 ≤ zn ∧ zn ≤ 256 ∧ zbn ≤ 4096 ∧ 64 ≤ bn ∧ bn ≤ 4096 := by
  obtain ⟨h1, h2, h3, h4, h5, _, _⟩ := hrt
  obtain ⟨p1, p2⟩ := pow_rng h5
  exact ⟨z.toNat, zb.toNat, b.toNat, by omega, by omega, by omega, by omega, by omega, by omega, by omega, by omega⟩
theorem Box.belowB {w w1 : World} {g B : Nat} {z zb b r : Int} (h : Box w g z zb b r) (hb : Below B w w1) (hg : g < B) : Box w1 g z zb b r :=
  ⟨by rw [hb.cell hg]; exact h.d0, by rw [hb.cell hg]; exact h.d1, by rw [hb.cell hg]; exact h.d2, by rw [hb.cell hg]; exact h.d3⟩
end Go.Proofs.Ytmkjglnggkkpeaa.Dv
