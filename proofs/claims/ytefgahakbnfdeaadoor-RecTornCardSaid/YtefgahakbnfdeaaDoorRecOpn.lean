/- How a record and an item that came in open. -/
import Derived.Test.YtefgahakbnfdeaaDoorRecUtil
import Derived.WideShapes
namespace Go.Proofs.YtefgahakbnfdeaaDoor.Rc
open Go.RowKit Go.Proofs.YtefgahakbnfdeaaDoorW.PrintWords Go.Proofs.YtefgahakbnfdeaaDoorW.PrintMore Go.Proofs.YtefgahakbnfdeaaDoor.Base
set_option linter.unusedVariables false
set_option linter.unusedSimpArgs false
theorem open_cap {H : Type} {enc : TypeId × Value → H} {P : Program} {t e : TypeId} (ht : P.underlying t = some (.slice e)) {W : World} {base : Nat} {sp : Nat → Bool} {held : Bool} {a : Option Addr} {len cap : Nat} {x : DataW H} {p : List MemPlace}
    (h : DataW.Trod enc P W base sp held t (.slice a len cap) x p) : cap ≤ 9223372036854775807 := by
  obtain ⟨fuel, hf⟩ := h
  rcases Go.Deep.open_slice ht hf with ⟨h1, _⟩ | ⟨a', len', cap', m, n, D, Pl, h1, _, _, hm, _⟩
  · simp [Value.cells] at h1
    omega
  · simp [Value.cells] at h1
    simp only [maxLen] at hm
    omega
theorem opn_itm : Opn Tryd.prog 26 itK :=
  Opn.struct Tryd.underlying26 (by kernel_rfl) (OpnFs.cons rfl (by kernel_rfl) (Opn.nat Tryd.underlying22 (fun n h => (wf_u32' h).1)) (OpnFs.cons rfl (by kernel_rfl) (Opn.nat Tryd.underlying23 (fun n h => (wf_u64' h).1))
    (OpnFs.cons rfl (by kernel_rfl) (Opn.nat Tryd.underlying5 (fun n h => (wf_u8 h).1)) (OpnFs.cons rfl (by kernel_rfl) (Opn.nat Tryd.underlying22 (fun n h => (wf_u32' h).1)) (OpnFs.last rfl (by kernel_rfl) (Opn.nat Tryd.underlying24 (fun n h => (wf_u16' h).1)))))))
def recK : Kd (Nat × List Itm) := Kd.pair (nat .u64) (Kd.slice 26 itK)
theorem opn_rec : Opn Tryd.prog 35 recK :=
  Opn.struct Tryd.underlying35 (by kernel_rfl) (OpnFs.cons rfl (by kernel_rfl) (Opn.nat Tryd.underlying23 (fun n h => (wf_u64' h).1)) (OpnFs.last rfl (by kernel_rfl) (Opn.slice Tryd.underlying33 (by kernel_rfl) opn_itm)))
def RecArg (W : World) (s : Nat × List Itm × Option Addr × Nat × Nat) : Prop := s.1 < 18446744073709551616 ∧ itK.C W s.2.2.1 s.2.2.2.1 s.2.1
theorem open_rec {H : Type} {enc : TypeId × Value → H} {W : World} {r : Reach} {b0 base : Nat} {sp : Nat → Bool} {held : Bool} {v : Value} {x : DataW H} {p : List MemPlace}
    (hv : Value.okWide Tryd.prog W r b0 35 v) (h : DataW.Trod enc Tryd.prog W base sp held 35 v x p) :
    ∃ s : Nat × List Itm × Option Addr × Nat × Nat, v = .agg #[.int .u64 (s.1 : Int), .slice s.2.2.1 s.2.2.2.1 s.2.2.2.2] ∧ RecArg W s := by
  obtain ⟨s, cs, rfl, hK⟩ := open_agg_kd Tryd.underlying35 opn_rec hv h
  obtain ⟨c0, c1, hc, ⟨rfl, h0⟩, A, c, rfl, hl, hC⟩ := hK
  refine ⟨(s.1, s.2, A, s.2.length, c), ?_, by have := wf_u64' h0; dsimp only; omega, hC⟩
  rw [← Array.toArray_toList (xs := cs), hc]
  rfl
theorem open_itm {H : Type} {enc : TypeId × Value → H} {W : World} {r : Reach} {b0 base : Nat} {sp : Nat → Bool} {held : Bool} {v : Value} {x : DataW H} {p : List MemPlace}
    (hv : Value.okWide Tryd.prog W r b0 26 v) (h : DataW.Trod enc Tryd.prog W base sp held 26 v x p) :
    ∃ s : Itm, v = .agg (itV s) ∧ ItmOk s := by
  obtain ⟨s, cs, rfl, hK⟩ := open_agg_kd Tryd.underlying26 opn_itm hv h
  obtain ⟨hc, ho⟩ := itK_open hK
  refine ⟨s, ?_, ho⟩
  rw [← Array.toArray_toList (xs := cs), hc]
end Go.Proofs.YtefgahakbnfdeaaDoor.Rc
