/- A second crash loses nothing: plain law. -/
import Derived.Test.YtmkjglnggkkpeaaDoes
namespace Go.Proofs.Ytmkjglnggkkpeaa.Dv
open Go.Proofs.YtmkjglnggkkpeaaW.PrintWords Go.Proofs.YtmkjglnggkkpeaaW.PrintMore Go.Proofs.Ytmkjglnggkkpeaa.Base Go.Proofs.Ytmkjglnggkkpeaa.Shp
set_option linter.unusedVariables false
theorem rstay_all (b : Nat) (keep torn : Int) (xs : List (List UInt8)) : rstay b ((xs.length : Nat) : Int) keep torn xs.length xs = xs := by
  have hm : 0 ≤ mx keep 0 := by unfold mx; split <;> omega
  rw [rstay_eq (by omega) xs _ (Nat.le_refl _), if_neg (by omega), List.append_nil, List.take_of_length_le (by omega)]
theorem crash_twice {b : Nat} {la lb : List (Int × Int)} {zs : List Zn} : (zs.mapIdx (rcrashF b la)).mapIdx (rcrashF b lb) = zs.mapIdx (rcrashF b la) := by
  rw [List.mapIdx_mapIdx]
  apply List.ext_getElem?
  intro i
  rw [List.getElem?_mapIdx, List.getElem?_mapIdx]
  cases zs[i]? with
  | none => rfl
  | some p =>
    show some (rcrashF b lb i (rcrashF b la i p)) = some (rcrashF b la i p)
    congr 1
    obtain ⟨y, hy⟩ : ∃ y, rstay b p.2 (la.getD i (0, 0)).1 (la.getD i (0, 0)).2 p.1.length p.1 = y := ⟨_, rfl⟩
    unfold rcrashF
    rw [hy]
    dsimp only
    rw [rstay_all]
end Go.Proofs.Ytmkjglnggkkpeaa.Dv
