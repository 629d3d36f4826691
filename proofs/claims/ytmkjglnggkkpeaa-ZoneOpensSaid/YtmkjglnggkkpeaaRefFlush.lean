/- Flush, Read of the document's device. -/
import Derived.Test.YtmkjglnggkkpeaaRefOps
namespace Go.Proofs.Ytmkjglnggkkpeaa.Dv
open Go.RowKit Go.Proofs.YtmkjglnggkkpeaaW.PrintWords Go.Proofs.YtmkjglnggkkpeaaW.PrintMore Go.Proofs.Ytmkjglnggkkpeaa.Base Go.Proofs.Ytmkjglnggkkpeaa.Shp
set_option linter.unusedVariables false
set_option linter.unusedSimpArgs false
/-- The first i elements turned by F. -/
def zupto (F : Nat → Zn → Zn) (i : Nat) (ps : List Zn) : List Zn := (ps.take i).mapIdx F ++ ps.drop i
theorem zupto_len (F : Nat → Zn → Zn) (i : Nat) (ps : List Zn) : (zupto F i ps).length = ps.length := by
  unfold zupto; rw [List.length_append, List.length_mapIdx, List.length_take, List.length_drop]; omega
theorem zupto_zero (F : Nat → Zn → Zn) (ps : List Zn) : zupto F 0 ps = ps := rfl
theorem zupto_all (F : Nat → Zn → Zn) (ps : List Zn) : zupto F ps.length ps = ps.mapIdx F := by
  unfold zupto; rw [List.take_length, List.drop_length, List.append_nil]
theorem zupto_getD (F : Nat → Zn → Zn) {i : Nat} {ps : List Zn} (d : Zn) : (zupto F i ps).getD i d = ps.getD i d := by
  unfold zupto
  rcases Nat.lt_or_ge i ps.length with h | h
  · rw [List.getD_eq_getElem?_getD, List.getD_eq_getElem?_getD, List.getElem?_append_right (by rw [List.length_mapIdx, List.length_take]; omega), List.getElem?_drop]
    congr 2
    rw [List.length_mapIdx, List.length_take]; omega
  · rw [List.getD_eq_getElem?_getD, List.getD_eq_getElem?_getD, List.getElem?_eq_none (by have := zupto_len F i ps; unfold zupto at this; omega), List.getElem?_eq_none h]
theorem zupto_set (F : Nat → Zn → Zn) {i : Nat} {ps : List Zn} (h : i < ps.length) (d : Zn) : (zupto F i ps).set i (F i (ps.getD i d)) = zupto F (i + 1) ps := by
  unfold zupto
  have hl : ((ps.take i).mapIdx F).length = i := by rw [List.length_mapIdx, List.length_take]; omega
  rw [List.set_append_right _ _ (by omega), hl, Nat.sub_self, List.take_succ_eq_append_getElem h, List.mapIdx_append, List.append_assoc, List.drop_eq_getElem_cons h, List.set_cons_zero, List.length_take, show min i ps.length = i by omega, List.getD_eq_getElem?_getD, List.getElem?_eq_getElem h]
  simp
def rfluF (_ : Nat) (p : Zn) : Zn := (p.1, ((p.1.length : Nat) : Int))
set_option maxHeartbeats 4000000 in
theorem rflush_calls (rb base : Nat) (ok : Nat → Prop) (z zb b r : Int) (zs : List Zn) (v : Value) (w : World) (h : RDv w rb base ok z zb b r zs v) :
    Calls Try.prog 38 #[.pointer (some ⟨rb, 0, none⟩)] w fun e w' => e = .returned (.tuple #[]) ∧ RDv w' rb base ok z zb b r (zs.mapIdx rfluF) v ∧ Chg w w' ok := by
  have HD := Aside0.mk h
  obtain ⟨A, m, cp, rfl, hm, hmc, hmm⟩ := h.form
  have HM := Aside0.mk hm
  clear h hm
  go_enter Try.func38, Try.ntmps38
  go_wp2
  go_loopg [2] m (fun g v2 wr => ∃ i : Nat, v2 = .int .i64 (i : Int) ∧ i ≤ m ∧ Aside0 (g + i = m) ∧ Aside0 (RDv wr rb base ok z zb b r (zupto rfluF i zs) (.slice A m cp) ∧ Chg w wr ok))
  case atStart => exact ⟨0, rfl, by omega, ⟨rfl⟩, ⟨by rw [zupto_zero]; exact HD.out, Chg.refl _ _⟩⟩
  case round =>
    obtain ⟨i, rfl, hi, HK, HS⟩ := hrel
    obtain ⟨-, -, -, -, k4⟩ := HS.out.1.cells
    by_cases hlt : i < m
    · obtain ⟨p, hp⟩ : ∃ p, zs.getD i ([], 0) = p := ⟨_, rfl⟩
      obtain ⟨ad, cp', B, k, hv, c0, c1, hk, hI, hF, f0, f1, hoa, hax, hal, -, hdu, -⟩ := HS.out.1.zone (j := i) (by rw [zupto_len, ← HM.out]; exact hlt) ((zupto_getD _ _).trans hp)
      obtain ⟨rfl, rfl⟩ : A = some ad ∧ cp = cp' := by simp only [Value.slice.injEq] at hv; exact ⟨hv.1, hv.2.2⟩
      have hpm := (C_len (Kd.F_now hF)).2
      have hab : (ad.add (i * 2)).block = ad.block := add_block _ _
      have HDU := Aside0.mk (hdu ((p.1.length : Nat) : Int) ⟨by omega, by omega⟩)
      have HP := Aside0.mk hp
      have HAB := Aside0.mk hab
      have HO := Aside0.mk hoa
      have hlt' : (i : Int) < (m : Int) := by omega
      have hi0 : (0 : Int) ≤ (i : Int) := by omega
      clear hp hv hI hF hdu hab hoa hax hal hk f0
      go_wp2
      go_region
      all_goals
        clear k4 c0 c1 f1
        go_wp2
        go_roundg (gk - 1)
        case measure => have := HK.out; omega
        case rel =>
          refine ⟨i + 1, by congr 1, by omega, ⟨by have := HK.out; omega⟩, ⟨?_, (HS.out.2.set (.inl (by show ok (ad.add (i * 2)).block; rw [HAB.out]; exact HO.out)) _).below (below_drew (Below.refl _ _))⟩⟩
          have := HDU.out
          rw [show ((p.1, ((p.1.length : Nat) : Int)) : Zn) = rfluF i (zs.getD i ([], 0)) by rw [HP.out]; rfl, zupto_set _ (by rw [← HM.out]; exact hlt)] at this
          exact this.below (below_drew (Below.refl _ _))
    · obtain rfl : i = m := by omega
      go_wp2
      go_returns
      exact ⟨rfl, by rw [← zupto_all, ← HM.out]; exact HS.out.1, HS.out.2⟩
end Go.Proofs.Ytmkjglnggkkpeaa.Dv
