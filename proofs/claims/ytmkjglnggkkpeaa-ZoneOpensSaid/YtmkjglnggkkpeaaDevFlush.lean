/- Flush of a device. -/
import Derived.Test.YtmkjglnggkkpeaaDevBlock
namespace Go.Proofs.Ytmkjglnggkkpeaa.Dv
open Go.RowKit Go.Proofs.YtmkjglnggkkpeaaW.PrintWords Go.Proofs.YtmkjglnggkkpeaaW.PrintMore Go.Proofs.Ytmkjglnggkkpeaa.Base Go.Proofs.Ytmkjglnggkkpeaa.Shp
set_option linter.unusedVariables false
set_option linter.unusedSimpArgs false
/-- The first i parts turned by F. -/
def upto (F : Nat → Prt → Prt) (i : Nat) (ps : List Prt) : List Prt := (ps.take i).mapIdx F ++ ps.drop i
theorem upto_len (F : Nat → Prt → Prt) (i : Nat) (ps : List Prt) : (upto F i ps).length = ps.length := by
  unfold upto; rw [List.length_append, List.length_mapIdx, List.length_take, List.length_drop]; omega
theorem upto_zero (F : Nat → Prt → Prt) (ps : List Prt) : upto F 0 ps = ps := rfl
theorem upto_all (F : Nat → Prt → Prt) (ps : List Prt) : upto F ps.length ps = ps.mapIdx F := by
  unfold upto; rw [List.take_length, List.drop_length, List.append_nil]
theorem upto_getD (F : Nat → Prt → Prt) {i : Nat} {ps : List Prt} (d : Prt) : (upto F i ps).getD i d = ps.getD i d := by
  unfold upto
  rcases Nat.lt_or_ge i ps.length with h | h
  · rw [List.getD_eq_getElem?_getD, List.getD_eq_getElem?_getD, List.getElem?_append_right (by rw [List.length_mapIdx, List.length_take]; omega), List.getElem?_drop]
    congr 2
    rw [List.length_mapIdx, List.length_take]; omega
  · rw [List.getD_eq_getElem?_getD, List.getD_eq_getElem?_getD, List.getElem?_eq_none (by have := upto_len F i ps; unfold upto at this; omega), List.getElem?_eq_none h]
theorem upto_set (F : Nat → Prt → Prt) {i : Nat} {ps : List Prt} (h : i < ps.length) (d : Prt) : (upto F i ps).set i (F i (ps.getD i d)) = upto F (i + 1) ps := by
  unfold upto
  have hl : ((ps.take i).mapIdx F).length = i := by rw [List.length_mapIdx, List.length_take]; omega
  rw [List.set_append_right _ _ (by omega), hl, Nat.sub_self, List.take_succ_eq_append_getElem h, List.mapIdx_append, List.append_assoc, List.drop_eq_getElem_cons h, List.set_cons_zero, List.length_take, show min i ps.length = i by omega, List.getD_eq_getElem?_getD, List.getElem?_eq_getElem h]
  simp
/-- All is there for good. -/
def fluF (b : Int) (_ : Nat) (p : Prt) : Prt := (p.1, (p.1.length : Int) / b)
theorem pw_frozen_below {w w' : World} (h : Below w.heap.size w w') {p : Addr} (hp : p.block < w.heap.size) {x : Bool} (hc : w.frozen? p = x) : w'.frozen? p = x := by rw [h.frozen hp]; exact hc
/-- How many are durable is written. -/
theorem Dev.lasts {w : World} {xb base : Nat} {ok : Nat → Prop} {z zb b r : Int} {ps : List Prt} {ad : Addr} {n cp : Nat} (h : Dev w xb base ok z zb b r ps (.slice (some ad) n cp)) {j : Nat} (hj : j < ps.length) {p : Prt} (hp : ps.getD j ([], 0) = p) {d : Int} (hd : IsI d) :
    Dev (w.setCell ⟨(ad.add (j * 2)).block, (ad.add (j * 2)).off + 1, none⟩ (.int .i64 d)) xb base ok z zb b r (ps.set j (p.1, d)) (.slice (some ad) n cp) := by
  obtain ⟨ad', cp', B, k, oki, hv, c0, c1, hk, hI, hB, f0, f1, hoa, hax, hal, hR, hoki, -, hdu⟩ := h.part (j := j) hj hp
  obtain ⟨rfl, rfl, rfl⟩ : ad = ad' ∧ n = ps.length ∧ cp = cp' := by simp only [Value.slice.injEq, Option.some.injEq] at hv; exact hv
  exact ⟨blk_far h.blk (by show xb ≠ (ad.add (j * 2)).block; rw [add_block]; exact hax.symm) _, (hdu d hd).1⟩
set_option maxHeartbeats 4000000 in
theorem flush_calls (xb base : Nat) (ok : Nat → Prop) (z zb b r : Int) (hb1 : 0 < b) (hb2 : b ≤ 9223372036854775807) (ps : List Prt) (v : Value) (w : World) (h : Dev w xb base ok z zb b r ps v) :
    Calls Try.prog 33 #[.pointer (some ⟨xb, 0, none⟩)] w fun e w' => e = .returned (.tuple #[]) ∧ Dev w' xb base ok z zb b r (ps.mapIdx (fluF b)) v ∧ Chg w w' ok := by
  have HD := Aside0.mk h
  obtain ⟨-, -, -, -, k4⟩ := h.cells
  obtain ⟨A, m, cp, rfl, hm, hmc, -, hmm⟩ := h.form
  have HM := Aside0.mk hm
  clear h hm
  go_enter Try.func33, Try.ntmps33
  go_wp2
  clear k4
  go_loopg [2, 8] m (fun g v2 v8 wr => ∃ i : Nat, v8 = .int .i64 (i : Int) ∧ i ≤ m ∧ Aside0 (g + i = m) ∧ Aside0 (Dev wr xb base ok z zb b r (upto (fluF b) i ps) (.slice A m cp) ∧ Chg w wr ok))
  case atStart => exact ⟨0, rfl, by omega, ⟨rfl⟩, ⟨by rw [upto_zero]; exact HD.out, Chg.refl _ _⟩⟩
  case round =>
    obtain ⟨i, rfl, hi, HK, HS⟩ := hrel
    by_cases hlt : i < m
    · obtain ⟨p, hp⟩ : ∃ p, ps.getD i ([], 0) = p := ⟨_, rfl⟩
      have HD1 := Aside0.mk HS.out.1
      obtain ⟨-, -, -, -, k4⟩ := HD1.out.cells
      obtain ⟨ad, cp', B, k, oki, hv, c0, c1, hk, hI, hB, f0, f1, hoa, hax, hal, hR, hoki, -, hdu⟩ := HD1.out.part (j := i) (by rw [upto_len, ← HM.out]; exact hlt) ((upto_getD _ _).trans hp)
      obtain ⟨rfl, rfl⟩ : A = some ad ∧ cp = cp' := by simp only [Value.slice.injEq] at hv; exact ⟨hv.1, hv.2.2⟩
      have hpm := (C_len hB).2
      have hab : (ad.add (i * 2)).block = ad.block := add_block _ _
      have hfl : (⟨(ad.add (i * 2)).block, (ad.add (i * 2)).off + 1, none⟩ : Addr).block < wr.heap.size := by show (ad.add (i * 2)).block < _; rw [hab]; exact hal
      have HFL := Aside0.mk hfl
      have HP := Aside0.mk hp
      have HAB := Aside0.mk hab
      have HO := Aside0.mk hoa
      have HX := Aside0.mk hax
      clear hp hv hB hI hR hoki hdu hab hoa hax hal hfl f0 hk
      go_wp2
      go_region_with (go_at_call 35; go_loud (refine (count_calls xb base ok z zb b r hb1 hb2 _ _ B p.1.length k hpm p.2 _ (HD1.out.below (below_drew (Below.refl _ _)))).mono ?_; rintro e w8 ⟨rfl, hw8⟩); go_loud (have k4' := pw_cell_below hw8 k4; have c1' := pw_cell_below hw8 c1; have f1' := pw_frozen_below (w := wr.drew) (p := ⟨(ad.add (i * 2)).block, (ad.add (i * 2)).off + 1, none⟩) hw8 HFL.out f1))
      all_goals
        have HD8 := Aside0.mk (HD1.out.below (Below.trans (below_drew (Below.refl _ _)) hw8))
        have HC8 := Aside0.mk (HS.out.2.below (Below.trans (below_drew (Below.refl _ _)) hw8))
        have HLE := Aside0.mk (show wr.heap.size ≤ w8.heap.size from hw8.size)
        clear k4 c0 c1 f1 k4' c1' f1' hw8
        go_wp2
        go_roundg (gk - 1)
        case measure => have := HK.out; omega
        case rel =>
          refine ⟨i + 1, by congr 1, by omega, ⟨by have := HK.out; omega⟩, ⟨?_, HC8.out.set (.inl (by show ok (ad.add (i * 2)).block; rw [HAB.out]; exact HO.out)) _⟩⟩
          have := HD8.out.lasts (j := i) (by rw [upto_len, ← HM.out]; exact hlt) ((upto_getD _ _).trans HP.out) (d := (p.1.length : Int) / b) ⟨by have := Int.ediv_nonneg (show 0 ≤ (p.1.length : Int) by omega) (show 0 ≤ b by omega); omega, by have := Int.ediv_le_self b (show 0 ≤ (p.1.length : Int) by omega); omega⟩
          rw [show ((p.1, (p.1.length : Int) / b) : Prt) = fluF b i (ps.getD i ([], 0)) by rw [HP.out]; rfl, upto_set _ (by rw [← HM.out]; exact hlt)] at this
          exact this
    · obtain rfl : i = m := by omega
      go_wp2
      go_returns
      exact ⟨rfl, by rw [← upto_all, ← HM.out]; exact HS.out.1, HS.out.2⟩
end Go.Proofs.Ytmkjglnggkkpeaa.Dv
