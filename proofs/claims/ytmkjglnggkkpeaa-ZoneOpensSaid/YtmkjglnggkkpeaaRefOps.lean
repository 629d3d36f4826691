/- Reset, At, Flush of the document's device. -/
import Derived.Test.YtmkjglnggkkpeaaRefNew
namespace Go.Proofs.Ytmkjglnggkkpeaa.Dv
open Go.RowKit Go.Proofs.YtmkjglnggkkpeaaW.PrintWords Go.Proofs.YtmkjglnggkkpeaaW.PrintMore Go.Proofs.Ytmkjglnggkkpeaa.Base Go.Proofs.Ytmkjglnggkkpeaa.Shp
set_option linter.unusedVariables false
set_option linter.unusedSimpArgs false
def RResR (zs : List Zn) (i : Int) (e : Ending) (zs' : List Zn) : Prop := (hasB zs.length i = false ∧ e = .returned (.int .i64 100) ∧ zs' = zs) ∨ (hasB zs.length i = true ∧ e = .returned (.int .i64 0) ∧ zs' = zs.set i.toNat ([], 0))
theorem F_nil (w : World) (ok : Nat → Prop) : Kd.F bytesK w ok none ([] : List (List UInt8)).length [] := fun W' _ => ⟨rfl, by simp, fun h => by simp at h⟩
set_option maxHeartbeats 1000000 in
theorem rreset_calls (rb base : Nat) (ok : Nat → Prop) (z zb b r : Int) (zs : List Zn) (v : Value) (i : Int) (hi : IsI i) (w : World) (h : RDv w rb base ok z zb b r zs v) :
    Calls Try.prog 39 #[.pointer (some ⟨rb, 0, none⟩), .int .i64 i] w fun e w' => ∃ zs', RResR zs i e zs' ∧ RDv w' rb base ok z zb b r zs' v ∧ Chg w w' ok := by
  have HD := Aside0.mk h
  obtain ⟨hi1, hi2⟩ := hi
  obtain ⟨-, -, -, -, k4⟩ := h.cells
  obtain ⟨A, m, cp, rfl, hm, hmc, hmm⟩ := h.form
  have HM := Aside0.mk hm
  clear h hm
  by_cases h0 : 0 ≤ i
  · by_cases h1 : i < (m : Int)
    · have HH := Aside0.mk (show hasB zs.length i = true from hasB_true h0 (by rw [← HM.out]; exact h1))
      obtain ⟨j, rfl⟩ : ∃ j : Nat, i = (j : Int) := ⟨i.toNat, by omega⟩
      obtain ⟨p, hp⟩ : ∃ p, zs.getD j ([], 0) = p := ⟨_, rfl⟩
      obtain ⟨ad, cp', B, k, hv, c0, c1, hk, hI, hF, f0, f1, hoa, hax, hal, -, -, hput⟩ := HD.out.zone (j := j) (by rw [← HM.out]; omega) hp
      obtain ⟨rfl, rfl⟩ : A = some ad ∧ cp = cp' := by simp only [Value.slice.injEq] at hv; exact ⟨hv.1, hv.2.2⟩
      have HPUT := Aside0.mk (hput w none 0 [] 0 (fun _ => False) (Below.refl _ _) ⟨by omega, by omega⟩ (F_nil _ _) (Nat.le_refl _) (fun _ h => h.elim))
      have hn1 : ad.add (j * 2) ≠ ⟨(ad.add (j * 2)).block, (ad.add (j * 2)).off + 1, none⟩ := fun e => by have := congrArg Addr.off e; simp at this
      have hn2 := hn1.symm
      have HO := Aside0.mk hoa
      have hd1 : decide ((j : Int) < 0) = false := decide_eq_false (by omega)
      have hd2 : decide ((m : Int) ≤ (j : Int)) = false := decide_eq_false (by omega)
      have hd3 : decide (m ≤ j) = false := decide_eq_false (by omega)
      clear hp hv hI hF hoa hax hal hput hk
      go_enter Try.func39, Try.ntmps39
      go_wp2
      go_ret
      have hab : (ad.add (j * 2)).block = ad.block := add_block _ _
      exact ⟨zs.set j ([], 0), .inr ⟨HH.out, rfl, by rw [Int.toNat_natCast]⟩, HPUT.out, ((Chg.refl _ _).set (.inl (by rw [hab]; exact HO.out)) _).set (.inl (by show ok (ad.add (j * 2)).block; rw [hab]; exact HO.out)) _⟩
    · have HH := Aside0.mk (show hasB zs.length i = false from hasB_false (fun h => h1 (by rw [HM.out]; exact h.2)))
      have hd1 : decide (i < 0) = false := decide_eq_false (by omega)
      have hd2 : decide ((m : Int) ≤ i) = true := decide_eq_true (by omega)
      go_enter Try.func39, Try.ntmps39
      go_wp2
      go_ret
      exact ⟨zs, .inl ⟨HH.out, rfl, rfl⟩, HD.out, Chg.refl _ _⟩
  · have HH := Aside0.mk (show hasB zs.length i = false from hasB_false (fun h => h0 h.1))
    have hd1 : decide (i < 0) = true := decide_eq_true (by omega)
    go_enter Try.func39, Try.ntmps39
    go_wp2
    go_ret
    exact ⟨zs, .inl ⟨HH.out, rfl, rfl⟩, HD.out, Chg.refl _ _⟩
def RAtR (zs : List Zn) (i : Int) (e : Ending) : Prop := (hasB zs.length i = false ∧ e = .returned (.tuple #[.int .i64 0, .int .i64 0])) ∨ (hasB zs.length i = true ∧ e = .returned (.tuple #[.int .i64 (((zs.getD i.toNat ([], 0)).1.length : Nat) : Int), .int .i64 (zs.getD i.toNat ([], 0)).2]))
set_option maxHeartbeats 1000000 in
theorem rat_calls (rb base : Nat) (ok : Nat → Prop) (z zb b r : Int) (zs : List Zn) (v : Value) (i : Int) (hi : IsI i) (w : World) (h : RDv w rb base ok z zb b r zs v) :
    Calls Try.prog 26 #[.pointer (some ⟨rb, 0, none⟩), .int .i64 i] w fun e w' => RAtR zs i e ∧ Below w.heap.size w w' := by
  have HD := Aside0.mk h
  obtain ⟨hi1, hi2⟩ := hi
  obtain ⟨-, -, -, -, k4⟩ := h.cells
  obtain ⟨A, m, cp, rfl, hm, hmc, hmm⟩ := h.form
  have HM := Aside0.mk hm
  clear h hm
  by_cases h0 : 0 ≤ i
  · by_cases h1 : i < (m : Int)
    · have HH := Aside0.mk (show hasB zs.length i = true from hasB_true h0 (by rw [← HM.out]; exact h1))
      obtain ⟨j, rfl⟩ : ∃ j : Nat, i = (j : Int) := ⟨i.toNat, by omega⟩
      obtain ⟨p, hp⟩ : ∃ p, zs.getD j ([], 0) = p := ⟨_, rfl⟩
      obtain ⟨ad, cp', B, k, hv, c0, c1, hk, hI, hF, -, -, -, -, -, -, -, -⟩ := HD.out.zone (j := j) (by rw [← HM.out]; omega) hp
      obtain ⟨rfl, rfl⟩ : A = some ad ∧ cp = cp' := by simp only [Value.slice.injEq] at hv; exact ⟨hv.1, hv.2.2⟩
      have hpm := (C_len (Kd.F_now hF)).2
      have HP := Aside0.mk hp
      have hd1 : decide ((j : Int) < 0) = false := decide_eq_false (by omega)
      have hd2 : decide ((m : Int) ≤ (j : Int)) = false := decide_eq_false (by omega)
      have hd3 : decide (m ≤ j) = false := decide_eq_false (by omega)
      clear hp hv hI hF hk
      go_enter Try.func26, Try.ntmps26
      go_wp2
      go_quiet (fail)
      have HB := Aside0.mk (pw_below_drewN (Below.refl w.heap.size w) nq)
      go_wp2
      go_ret2
      exact ⟨.inr ⟨HH.out, by rw [Int.toNat_natCast, HP.out]; rfl⟩, HB.out⟩
    · have HH := Aside0.mk (show hasB zs.length i = false from hasB_false (fun h => h1 (by rw [HM.out]; exact h.2)))
      have hd1 : decide (i < 0) = false := decide_eq_false (by omega)
      have hd2 : decide ((m : Int) ≤ i) = true := decide_eq_true (by omega)
      go_enter Try.func26, Try.ntmps26
      go_wp2
      go_ret2
      exact ⟨.inl ⟨HH.out, rfl⟩, Below.refl _ _⟩
  · have HH := Aside0.mk (show hasB zs.length i = false from hasB_false (fun h => h0 h.1))
    have hd1 : decide (i < 0) = true := decide_eq_true (by omega)
    go_enter Try.func26, Try.ntmps26
    go_wp2
    go_ret2
    exact ⟨.inl ⟨HH.out, rfl⟩, Below.refl _ _⟩
end Go.Proofs.Ytmkjglnggkkpeaa.Dv
