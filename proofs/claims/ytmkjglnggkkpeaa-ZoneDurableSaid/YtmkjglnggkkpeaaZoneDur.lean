/- What a crash leaves of a zone: plain law. -/
import Derived.Test.YtmkjglnggkkpeaaZoneDoes
namespace Go.Proofs.Ytmkjglnggkkpeaa.Dv
open Go.RowKit Go.Proofs.YtmkjglnggkkpeaaW.PrintWords Go.Proofs.YtmkjglnggkkpeaaW.PrintMore Go.Proofs.Ytmkjglnggkkpeaa.Base Go.Proofs.Ytmkjglnggkkpeaa.Shp
set_option linter.unusedVariables false
set_option linter.unusedSimpArgs false
theorem front_at {b m : Nat} {x : List UInt8} (hm : m ≤ b) (hx : x.length = b) (j : Nat) : (front b m x).getD j 0 = if j < m then x.getD j 0 else 0 := by
  unfold front
  have hl : (x.take m).length = m := by rw [List.length_take]; omega
  by_cases h : j < m
  · rw [if_pos h, List.getD_eq_getElem?_getD, List.getElem?_append_left (by omega), List.getElem?_take_of_lt h, ← List.getD_eq_getElem?_getD]
  · rw [if_neg h, List.getD_eq_getElem?_getD, List.getElem?_append_right (by omega), hl, List.getElem?_replicate]
    split <;> rfl
theorem front_all {b : Nat} {x : List UInt8} (hx : x.length = b) : front b b x = x := by
  unfold front
  rw [List.take_of_length_le (by omega), Nat.sub_self, List.replicate_zero, List.append_nil]
/-- A block behind a crash: a front of what was there, then noughts; all of it where it was durable or is not the last. -/
def DurB (b : Nat) (du : Int) (n k : Nat) (a x : List UInt8) : Prop := ∃ m, m ≤ b ∧ a = front b m x ∧ (m < b → du ≤ (k : Int) ∧ n ≤ k + 1)
theorem dur_zone {b : Nat} {xs : List (List UInt8)} (hx : ∀ x ∈ xs, x.length = b) {du keep torn : Int} (h0 : 0 ≤ du) (h1 : du ≤ ((xs.length : Nat) : Int)) {ys : List (List UInt8)} (hy : rstay b du keep torn xs.length xs = ys) :
    (du ≤ ((ys.length : Nat) : Int) ∧ ys.length ≤ xs.length) ∧ ∀ k, k < ys.length → DurB b du ys.length k (ys.getD k []) (xs.getD k []) := by
  have hm : 0 ≤ mx keep 0 := by unfold mx; split <;> omega
  obtain ⟨K, hK⟩ : ∃ K : Nat, du + mx keep 0 = (K : Int) := ⟨(du + mx keep 0).toNat, by omega⟩
  rw [rstay_eq h0 xs _ (Nat.le_refl _), hK, Int.toNat_natCast] at hy
  have hlt : (xs.take (min K xs.length)).length = min K xs.length := by rw [List.length_take]; omega
  by_cases hc : K < xs.length ∧ 0 < torn
  · rw [if_pos hc] at hy
    have hyl : ys.length = K + 1 := by rw [← hy, List.length_append, hlt, List.length_singleton]; omega
    refine ⟨by omega, fun k hk => ?_⟩
    by_cases h : k < K
    · have he : ys.getD k [] = xs.getD k [] := by
        rw [← hy, List.getD_eq_getElem?_getD, List.getElem?_append_left (by omega), List.getElem?_take_of_lt (by omega), ← List.getD_eq_getElem?_getD]
      rw [he]
      refine ⟨b, Nat.le_refl _, (front_all ?_).symm, fun h => by omega⟩
      rw [List.getD_eq_getElem?_getD, List.getElem?_eq_getElem (show k < xs.length by omega)]
      exact hx _ (List.getElem_mem _)
    · obtain rfl : k = K := by omega
      have he : ys.getD k [] = front b (mn (b : Int) torn).toNat (xs.getD k []) := by
        rw [← hy, List.getD_eq_getElem?_getD, List.getElem?_append_right (by omega), hlt, show k - min k xs.length = 0 by omega]
        rfl
      exact ⟨_, mn_le torn, he, fun _ => by omega⟩
  · rw [if_neg hc, List.append_nil] at hy
    have hyl : ys.length = min K xs.length := by rw [← hy, hlt]
    refine ⟨by omega, fun k hk => ?_⟩
    have he : ys.getD k [] = xs.getD k [] := by
      rw [← hy, List.getD_eq_getElem?_getD, List.getElem?_take_of_lt (by omega), ← List.getD_eq_getElem?_getD]
    rw [he]
    refine ⟨b, Nat.le_refl _, (front_all ?_).symm, fun h => by omega⟩
    rw [List.getD_eq_getElem?_getD, List.getElem?_eq_getElem (show k < xs.length by omega)]
    exact hx _ (List.getElem_mem _)
theorem mapIdx_getD {ls : List (Int × Int)} {b : Nat} {zs : List Zn} {i : Nat} (hi : i < zs.length) {p : Zn} (hp : zs.getD i ([], 0) = p) : (zs.mapIdx (rcrashF b ls)).getD i ([], 0) = rcrashF b ls i p := by
  rw [List.getD_eq_getElem?_getD, List.getElem?_mapIdx, List.getElem?_eq_getElem hi]
  rw [List.getD_eq_getElem?_getD, List.getElem?_eq_getElem hi] at hp
  have hp' : zs[i] = p := hp
  rw [hp']
  rfl
/-- Behind a difference: noughts. -/
theorem DurB.nought {b n k : Nat} {du : Int} {a x : List UInt8} (h : DurB b du n k a x) (hx : x.length = b) {q : Nat} (hq : q < b) (hne : a.getD q 0 ≠ x.getD q 0) : (du ≤ (k : Int) ∧ n ≤ k + 1) ∧ ∀ j, q ≤ j → a.getD j 0 = 0 := by
  obtain ⟨m, hm, rfl, h2⟩ := h
  have hmq : m ≤ q := by
    apply Nat.le_of_not_lt
    intro hlt
    rw [front_at hm hx, if_pos hlt] at hne
    exact hne rfl
  exact ⟨h2 (by omega), fun j hj => by rw [front_at hm hx, if_neg (by omega)]⟩
theorem DurB.len {b n k : Nat} {du : Int} {a x : List UInt8} (h : DurB b du n k a x) (hx : x.length = b) : a.length = b := by
  obtain ⟨m, hm, rfl, _⟩ := h
  exact front_len hm (by omega)
end Go.Proofs.Ytmkjglnggkkpeaa.Dv
