/- The document's zones and the device's parts: one is the other, laid flat. Plain lists. -/
import Derived.Test.YtmkjglnggkkpeaaRefCrash
namespace Go.Proofs.Ytmkjglnggkkpeaa.Dv
open Go.Proofs.YtmkjglnggkkpeaaW.PrintWords Go.Proofs.YtmkjglnggkkpeaaW.PrintMore Go.Proofs.Ytmkjglnggkkpeaa.Base Go.Proofs.Ytmkjglnggkkpeaa.Shp
set_option linter.unusedVariables false
def flat (z : Zn) : Prt := (z.1.flatten, z.2)
/-- How zones are. -/
def ZInv (b zb : Nat) (zs : List Zn) : Prop := ∀ p ∈ zs, (0 ≤ p.2 ∧ p.2 ≤ ((p.1.length : Nat) : Int)) ∧ p.1.length ≤ zb ∧ ∀ x ∈ p.1, x.length = b
theorem flat_len {b : Nat} : ∀ {xs : List (List UInt8)}, (∀ x ∈ xs, x.length = b) → xs.flatten.length = xs.length * b
  | [], _ => by simp
  | x :: xs, h => by
    rw [List.flatten_cons, List.length_append, flat_len (fun y hy => h y (List.mem_cons_of_mem _ hy)), h x (List.mem_cons_self ..), List.length_cons, Nat.succ_mul, Nat.add_comm]
theorem flat_take {b : Nat} : ∀ {xs : List (List UInt8)} (k : Nat), (∀ x ∈ xs, x.length = b) → xs.flatten.take (k * b) = (xs.take k).flatten
  | [], k, _ => by simp
  | x :: xs, 0, h => by simp
  | x :: xs, k + 1, h => by
    have hx := h x (List.mem_cons_self ..)
    rw [List.flatten_cons, List.take_succ_cons, List.flatten_cons, List.take_append, hx, Nat.succ_mul, Nat.add_sub_cancel, flat_take k (fun y hy => h y (List.mem_cons_of_mem _ hy)), List.take_of_length_le (by omega)]
theorem flat_drop {b : Nat} : ∀ {xs : List (List UInt8)} (k : Nat), (∀ x ∈ xs, x.length = b) → xs.flatten.drop (k * b) = (xs.drop k).flatten
  | [], k, _ => by simp
  | x :: xs, 0, h => by simp
  | x :: xs, k + 1, h => by
    have hx := h x (List.mem_cons_self ..)
    rw [List.flatten_cons, List.drop_succ_cons, List.drop_append, hx, Nat.succ_mul, Nat.add_sub_cancel, flat_drop k (fun y hy => h y (List.mem_cons_of_mem _ hy)), List.drop_of_length_le (by omega), List.nil_append]
theorem flat_get {b : Nat} {xs : List (List UInt8)} {k : Nat} (hk : k < xs.length) (h : ∀ x ∈ xs, x.length = b) : (xs.flatten.drop (k * b)).take b = xs.getD k [] := by
  rw [flat_drop k h, List.drop_eq_getElem_cons hk, List.flatten_cons, List.take_append_of_le_length (by rw [h _ (List.getElem_mem hk)]; exact Nat.le_refl _), List.take_of_length_le (by rw [h _ (List.getElem_mem hk)]; exact Nat.le_refl _), List.getD_eq_getElem?_getD, List.getElem?_eq_getElem hk]
  rfl
section
variable {b zb : Nat} {zs : List Zn}
theorem map_getD (zs : List Zn) (i : Nat) : (zs.map flat).getD i ([], 0) = flat (zs.getD i ([], 0)) := by
  rw [List.getD_eq_getElem?_getD, List.getD_eq_getElem?_getD, List.getElem?_map]
  cases zs[i]? <;> rfl
theorem ZInv.get (h : ZInv b zb zs) {i : Nat} (hi : i < zs.length) : (0 ≤ (zs.getD i ([], 0)).2 ∧ (zs.getD i ([], 0)).2 ≤ (((zs.getD i ([], 0)).1.length : Nat) : Int)) ∧ (zs.getD i ([], 0)).1.length ≤ zb ∧ ∀ x ∈ (zs.getD i ([], 0)).1, x.length = b := by
  rw [List.getD_eq_getElem?_getD, List.getElem?_eq_getElem hi]; exact h _ (List.getElem_mem _)
theorem ZInv.set (h : ZInv b zb zs) (i : Nat) {p : Zn} (hp : (0 ≤ p.2 ∧ p.2 ≤ ((p.1.length : Nat) : Int)) ∧ p.1.length ≤ zb ∧ ∀ x ∈ p.1, x.length = b) : ZInv b zb (zs.set i p) := by
  intro q hq
  rcases List.mem_or_eq_of_mem_set hq with hq | rfl
  · exact h q hq
  · exact hp
theorem flat_count (hb : 0 < b) {p : Zn} (h : ∀ x ∈ p.1, x.length = b) : (flat p).1.length / b = p.1.length := by
  show p.1.flatten.length / b = _
  rw [flat_len h, Nat.mul_div_cancel _ hb]
theorem flat_countI (hb : 0 < b) {p : Zn} (h : ∀ x ∈ p.1, x.length = b) : ((flat p).1.length : Int) / (b : Int) = ((p.1.length : Nat) : Int) := by
  rw [← flat_count hb h]; exact (Int.natCast_ediv _ _).symm
theorem ZInv.fit (hb : 0 < b) (hb2 : b ≤ 4096) (hz : zb ≤ 4096) (h : ZInv b zb zs) : Fit b (zs.map flat) := by
  intro p hp
  obtain ⟨q, hq, rfl⟩ := List.mem_map.1 hp
  obtain ⟨⟨h1, h2⟩, h3, h4⟩ := h q hq
  refine ⟨h1, ?_, ?_⟩
  · rw [flat_count hb h4]; exact h2
  · show q.1.flatten.length ≤ _
    rw [flat_len h4]
    have : q.1.length * b ≤ 4096 * 4096 := Nat.mul_le_mul (by omega) hb2
    omega
theorem ZInv.rfit (hz : zb ≤ 4096) (h : ZInv b zb zs) : RFit b zs := fun p hp => by
  obtain ⟨⟨h1, h2⟩, h3, h4⟩ := h p hp
  exact ⟨h1, h2, by omega, h4⟩
theorem flat_app (i : Nat) (p : Zn) (xs : List UInt8) : (zs.set i (p.1 ++ [xs], p.2)).map flat = (zs.map flat).set i ((flat p).1 ++ xs, (flat p).2) := by
  rw [List.map_set]
  congr 1
  unfold flat
  simp
theorem flat_reset (i : Nat) : (zs.set i ([], 0)).map flat = (zs.map flat).set i ([], 0) := by
  rw [List.map_set]; rfl
theorem flat_flush (hb : 0 < b) (h : ZInv b zb zs) : (zs.mapIdx rfluF).map flat = (zs.map flat).mapIdx (fluF (b : Int)) := by
  apply List.ext_getElem?
  intro i
  rw [List.getElem?_map, List.getElem?_mapIdx, List.getElem?_mapIdx, List.getElem?_map]
  cases he : zs[i]? with
  | none => rfl
  | some p =>
    have hp := (h p (List.mem_of_getElem? he)).2.2
    show some (flat (rfluF i p)) = some (fluF b i (flat p))
    congr 1
    unfold rfluF fluF
    rw [flat_countI hb hp]
    rfl
theorem inv_flush (h : ZInv b zb zs) : ZInv b zb (zs.mapIdx rfluF) := by
  intro p hp
  obtain ⟨i, hi, rfl⟩ := List.mem_mapIdx.1 hp
  obtain ⟨_, h3, h4⟩ := h _ (List.getElem_mem hi)
  exact ⟨⟨by simp [rfluF], by simp [rfluF]⟩, h3, h4⟩
/-- What stays: whole blocks, then a torn one. -/
theorem rstay_eq {b : Nat} {du keep torn : Int} (hd : 0 ≤ du) (xs : List (List UInt8)) : ∀ k, k ≤ xs.length →
    rstay b du keep torn k xs = xs.take (min (du + mx keep 0).toNat k) ++ if (du + mx keep 0).toNat < k ∧ 0 < torn then [front b (mn (b : Int) torn).toNat (xs.getD (du + mx keep 0).toNat [])] else []
  | 0, _ => by simp [rstay]
  | k + 1, hk => by
    have hm : 0 ≤ mx keep 0 := by unfold mx; split <;> omega
    obtain ⟨K, hK⟩ : ∃ K : Nat, du + mx keep 0 = (K : Int) := ⟨(du + mx keep 0).toNat, by omega⟩
    have ih := rstay_eq hd xs k (by omega) (torn := torn) (b := b) (keep := keep)
    rw [rstay, ih, rstep, hK, Int.toNat_natCast]
    have hc : ((k : Int) - du < 0 ∨ (k : Int) - du < keep) ↔ k < K := by
      unfold mx at hK
      split at hK <;> omega
    by_cases h1 : k < K
    · rw [if_pos (hc.2 h1), if_neg (by omega), if_neg (by omega), show min K k = k by omega, show min K (k + 1) = k + 1 by omega, List.append_nil, List.append_nil, List.take_succ_eq_append_getElem (by omega), List.getD_eq_getElem?_getD, List.getElem?_eq_getElem (by omega)]
      rfl
    · rw [if_neg (fun h => h1 (hc.1 h)), show min K (k + 1) = K by omega, show min K k = K by omega, List.append_assoc]
      congr 1
      by_cases h2 : k = K
      · subst h2
        rw [if_neg (by omega), List.nil_append]
        by_cases ht : 0 < torn
        · rw [if_pos ⟨by omega, ht⟩, if_pos ⟨by omega, ht⟩]
        · rw [if_neg (fun h => ht h.2), if_neg (fun h => ht h.2)]
      · rw [if_neg (show ¬ ((k : Int) - du = mx keep 0 ∧ 0 < torn) by omega), List.append_nil]
        by_cases ht : 0 < torn
        · rw [if_pos ⟨by omega, ht⟩, if_pos ⟨by omega, ht⟩]
        · rw [if_neg (fun h => ht h.2), if_neg (fun h => ht h.2)]
theorem stay_min {q du keep : Int} (h0 : 0 ≤ du) (h1 : du ≤ q) : stayF q du keep = mn (du + mx keep 0) q := by
  unfold stayF mn
  split <;> split <;> omega
theorem mn_comm (a c : Int) : mn a c = mn c a := by unfold mn; split <;> split <;> omega
theorem front_far {b m : Nat} {x rest : List UInt8} (h : m ≤ x.length) : front b m (x ++ rest) = front b m x := by
  unfold front; rw [List.take_append_of_le_length h]
theorem mn_le {b : Nat} (t : Int) : (mn (b : Int) t).toNat ≤ b := by unfold mn; split <;> omega
/-- A crash of a part is that of the zone. -/
theorem lost_flat (hb : 0 < b) {xs : List (List UInt8)} (hx : ∀ x ∈ xs, x.length = b) {du keep torn : Int} (h0 : 0 ≤ du) (h1 : du ≤ ((xs.length : Nat) : Int)) : lostB b xs.flatten du keep torn = (rstay b du keep torn xs.length xs).flatten := by
  have hl : xs.flatten.length / b = xs.length := by rw [flat_len hx, Nat.mul_div_cancel _ hb]
  have hm : 0 ≤ mx keep 0 := by unfold mx; split <;> omega
  obtain ⟨K, hK⟩ : ∃ K : Nat, du + mx keep 0 = (K : Int) := ⟨(du + mx keep 0).toNat, by omega⟩
  rw [rstay_eq h0 xs _ (Nat.le_refl _), hK, Int.toNat_natCast, lostB, hl, stay_min h0 h1, hK]
  have hmin : mn (K : Int) ((xs.length : Nat) : Int) = ((min K xs.length : Nat) : Int) := by unfold mn; split <;> omega
  rw [hmin, Int.toNat_natCast, flat_take _ hx, List.flatten_append]
  congr 1
  by_cases hc : K < xs.length ∧ 0 < torn
  · rw [if_pos hc, if_pos ⟨hc.2, by omega⟩, show min K xs.length = K by omega, flat_drop _ hx, List.drop_eq_getElem_cons hc.1, List.flatten_cons, mn_comm, front_far (by rw [hx _ (List.getElem_mem hc.1)]; exact mn_le torn), List.getD_eq_getElem?_getD, List.getElem?_eq_getElem hc.1]
    simp
  · rw [if_neg hc, if_neg (by omega)]
    rfl
theorem rstay_blocks {xs : List (List UInt8)} (hx : ∀ x ∈ xs, x.length = b) {du keep torn : Int} (h0 : 0 ≤ du) : ∀ x ∈ rstay b du keep torn xs.length xs, x.length = b := by
  intro x hxm
  rw [rstay_eq h0 xs _ (Nat.le_refl _)] at hxm
  rcases List.mem_append.1 hxm with h | h
  · exact hx x (List.mem_of_mem_take h)
  · split at h
    · rename_i hc
      rw [List.mem_singleton.1 h]
      refine front_len (mn_le torn) ?_
      have hq : (xs.getD (du + mx keep 0).toNat []).length = b := by
        rw [List.getD_eq_getElem?_getD, List.getElem?_eq_getElem hc.1]
        exact hx _ (List.getElem_mem hc.1)
      rw [hq]
      exact mn_le torn
    · simp at h
theorem inv_crash {ls : List (Int × Int)} (h : ZInv b zb zs) : ZInv b zb (zs.mapIdx (rcrashF b ls)) := by
  intro p hp
  obtain ⟨i, hi, rfl⟩ := List.mem_mapIdx.1 hp
  obtain ⟨⟨h1, h2⟩, h3, h4⟩ := h _ (List.getElem_mem hi)
  unfold rcrashF
  exact ⟨⟨by simp, by simp⟩, Nat.le_trans (rstay_len _ _ _ _ _ _) h3, rstay_blocks h4 h1⟩
theorem flat_crash (hb : 0 < b) {ls : List (Int × Int)} (h : ZInv b zb zs) : (zs.mapIdx (rcrashF b ls)).map flat = (zs.map flat).mapIdx (crashF b ls) := by
  apply List.ext_getElem?
  intro i
  rw [List.getElem?_map, List.getElem?_mapIdx, List.getElem?_mapIdx, List.getElem?_map]
  cases he : zs[i]? with
  | none => rfl
  | some p =>
    obtain ⟨⟨h1, h2⟩, h3, h4⟩ := h p (List.mem_of_getElem? he)
    show some (flat (rcrashF b ls i p)) = some (crashF b ls i (flat p))
    congr 1
    unfold crashF rcrashF flat
    dsimp only
    rw [lost_flat hb h4 h1 h2, flat_len (rstay_blocks h4 h1), Nat.mul_div_cancel _ hb]
end
end Go.Proofs.Ytmkjglnggkkpeaa.Dv
