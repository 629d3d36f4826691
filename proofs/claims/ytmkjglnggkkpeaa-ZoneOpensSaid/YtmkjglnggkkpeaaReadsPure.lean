/- What is told of blocks that were appended: plain lists. -/
import Derived.Test.YtmkjglnggkkpeaaDevApp
namespace Go.Proofs.Ytmkjglnggkkpeaa.Dv
set_option linter.unusedVariables false
abbrev Pl := (Int × Int) × List UInt8
abbrev pt (ps : List Prt) (i : Int) : Prt := ps.getD i.toNat ([], 0)
def Good (b : Nat) (ps : List Prt) (q : Pl) : Prop :=
  (0 ≤ q.1.1 ∧ q.1.1 < (ps.length : Int)) ∧ (0 ≤ q.1.2 ∧ q.1.2 < ((pt ps q.1.1).1.length : Int) / (b : Int)) ∧ q.2 = ((pt ps q.1.1).1.drop (q.1.2 * (b : Int)).toNat).take b
/-- Zones hold whole blocks, not too many. -/
def Whole (b zb : Nat) (ps : List Prt) : Prop := ∀ p ∈ ps, ∃ c : Nat, c ≤ zb ∧ p.1.length = c * b
theorem Whole.get {b zb : Nat} {ps : List Prt} (h : Whole b zb ps) {i : Nat} (hi : i < ps.length) : ∃ c : Nat, c ≤ zb ∧ (ps.getD i ([], 0)).1.length = c * b := by
  rw [List.getD_eq_getElem?_getD, List.getElem?_eq_getElem hi]; exact h _ (List.getElem_mem _)
theorem Whole.set {b zb : Nat} {ps : List Prt} (h : Whole b zb ps) (i : Nat) {p : Prt} (hp : ∃ c : Nat, c ≤ zb ∧ p.1.length = c * b) : Whole b zb (ps.set i p) := by
  intro q hq
  rcases List.mem_or_eq_of_mem_set hq with hq | rfl
  · exact h q hq
  · exact hp
theorem Whole.small {b zb : Nat} {ps : List Prt} (h : Whole b zb ps) (hb : b ≤ 4096) (hz : zb ≤ 4096) : ∀ p ∈ ps, p.1.length ≤ 100000000 := by
  intro p hp
  obtain ⟨c, hc, hl⟩ := h p hp
  have : c * b ≤ 4096 * 4096 := Nat.mul_le_mul (by omega) hb
  omega
theorem set_get {ps : List Prt} {i : Nat} (hi : i < ps.length) (p : Prt) : (ps.set i p).getD i ([], 0) = p := by
  rw [List.getD_eq_getElem?_getD, List.getElem?_set_self hi]; rfl
theorem set_far {ps : List Prt} {i j : Nat} (h : i ≠ j) (p : Prt) : (ps.set i p).getD j ([], 0) = ps.getD j ([], 0) := by
  rw [List.getD_eq_getElem?_getD, List.getElem?_set_ne h, ← List.getD_eq_getElem?_getD]
theorem Good.room {b : Nat} {ps : List Prt} {q : Pl} (hb : 0 < b) (h : Good b ps q) : (q.1.2 * (b : Int)).toNat + b ≤ (pt ps q.1.1).1.length := by
  obtain ⟨_, ⟨h1, h2⟩, _⟩ := h
  have h3 : (q.1.2 + 1) * (b : Int) ≤ ((pt ps q.1.1).1.length : Int) := by
    have h4 : (q.1.2 + 1) * (b : Int) ≤ (((pt ps q.1.1).1.length : Int) / (b : Int)) * (b : Int) := Int.mul_le_mul_of_nonneg_right (by omega) (by omega)
    have h5 := Int.ediv_mul_le ((pt ps q.1.1).1.length : Int) (show (b : Int) ≠ 0 by omega)
    omega
  rw [Int.add_mul, Int.one_mul] at h3
  have h6 : 0 ≤ q.1.2 * (b : Int) := Int.mul_nonneg h1 (by omega)
  omega
theorem good_app {b : Nat} (hb : 0 < b) {ps : List Prt} {i : Int} {xs : List UInt8} {d : Int} {q : Pl} (h : Good b ps q) (hi : 0 ≤ i ∧ i < (ps.length : Int)) : Good b (ps.set i.toNat ((pt ps i).1 ++ xs, d)) q := by
  have hr := h.room hb
  obtain ⟨⟨a1, a2⟩, ⟨b1, b2⟩, h3⟩ := h
  refine ⟨⟨a1, by rw [List.length_set]; exact a2⟩, ?_⟩
  by_cases he : i.toNat = q.1.1.toNat
  · have hie : i = q.1.1 := by omega
    subst hie
    unfold pt at hr b2 h3 ⊢
    rw [set_get (by omega)]
    refine ⟨⟨b1, ?_⟩, ?_⟩
    · dsimp only
      have : (((ps.getD q.1.1.toNat ([], 0)).1.length : Int)) / (b : Int) ≤ ((((ps.getD q.1.1.toNat ([], 0)).1 ++ xs).length : Int)) / (b : Int) := Int.ediv_le_ediv (by omega) (by rw [List.length_append]; omega)
      omega
    · rw [h3]
      dsimp only
      rw [List.drop_append_of_le_length (by omega), List.take_append_of_le_length (by rw [List.length_drop]; omega)]
  · unfold pt at b2 h3 ⊢
    rw [set_far he]
    exact ⟨⟨b1, b2⟩, h3⟩
theorem good_new {b c : Nat} (hb : 0 < b) {ps : List Prt} {i : Int} {xs : List UInt8} {d : Int} (hi : 0 ≤ i ∧ i < (ps.length : Int)) (hl : (pt ps i).1.length = c * b) (hx : xs.length = b) : Good b (ps.set i.toNat ((pt ps i).1 ++ xs, d)) ((i, (c : Int)), xs) := by
  refine ⟨⟨hi.1, by rw [List.length_set]; exact hi.2⟩, ?_⟩
  unfold pt at hl ⊢
  rw [set_get (by omega)]
  dsimp only
  have e1 : ((c : Int) * (b : Int)).toNat = c * b := by rw [← Int.natCast_mul, Int.toNat_natCast]
  refine ⟨⟨by omega, ?_⟩, ?_⟩
  · rw [List.length_append, hl, hx, show ((c * b + b : Nat) : Int) = ((c + 1 : Nat) : Int) * (b : Int) by rw [← Int.natCast_mul, Nat.succ_mul], Int.mul_ediv_cancel _ (by omega)]
    omega
  · rw [e1, ← hl, List.drop_left, ← hx, List.take_length]
theorem good_reset {b : Nat} {ps : List Prt} {i : Int} {p : Prt} {q : Pl} (h : Good b ps q) (hi : 0 ≤ i) (hne : q.1.1 ≠ i) : Good b (ps.set i.toNat p) q := by
  obtain ⟨⟨a1, a2⟩, h2⟩ := h
  refine ⟨⟨a1, by rw [List.length_set]; exact a2⟩, ?_⟩
  unfold pt at h2 ⊢
  rw [set_far (by omega)]
  exact h2
open Go.Proofs.Ytmkjglnggkkpeaa.Base Go.Proofs.Ytmkjglnggkkpeaa.Shp in
theorem hasB_mem {n : Nat} {i : Int} (h : hasB n i = true) : 0 ≤ i ∧ i < (n : Int) := by
  unfold hasB at h
  exact of_decide_eq_true h
open Go.Proofs.Ytmkjglnggkkpeaa.Base Go.Proofs.Ytmkjglnggkkpeaa.Shp in
/-- What Append does to zones of whole blocks. -/
theorem app_cases {zb b : Nat} (hb : 0 < b) {ps ps' : List Prt} {i : Int} {xs : List UInt8} {e : Ending} (hw : Whole b zb ps) (hx : xs.length = b) (h : AppR (zb : Int) (b : Int) ps i xs e ps') :
    (∃ er : Int, (er = 100 ∨ er = 101) ∧ e = addrV 0 0 er ∧ ps' = ps) ∨
    (∃ c : Nat, c < zb ∧ (0 ≤ i ∧ i < (ps.length : Int)) ∧ (pt ps i).1.length = c * b ∧ e = addrV i (c : Int) 0 ∧ ps' = ps.set i.toNat ((pt ps i).1 ++ xs, (pt ps i).2)) := by
  rcases h with ⟨_, he, hp⟩ | ⟨_, _, _, he, hp⟩ | ⟨hh, _, hc, he, hp⟩
  · exact .inl ⟨100, .inl rfl, he, hp⟩
  · exact .inl ⟨101, .inr rfl, he, hp⟩
  · obtain ⟨h0, h1⟩ := hasB_mem hh
    obtain ⟨c, _, hl⟩ := hw.get (i := i.toNat) (by omega)
    have e1 : (((ps.getD i.toNat ([], 0)).1.length : Nat) : Int) / (b : Int) = (c : Int) := by rw [hl, Int.natCast_mul, Int.mul_ediv_cancel _ (by omega)]
    rw [e1] at hc he
    exact .inr ⟨c, by omega, ⟨h0, h1⟩, hl, he, hp⟩
theorem whole_app {zb b c : Nat} {ps : List Prt} {i : Int} {xs : List UInt8} {d : Int} (hw : Whole b zb ps) (hx : xs.length = b) (hc : c < zb) (hl : (pt ps i).1.length = c * b) : Whole b zb (ps.set i.toNat ((pt ps i).1 ++ xs, d)) :=
  hw.set _ ⟨c + 1, hc, by rw [List.length_append, hl, hx, Nat.succ_mul]⟩
end Go.Proofs.Ytmkjglnggkkpeaa.Dv
