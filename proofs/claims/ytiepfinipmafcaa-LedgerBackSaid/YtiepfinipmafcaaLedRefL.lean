/- The document's ledger: rows in a slice of its own. at, Take, Give, Used, Left; New. -/
import Derived.Test.YtiepfinipmafcaaLedLaws
import Derived.Test.YtiepfinipmafcaaWords2
import Derived.StillTailTactics
import Derived.Deep.RegionHeld3
namespace Go.Proofs.Ytiepfinipmafcaa.Led
open Go.RowKit Go.Maps Go.Proofs.YtiepfinipmafcaaW.PrintWords Go.Proofs.YtiepfinipmafcaaW.PrintMore Go.Proofs.Ytiepfinipmafcaa.Base
set_option linter.unusedVariables false
set_option linter.unusedSimpArgs false

/-- A row: the tenant, the quota, what is used. -/
abbrev Row := Nat × Nat × Nat
def rowK : Kd Row := Kd.pair (nat .u32) (Kd.pair (nat .u64) (nat .u64))
theorem heap_row : Kd.Heap rowK := Kd.heap_pair (heap_nat _) (Kd.heap_pair (heap_nat _) (heap_nat _))
theorem rowK_open {w : World} {t : Row} {c : List Value} (h : rowK.K w t c) : c = [.int .u32 (t.1 : Int), .int .u64 (t.2.1 : Int), .int .u64 (t.2.2 : Int)] ∧ t.1 < 4294967296 ∧ t.2.1 < 18446744073709551616 ∧ t.2.2 < 18446744073709551616 := by
  obtain ⟨c0, c1, rfl, ⟨rfl, h0⟩, c2, c3, rfl, ⟨rfl, h1⟩, ⟨rfl, h2⟩⟩ := h
  exact ⟨rfl, by have := wf_u32' h0; omega, by have := wf_u64' h1; omega, by have := wf_u64' h2; omega⟩
theorem wf_nat64 {q : Nat} (h : q < 18446744073709551616) : (Lit.int .u64 (q : Int)).wf = true := by
  simp [Lit.wf, IntKind.min, IntKind.max, IntKind.bits, IntKind.signed]
  omega
theorem rowK_mk {w : World} {t : Row} (h0 : t.1 < 4294967296) (h1 : t.2.1 < 18446744073709551616) (h2 : t.2.2 < 18446744073709551616) : rowK.K w t [.int .u32 (t.1 : Int), .int .u64 (t.2.1 : Int), .int .u64 (t.2.2 : Int)] :=
  ⟨[_], _, rfl, ⟨rfl, wf_key h0⟩, [_], _, rfl, ⟨rfl, wf_nat64 h1⟩, ⟨rfl, wf_nat64 h2⟩⟩

/-- The document's ledger: its block xb leads to a row of its own, above xb. -/
def RefL (w : World) (xb : Nat) (l : List Row) : Prop :=
  ∃ b A c, xb < b ∧ b ≤ w.heap.size ∧ w.heap[xb]? = some (.cells #[.slice A l.length c] 60 (0, 0)) ∧ Kd.N rowK 62 w b (fun k => b ≤ k) (.slice A l.length c) l
theorem RefL.grown {w w1 : World} {xb : Nat} {l : List Row} (h : RefL w xb l) {row : Option Nat} (hg : w.grownBy w1 row) (hr : ∀ k, row = some k → k < xb) : RefL w1 xb l := by
  obtain ⟨b, A, c, h1, h2, h3, h4⟩ := h
  refine ⟨b, A, c, h1, Nat.le_trans h2 hg.size, (hg.block xb (Array.getElem?_eq_some_iff.1 h3).1 (fun e => by have := hr xb e.symm; omega)).trans h3, Kd.N_grown h4 hg (fun k hk e => by have := hr k e.symm; omega)⟩
theorem RefL.below {w w1 : World} {xb : Nat} {l : List Row} (h : RefL w xb l) (hb : Below w.heap.size w w1) : RefL w1 xb l := h.grown (grown_of_below hb none) (fun _ e => by simp at e)
theorem RefL.at_ {w : World} {xb : Nat} {l : List Row} (h : RefL w xb l) : ∃ A c, w.cell? ⟨xb, 0, none⟩ = some (.slice A l.length c) ∧ rowK.C w A l.length l := by
  obtain ⟨b, A, c, h1, h2, h3, h4⟩ := h
  exact ⟨A, c, by simp [World.cell?, h3], (Kd.N_reads' h4).2.2⟩
theorem row_at {w : World} {A : Option Addr} {n : Nat} {xs : List Row} (h : rowK.C w A n xs) (i : Nat) (hi : i < n) (t : Row) (ht : xs.getD i (0, 0, 0) = t) :
    ∃ ad, A = some ad ∧ t.1 < 4294967296 ∧ t.2.1 < 18446744073709551616 ∧ t.2.2 < 18446744073709551616 ∧ w.cell? (ad.add (i * 3)) = some (.int .u32 (t.1 : Int)) ∧ w.cell? ⟨(ad.add (i * 3)).block, (ad.add (i * 3)).off + 1, none⟩ = some (.int .u64 (t.2.1 : Int)) ∧ w.cell? ⟨(ad.add (i * 3)).block, (ad.add (i * 3)).off + 2, none⟩ = some (.int .u64 (t.2.2 : Int)) := by
  obtain ⟨ad, c, e, _, hK, hc⟩ := ReadsRow.get_ h (0, 0, 0) (i : Int) (by omega) (by omega)
  rw [Int.toNat_natCast] at hK hc
  rw [ht] at hK
  obtain ⟨rfl, h1, h2, h3⟩ := rowK_open hK
  have hs : rowK.sz = 3 := rfl
  rw [hs] at hc
  exact ⟨ad, e, h1, h2, h3, hc 0 _ rfl, cell_fld (hc 1 _ rfl) (by omega), cell_fld (hc 2 _ rfl) (by omega)⟩

/-- Where a tenant's row is. -/
def Where (l : List Row) (k : Nat) (i : Int) : Prop := (i = -1 ∧ ∀ p, p < l.length → (l.getD p (0, 0, 0)).1 ≠ k) ∨ ∃ j : Nat, i = (j : Int) ∧ j < l.length ∧ (l.getD j (0, 0, 0)).1 = k ∧ ∀ p, p < j → (l.getD p (0, 0, 0)).1 ≠ k

theorem at_calls (xb k : Nat) (hk : k < 4294967296) (l : List Row) (w : World) (h : RefL w xb l) :
    Calls Try.prog 34 #[.pointer (some ⟨xb, 0, none⟩), .int .u32 (k : Int)] w fun e w' => ∃ i : Int, e = .returned (.int .i64 i) ∧ w = w' ∧ Where l k i := by
  obtain ⟨A, c, hc, hC⟩ := h.at_
  obtain ⟨hlen, hmax⟩ := C_len hC
  have HC := Aside0.mk hC
  clear h hC hlen
  obtain ⟨n, hn⟩ : ∃ n, l.length = n := ⟨_, rfl⟩
  rw [hn] at hc hmax HC
  have HN := Aside0.mk hn
  clear hn
  go_enter Try.func34, Try.ntmps34
  go_wp2
  go_loopg [5] n (fun g v5 wr => ∃ i : Nat, v5 = .int .i64 (i : Int) ∧ i ≤ n ∧ Aside0 (g + i = n) ∧ Aside0 (∀ p, p < i → (l.getD p (0, 0, 0)).1 ≠ k) ∧ wr = w)
  case atStart => exact ⟨0, rfl, by omega, ⟨rfl⟩, ⟨fun p hp => by omega⟩, rfl⟩
  case round =>
    obtain ⟨i, rfl, hi, HK, HP, rfl⟩ := hrel
    by_cases hlt : i < n
    · obtain ⟨t, ht⟩ : ∃ t, l.getD i (0, 0, 0) = t := ⟨_, rfl⟩
      obtain ⟨ad, rfl, h1, h2, h3, c0, c1, c2⟩ := row_at HC.out i hlt t ht
      have HT := Aside0.mk ht
      clear ht
      by_cases he : t.1 = k
      · have he' : ((t.1 : Int) == (k : Int)) = true := by rw [he]; simp
        go_wp2
        go_ret
        exact ⟨(i : Int), rfl, rfl, .inr ⟨i, rfl, by rw [HN.out]; exact hlt, by rw [HT.out]; exact he, HP.out⟩⟩
      · have he' : ((t.1 : Int) == (k : Int)) = false := by rw [beq_eq_false_iff_ne]; omega
        go_wp2
        go_roundg (gk - 1)
        case measure => have := HK.out; omega
        case rel => exact ⟨i + 1, by congr 1, by omega, ⟨by have := HK.out; omega⟩, ⟨fun p hp => by
          by_cases e : p < i
          · exact HP.out p e
          · have : p = i := by omega
            subst this
            rw [HT.out]; exact he⟩, rfl⟩
    · go_wp2
      go_ret
      refine ⟨-1, rfl, rfl, .inl ⟨rfl, fun p hp => HP.out p (by have := HN.out; omega)⟩⟩

def GoodL (l : List Row) : Prop := ∀ t ∈ l, t.2.2 ≤ t.2.1
theorem GoodL.set {l : List Row} (h : GoodL l) (j : Nat) {t : Row} (ht : t.2.2 ≤ t.2.1) : GoodL (l.set j t) := by
  intro x hx
  rcases List.mem_or_eq_of_mem_set hx with h1 | rfl
  · exact h x h1
  · exact ht
theorem GoodL.get {l : List Row} (h : GoodL l) {j : Nat} (hj : j < l.length) {t : Row} (ht : l.getD j (0, 0, 0) = t) : t.2.2 ≤ t.2.1 := by
  rw [List.getD_eq_getElem?_getD, List.getElem?_eq_getElem hj] at ht
  have : l[j] = t := ht
  exact this ▸ h _ (List.getElem_mem hj)
/-- u is what a row's third field is from now on. -/
def setL (l : List Row) (j u : Nat) : List Row := l.set j ((l.getD j (0, 0, 0)).1, (l.getD j (0, 0, 0)).2.1, u)
theorem setL_length (l : List Row) (j u : Nat) : (setL l j u).length = l.length := by simp [setL]
/-- A store to a row's third field. -/
theorem RefL.store {w : World} {xb : Nat} {l : List Row} (h : RefL w xb l) {j : Nat} (hj : j < l.length) {t : Row} (ht : l.getD j (0, 0, 0) = t) :
    ∃ ad c, w.cell? ⟨xb, 0, none⟩ = some (.slice (some ad) l.length c) ∧ t.1 < 4294967296 ∧ t.2.1 < 18446744073709551616 ∧ t.2.2 < 18446744073709551616 ∧ w.cell? (ad.add (j * 3)) = some (.int .u32 (t.1 : Int)) ∧ w.cell? ⟨(ad.add (j * 3)).block, (ad.add (j * 3)).off + 1, none⟩ = some (.int .u64 (t.2.1 : Int)) ∧ w.cell? ⟨(ad.add (j * 3)).block, (ad.add (j * 3)).off + 2, none⟩ = some (.int .u64 (t.2.2 : Int)) ∧
      w.frozen? ⟨(ad.add (j * 3)).block, (ad.add (j * 3)).off + 2, none⟩ = false ∧
      ∀ u : Nat, u < 18446744073709551616 → RefL (w.setCell ⟨(ad.add (j * 3)).block, (ad.add (j * 3)).off + 2, none⟩ (.int .u64 (u : Int))) xb (setL l j u) ∧ ∃ g, (xb < g ∧ ∃ cells, w.heap[g]? = some (.cells cells 62 (0, 0))) ∧ w.grownBy (w.setCell ⟨(ad.add (j * 3)).block, (ad.add (j * 3)).off + 2, none⟩ (.int .u64 (u : Int))) (some g) := by
  obtain ⟨b, A, c, h1, h2, h3, h4⟩ := h
  obtain ⟨ad, rfl, hb1, hb2, hb3, c0, c1, c2⟩ := row_at (Kd.N_reads' h4).2.2 j hj t ht
  obtain ⟨g, cap, he, hg1, hg2, hg3⟩ := Kd.N_form h4 (by omega)
  simp only [Value.slice.injEq, Option.some.injEq] at he
  obtain ⟨rfl, _, rfl⟩ := he
  obtain ⟨cs, hcl, hFK, hcc, hfr⟩ := Kd.N_elem h4 (0, 0, 0) (j : Int) (by omega) (by omega)
  rw [Int.toNat_natCast] at hFK hcc hfr
  have hs : rowK.sz = 3 := rfl
  rw [hs] at hcc hfr hcl
  have ea : (⟨g, 0, none⟩ : Addr).add (j * 3) = ⟨g, j * 3, none⟩ := by rw [add_plain]
  rw [ht] at hFK
  obtain ⟨rfl, _, _, _⟩ := rowK_open (Kd.FK_now hFK)
  rw [ea] at c0 c1 c2
  refine ⟨⟨g, 0, none⟩, c, by simp [World.cell?, h3], hb1, hb2, hb3, by rw [ea]; exact c0, by rw [ea]; exact c1, by rw [ea]; exact c2, by rw [ea]; exact hfr 2, fun u hu => ?_⟩
  rw [ea]
  have hK : Kd.FK rowK w (fun k => b ≤ k ∧ k ≠ g) (t.1, t.2.1, u) ([Value.int .u32 (t.1 : Int), .int .u64 (t.2.1 : Int), .int .u64 (t.2.2 : Int)].take 2 ++ [.int .u64 (u : Int)] ++ [Value.int .u32 (t.1 : Int), .int .u64 (t.2.1 : Int), .int .u64 (t.2.2 : Int)].drop (2 + 1)) :=
    fun W' _ => rowK_mk (t := (t.1, t.2.1, u)) hb1 hb2 hu
  obtain ⟨hN, hg⟩ := Kd.N_seg h4 (j : Int) (by omega) (by omega) (seg := [.int .u64 (u : Int)]) (j := 2) (x' := (t.1, t.2.1, u)) (by rw [hs]; rfl) (by rw [Int.toNat_natCast, hs]; exact hcc) (by rw [hs]; exact Nat.le_refl 3) hK (fun k hk => hk)
  rw [Int.toNat_natCast, hs] at hN hg
  have es : w.setCells g (j * 3 + 2) [.int .u64 (u : Int)] = w.setCell ⟨g, j * 3 + 2, none⟩ (.int .u64 (u : Int)) := rfl
  rw [es] at hN hg
  refine ⟨⟨b, some ⟨g, 0, none⟩, c, h1, Nat.le_trans h2 hg.size, ?_, ?_⟩, g, ⟨by omega, hg3⟩, hg⟩
  · rw [hg.block xb (Array.getElem?_eq_some_iff.1 h3).1 (by simp; omega), setL_length]
    exact h3
  · rw [setL_length]
    have e2 : setL l j u = l.set j (t.1, t.2.1, u) := by unfold setL; rw [ht]
    rw [e2]
    exact hN

/-- What Take answers, and the rows behind it. -/
def TakeL (l : List Row) (k m : Nat) (b : Bool) (l' : List Row) : Prop :=
  ((∀ p, p < l.length → (l.getD p (0, 0, 0)).1 ≠ k) ∧ b = decide (m = 0) ∧ l' = l) ∨
  ∃ j, j < l.length ∧ (l.getD j (0, 0, 0)).1 = k ∧ (∀ p, p < j → (l.getD p (0, 0, 0)).1 ≠ k) ∧
    ((m ≤ (l.getD j (0, 0, 0)).2.1 - (l.getD j (0, 0, 0)).2.2 ∧ b = true ∧ l' = setL l j ((l.getD j (0, 0, 0)).2.2 + m)) ∨ (¬ m ≤ (l.getD j (0, 0, 0)).2.1 - (l.getD j (0, 0, 0)).2.2 ∧ b = false ∧ l' = l))
def GiveL (l : List Row) (k m : Nat) (b : Bool) (l' : List Row) : Prop :=
  ((∀ p, p < l.length → (l.getD p (0, 0, 0)).1 ≠ k) ∧ b = decide (m = 0) ∧ l' = l) ∨
  ∃ j, j < l.length ∧ (l.getD j (0, 0, 0)).1 = k ∧ (∀ p, p < j → (l.getD p (0, 0, 0)).1 ≠ k) ∧
    ((m ≤ (l.getD j (0, 0, 0)).2.2 ∧ b = true ∧ l' = setL l j ((l.getD j (0, 0, 0)).2.2 - m)) ∨ (¬ m ≤ (l.getD j (0, 0, 0)).2.2 ∧ b = false ∧ l' = l))

theorem reftake_calls (xb k m : Nat) (hk : k < 4294967296) (hm : m < 18446744073709551616) (l : List Row) (hl : GoodL l) (w : World) (h : RefL w xb l) :
    Calls Try.prog 27 #[.pointer (some ⟨xb, 0, none⟩), .int .u32 (k : Int), .int .u64 (m : Int)] w
      fun e w' => ∃ b l' row, e = .returned (.bool b) ∧ TakeL l k m b l' ∧ RefL w' xb l' ∧ w.grownBy w' row ∧ ∀ g, row = some g → xb < g ∧ ∃ cells, w.heap[g]? = some (.cells cells 62 (0, 0)) := by
  have H := Aside0.mk h
  have HG := Aside0.mk hl
  clear h hl
  go_enter Try.func27, Try.ntmps27
  go_wp2_with fail
  refine (at_calls xb k hk l _ H.out).mono ?_
  rintro e w1 ⟨i, rfl, rfl, hi | ⟨j, rfl, hj, he, hp⟩⟩
  · obtain ⟨rfl, hn⟩ := hi
    have HN := Aside0.mk hn
    clear hn
    have hlt : (-1 : Int) < 0 := by omega
    go_wp2
    go_ret
    refine ⟨decide (m = 0), l, none, ?_, .inl ⟨HN.out, rfl, rfl⟩, H.out, grown_of_below (Below.refl _ _) none, fun g hg => by simp at hg⟩
    exact ret_bool (by by_cases h0 : m = 0 <;> simp [h0])
  · obtain ⟨t, ht⟩ : ∃ t, l.getD j (0, 0, 0) = t := ⟨_, rfl⟩
    obtain ⟨ad, c, hc, b1, b2, b3, c0, c1, c2, hfr, hst⟩ := H.out.store hj ht
    have hle := HG.out.get hj ht
    have HT := Aside0.mk ht
    have HJ := Aside0.mk hj
    have HE := Aside0.mk he
    have HP := Aside0.mk hp
    clear he hp hst hfr
    obtain ⟨n, hn⟩ : ∃ n, l.length = n := ⟨_, rfl⟩
    rw [hn] at hc hj
    have HN := Aside0.mk hn
    clear ht hn
    have hmax : n ≤ 9223372036854775807 := by
      obtain ⟨A, c', hc', hC⟩ := H.out.at_
      have := (C_len hC).2
      rw [HN.out] at this
      exact this
    by_cases hle2 : m ≤ t.2.1 - t.2.2
    · have hd : ¬ ((t.2.1 : Int) - (t.2.2 : Int) < (m : Int)) := by omega
      go_wp2
      go_quiet (fail)
      have HW := Aside0.mk (H.out.below (pw_below_drewN (Below.refl _ _) nq))
      have HB := Aside0.mk (show ∀ row, w.grownBy (w.drewN nq) row from fun row => grown_of_below (pw_below_drewN (Below.refl w.heap.size w) nq) row)
      have HH := Aside0.mk (show (w.drewN nq).heap = w.heap from rfl)
      generalize w.drewN nq = W at *
      clear hc c0 c1 c2
      obtain ⟨ad, c, hc, b1, b2, b3, c0, c1, c2, hfr, hst⟩ := HW.out.store HJ.out HT.out
      rw [HN.out] at hc
      obtain ⟨h5, g, hg1, hg2⟩ := hst (t.2.2 + m) (by omega)
      rw [show ((t.2.2 + m : Nat) : Int) = (t.2.2 : Int) + (m : Int) by omega] at h5 hg2
      have H5 := Aside0.mk h5
      have HG2 := Aside0.mk hg2
      have HG1 := Aside0.mk hg1
      clear h5 hg2 hst hg1
      have hsum : t.2.2 + m < 18446744073709551616 := by omega
      go_wp2
      go_ret
      refine ⟨true, setL l j (t.2.2 + m), some g, rfl, .inr ⟨j, HJ.out, HE.out, HP.out, .inl ?_⟩, H5.out, (HB.out _).trans HG2.out, fun g' e => by simp at e; subst e; rw [← HH.out]; exact HG1.out⟩
      rw [HT.out]
      exact ⟨hle2, rfl, rfl⟩
    · have hd : ((t.2.1 : Int) - (t.2.2 : Int) < (m : Int)) := by omega
      go_wp2
      go_quiet (fail)
      have HW := Aside0.mk (H.out.below (pw_below_drewN (Below.refl _ _) nq))
      have HB := Aside0.mk (show ∀ row, w.grownBy (w.drewN nq) row from fun row => grown_of_below (pw_below_drewN (Below.refl w.heap.size w) nq) row)
      go_wp2
      go_ret
      refine ⟨false, l, none, rfl, .inr ⟨j, HJ.out, HE.out, HP.out, .inr ?_⟩, HW.out, HB.out _, fun g' e => by simp at e⟩
      rw [HT.out]
      exact ⟨hle2, rfl, rfl⟩
theorem refgive_calls (xb k m : Nat) (hk : k < 4294967296) (hm : m < 18446744073709551616) (l : List Row) (hl : GoodL l) (w : World) (h : RefL w xb l) :
    Calls Try.prog 26 #[.pointer (some ⟨xb, 0, none⟩), .int .u32 (k : Int), .int .u64 (m : Int)] w
      fun e w' => ∃ b l' row, e = .returned (.bool b) ∧ GiveL l k m b l' ∧ RefL w' xb l' ∧ w.grownBy w' row ∧ ∀ g, row = some g → xb < g ∧ ∃ cells, w.heap[g]? = some (.cells cells 62 (0, 0)) := by
  have H := Aside0.mk h
  have HG := Aside0.mk hl
  clear h hl
  go_enter Try.func26, Try.ntmps26
  go_wp2_with fail
  refine (at_calls xb k hk l _ H.out).mono ?_
  rintro e w1 ⟨i, rfl, rfl, hi | ⟨j, rfl, hj, he, hp⟩⟩
  · obtain ⟨rfl, hn⟩ := hi
    have HN := Aside0.mk hn
    clear hn
    have hlt : (-1 : Int) < 0 := by omega
    go_wp2
    go_ret
    refine ⟨decide (m = 0), l, none, ?_, .inl ⟨HN.out, rfl, rfl⟩, H.out, grown_of_below (Below.refl _ _) none, fun g hg => by simp at hg⟩
    exact ret_bool (by by_cases h0 : m = 0 <;> simp [h0])
  · obtain ⟨t, ht⟩ : ∃ t, l.getD j (0, 0, 0) = t := ⟨_, rfl⟩
    obtain ⟨ad, c, hc, b1, b2, b3, c0, c1, c2, hfr, hst⟩ := H.out.store hj ht
    have hle := HG.out.get hj ht
    have HT := Aside0.mk ht
    have HJ := Aside0.mk hj
    have HE := Aside0.mk he
    have HP := Aside0.mk hp
    clear he hp hst hfr
    obtain ⟨n, hn⟩ : ∃ n, l.length = n := ⟨_, rfl⟩
    rw [hn] at hc hj
    have HN := Aside0.mk hn
    clear ht hn
    have hmax : n ≤ 9223372036854775807 := by
      obtain ⟨A, c', hc', hC⟩ := H.out.at_
      have := (C_len hC).2
      rw [HN.out] at this
      exact this
    by_cases hle2 : m ≤ t.2.2
    · have hd : ¬ ((t.2.2 : Int) < (m : Int)) := by omega
      have HW := H
      have HB := Aside0.mk (show ∀ row, w.grownBy w row from fun row => World.grownBy.refl w row)
      clear hc c0 c1 c2
      obtain ⟨ad, c, hc, b1, b2, b3, c0, c1, c2, hfr, hst⟩ := HW.out.store HJ.out HT.out
      rw [HN.out] at hc
      obtain ⟨h5, g, hg1, hg2⟩ := hst (t.2.2 - m) (by omega)
      rw [show ((t.2.2 - m : Nat) : Int) = (t.2.2 : Int) - (m : Int) by omega] at h5 hg2
      have H5 := Aside0.mk h5
      have HG2 := Aside0.mk hg2
      have HG1 := Aside0.mk hg1
      clear h5 hg2 hst hg1
      have hsum : t.2.2 - m < 18446744073709551616 := by omega
      go_wp2
      go_ret
      refine ⟨true, setL l j (t.2.2 - m), some g, rfl, .inr ⟨j, HJ.out, HE.out, HP.out, .inl ?_⟩, H5.out, (HB.out _).trans HG2.out, fun g' e => by simp at e; subst e; exact HG1.out⟩
      rw [HT.out]
      exact ⟨hle2, rfl, rfl⟩
    · have hd : ((t.2.2 : Int) < (m : Int)) := by omega
      go_wp2
      have HW := H
      have HB := Aside0.mk (show ∀ row, w.grownBy w row from fun row => World.grownBy.refl w row)
      go_ret
      refine ⟨false, l, none, rfl, .inr ⟨j, HJ.out, HE.out, HP.out, .inr ?_⟩, HW.out, HB.out _, fun g' e => by simp at e⟩
      rw [HT.out]
      exact ⟨hle2, rfl, rfl⟩
end Go.Proofs.Ytiepfinipmafcaa.Led
