/- The statement LedgerRoom: what fits, fits with fewer tenants, smaller quotas, in any order; what is above the device does not. -/
import Derived.Test.YtiepfinipmafcaaLedRef
namespace Go.Proofs.Ytiepfinipmafcaa.Led
open Go.RowKit Go.Maps Go.Proofs.YtiepfinipmafcaaW.PrintWords Go.Proofs.YtiepfinipmafcaaW.PrintMore Go.Proofs.Ytiepfinipmafcaa.Base Go.Proofs.Ytiepfinipmafcaa.Shp
set_option linter.unusedVariables false
set_option linter.unusedSimpArgs false
attribute [local go_sem] max2_mx min2_mn max_two min_two

theorem fits_iff (z zb b r : Int) (l : List Ten) : fits z zb b r l = true ↔ Rt z zb b r ∧ l.length ≤ 64 ∧ (l.map (·.1)).Nodup ∧ total l ≤ (roomZ z zb b r).toNat := by
  unfold fits
  rw [Bool.and_eq_true, Bool.and_eq_true, decide_eq_true_eq, decide_eq_true_eq, fitsF_iff]
  unfold Apart
  simp
  constructor
  · rintro ⟨⟨h1, h2⟩, h3, h4⟩; exact ⟨h1, h2, h3, h4⟩
  · rintro ⟨h1, h2, h3, h4⟩; exact ⟨⟨h1, h2⟩, h3, h4⟩
theorem total_append (a b : List Ten) : total (a ++ b) = total a + total b := by unfold total; rw [List.map_append, List.sum_append]
theorem total_drop_take (l : List Ten) (q : Nat) : total (l.take q) + total (l.drop q) = total l := by rw [← total_append, List.take_append_drop]
theorem turned_fits (z zb b r : Int) (l : List Ten) (q : Nat) : fits z zb b r (l.drop q ++ l.take q) = fits z zb b r l := by
  have hp : (l.drop q ++ l.take q).Perm l := (List.perm_append_comm).trans (by rw [List.take_append_drop])
  rw [Bool.eq_iff_iff, fits_iff, fits_iff, hp.length_eq, (hp.map _).nodup_iff, total_append, Nat.add_comm, total_drop_take]
theorem take_fits {z zb b r : Int} {l : List Ten} (h : fits z zb b r l = true) (q : Nat) : fits z zb b r (l.take q) = true := by
  rw [fits_iff] at h ⊢
  obtain ⟨h1, h2, h3, h4⟩ := h
  have := total_drop_take l q
  refine ⟨h1, by rw [List.length_take]; omega, ?_, by omega⟩
  exact h3.sublist ((List.take_sublist q l).map _)
def half (t : Ten) : Ten := (t.1, t.2.1, t.2.2.1 / 2, t.2.2.2.1, t.2.2.2.2)
theorem total_half (l : List Ten) : total (l.map half) ≤ total l := by
  induction l with
  | nil => exact Nat.le_refl _
  | cons t l ih =>
    show t.2.2.1 / 2 + total (l.map half) ≤ t.2.2.1 + total l
    omega
theorem half_fits {z zb b r : Int} {l : List Ten} (h : fits z zb b r l = true) : fits z zb b r (l.map half) = true := by
  rw [fits_iff] at h ⊢
  obtain ⟨h1, h2, h3, h4⟩ := h
  have := total_half l
  refine ⟨h1, by rw [List.length_map]; exact h2, ?_, by omega⟩
  rw [List.map_map]
  exact h3
theorem room_lt (z zb b r : Int) (h : Rt z zb b r) : (roomZ z zb b r).toNat < 4294967296 := by
  have := rt_bd h
  unfold roomZ mn
  split <;> omega
theorem big_fits (z zb b r : Int) : fits z zb b r [(1, [], 18446744073709551615, 0, []), (2, [], 1, 0, [])] = false := by
  rw [Bool.eq_false_iff]
  intro h
  rw [fits_iff] at h
  obtain ⟨h1, _, _, h4⟩ := h
  have := room_lt z zb b r h1
  have e : total [(1, [], 18446744073709551615, 0, []), (2, [], 1, 0, [])] = 18446744073709551616 := by decide
  omega
theorem nil_fits (z zb b r : Int) : fits z zb b r [] = decide (Rt z zb b r) := by
  rw [Bool.eq_iff_iff, fits_iff]
  simp [total]

theorem ten_K {w : World} {A : Option Addr} {n : Nat} {xs : List Ten} (h : tenK.C w A n xs) (i : Nat) (hi : i < n) (t : Ten) (ht : xs.getD i (0, [], 0, 0, []) = t) :
    ∃ ad a m k a' m' k', A = some ad ∧ t.2.2.1 < 18446744073709551616 ∧ tenK.K w t [.int .u32 (t.1 : Int), .slice a m k, .int .u64 (t.2.2.1 : Int), .int .u64 (t.2.2.2.1 : Int), .slice a' m' k'] ∧ w.cell? (ad.add (i * 5)) = some (.int .u32 (t.1 : Int)) ∧
      w.cell? ⟨(ad.add (i * 5)).block, (ad.add (i * 5)).off + 1, none⟩ = some (.slice a m k) ∧ w.cell? ⟨(ad.add (i * 5)).block, (ad.add (i * 5)).off + 2, none⟩ = some (.int .u64 (t.2.2.1 : Int)) ∧
      w.cell? ⟨(ad.add (i * 5)).block, (ad.add (i * 5)).off + 3, none⟩ = some (.int .u64 (t.2.2.2.1 : Int)) ∧ w.cell? ⟨(ad.add (i * 5)).block, (ad.add (i * 5)).off + 4, none⟩ = some (.slice a' m' k') := by
  obtain ⟨ad, c, e, _, hK, hc⟩ := ReadsRow.get_ h (0, [], 0, 0, []) (i : Int) (by omega) (by omega)
  rw [Int.toNat_natCast] at hK hc
  rw [ht] at hK
  obtain ⟨a, m, k, a', m', k', rfl, h1, h2⟩ := tenK_open hK
  have hs : tenK.sz = 5 := rfl
  rw [hs] at hc
  exact ⟨ad, a, m, k, a', m', k', e, h2, hK, hc 0 _ rfl, cell_fld (hc 1 _ rfl) (by omega), cell_fld (hc 2 _ rfl) (by omega), cell_fld (hc 3 _ rfl) (by omega), cell_fld (hc 4 _ rfl) (by omega)⟩
theorem wf_half {q : Nat} (h : q < 18446744073709551616) : (Lit.int .u64 ((q / 2 : Nat) : Int)).wf = true := by
  simp [Lit.wf, IntKind.min, IntKind.max, IntKind.bits, IntKind.signed]
  omega
theorem half_K {w : World} {t : Ten} {a a' : Option Addr} {m k m' k' : Nat} (hq : t.2.2.1 < 18446744073709551616) (h : tenK.K w t [.int .u32 (t.1 : Int), .slice a m k, .int .u64 (t.2.2.1 : Int), .int .u64 (t.2.2.2.1 : Int), .slice a' m' k']) :
    tenK.K w (half t) [.int .u32 (t.1 : Int), .slice a m k, .int .u64 ((t.2.2.1 : Int) / 2), .int .u64 (t.2.2.2.1 : Int), .slice a' m' k'] := by
  rw [show ((t.2.2.1 : Int) / 2) = ((t.2.2.1 / 2 : Nat) : Int) by omega]
  obtain ⟨c0, c1, e0, ⟨rfl, h0⟩, c2, c3, e1, ⟨b, kb, rfl, h1, h1'⟩, c4, c5, e2, ⟨rfl, h4⟩, c6, c7, e3, ⟨rfl, h6⟩, ⟨b', kb', rfl, h7, h7'⟩⟩ := h
  subst e3
  subst e2
  subst e1
  simp only [List.cons_append, List.nil_append, List.cons.injEq, Value.slice.injEq, true_and, and_true] at e0
  obtain ⟨⟨rfl, rfl, rfl⟩, rfl, rfl, rfl⟩ := e0
  exact ⟨[_], _, rfl, ⟨rfl, h0⟩, [_], _, rfl, ⟨a, k, rfl, h1, h1'⟩, [_], _, rfl, ⟨rfl, wf_half hq⟩, [_], _, rfl, ⟨rfl, h6⟩, ⟨a', k', rfl, h7, h7'⟩⟩
theorem heap_ten : Kd.Heap tenK := Kd.heap_pair (heap_nat _) (Kd.heap_pair (Kd.heap_slice _ heap_byte) (Kd.heap_pair (heap_nat _) (Kd.heap_pair (heap_nat _) (Kd.heap_slice _ (heap_nat _)))))
theorem info_ten : (Try.prog.info? 41).map (fun i => (i.zero, i.size, i.bytes)) = some (some (.agg #[.int .u32 0, .slice none 0 0, .int .u64 0, .int .u64 0, .slice none 0 0]), 5, 72) := by kernel_rfl

set_option maxRecDepth 100000 in
theorem fits_at (z zb b r : Int) (hz : IsI z) (hzb : IsI zb) (hb : IsI b) (hr : IsI r) (A : Option Addr) (n cap : Nat) (l : List Ten) (bb : Bool) (w : World) (h : tenK.C w A n l) (hv : fits z zb b r l = bb) :
    Calls Try.prog 18 #[.agg #[.int .i64 z, .int .i64 zb, .int .i64 b, .int .i64 r], .slice A n cap] w fun e w' => e = .returned (.bool bb) ∧ Below w.heap.size w w' := by
  subst hv
  exact ledfits_calls z zb b r hz hzb hb hr A n cap l w h
theorem S_on {g : Nat} {z zb b r : Int} {w7 w8 w9 : World} (h : w8.cell? ⟨g, 0, none⟩ = some (.int .i64 z) ∧ w8.cell? ⟨g, 1, none⟩ = some (.int .i64 zb) ∧ w8.cell? ⟨g, 2, none⟩ = some (.int .i64 b) ∧ w8.cell? ⟨g, 3, none⟩ = some (.int .i64 r) ∧ Below w7.heap.size w7 w8) (hw : Below w8.heap.size w8 w9) :
    w9.cell? ⟨g, 0, none⟩ = some (.int .i64 z) ∧ w9.cell? ⟨g, 1, none⟩ = some (.int .i64 zb) ∧ w9.cell? ⟨g, 2, none⟩ = some (.int .i64 b) ∧ w9.cell? ⟨g, 3, none⟩ = some (.int .i64 r) ∧ Below w7.heap.size w7 w9 :=
  ⟨pw_cell_below hw h.1, pw_cell_below hw h.2.1, pw_cell_below hw h.2.2.1, pw_cell_below hw h.2.2.2.1, below_go h.2.2.2.2 hw⟩
set_option maxHeartbeats 4000000 in
theorem room_law (z zb b r : Int) (hz : IsI z) (hzb : IsI zb) (hb : IsI b) (hr : IsI r) (A : Option Addr) (n cap : Nat) (xs : List Ten) (hcap : n ≤ cap) (kk : Int) (hkk : kk ≤ 9223372036854775807) (w : World) (h : tenK.C w A n xs) :
    Calls Try.prog 6 #[.agg #[.int .i64 z, .int .i64 zb, .int .i64 b, .int .i64 r], .slice A n cap, .int .i64 kk] w fun e w' => e = .returned (.bool true) ∧ Below w.heap.size w w' := by
  obtain ⟨hlen, hmax⟩ := C_len h
  have hA := Aside0.mk (alloc_below w (.cells #[.int .i64 z, .int .i64 zb, .int .i64 b, .int .i64 r] 44))
  by_cases hn : n ≤ 100
  · have H := Aside0.mk (Kd.C_below h hA.out)
    have HL := Aside0.mk hlen
    clear h hlen
    have m0 := mx0 kk hkk
    obtain ⟨q, hq⟩ : ∃ q : Nat, mx kk 0 % ((n : Int) + 1) = (q : Int) := ⟨(mx kk 0 % ((n : Int) + 1)).toNat, by have := Int.emod_nonneg (mx kk 0) (show (n : Int) + 1 ≠ 0 by omega); omega⟩
    have hqn : q ≤ n := by have := Int.emod_lt_of_pos (mx kk 0) (show 0 < (n : Int) + 1 by omega); omega
    obtain ⟨m01, m02⟩ := m0
    obtain ⟨i0, hi0, hzz⟩ := Option.map_eq_some_iff.1 info_ten
    simp only [Prod.mk.injEq] at hzz
    have hs1 := cut_from (P := Try.prog) 22 41 .i64 Try.underlying22 hi0 5 hzz.2.1 A n cap (q : Int) (by omega) (by omega)
    have hs2 := cut_to (P := Try.prog) 22 41 .i64 Try.underlying22 hi0 A n cap (q : Int) (by omega) (by omega) hcap
    rw [Int.toNat_natCast] at hs1 hs2
    obtain ⟨A1, hA1⟩ : ∃ A1, (if cap = q then A else A.map (·.add (q * 5))) = A1 := ⟨_, rfl⟩
    rw [hA1] at hs1
    have HT := Aside0.mk (C_take H.out q hqn)
    have HD := Aside0.mk (show tenK.C _ A1 (n - q) (xs.drop q) from by rw [← hA1]; exact C_drop H.out hcap q hqn)
    clear hA1 hzz hi0
    go_enter Try.func6, Try.ntmps6
    go_wp2_with fail
    refine (known_calls _).mono ?_
    rintro e w1 ⟨rfl, hw1⟩
    have k0 := pw_cell_below hw1 (show (w.alloc (.cells #[.int .i64 z, .int .i64 zb, .int .i64 b, .int .i64 r] 44)).cell? ⟨w.heap.size, 0, none⟩ = some (.int .i64 z) by go_simp)
    have k1 := pw_cell_below hw1 (show (w.alloc (.cells #[.int .i64 z, .int .i64 zb, .int .i64 b, .int .i64 r] 44)).cell? ⟨w.heap.size, 1, none⟩ = some (.int .i64 zb) by go_simp)
    have k2 := pw_cell_below hw1 (show (w.alloc (.cells #[.int .i64 z, .int .i64 zb, .int .i64 b, .int .i64 r] 44)).cell? ⟨w.heap.size, 2, none⟩ = some (.int .i64 b) by go_simp)
    have k3 := pw_cell_below hw1 (show (w.alloc (.cells #[.int .i64 z, .int .i64 zb, .int .i64 b, .int .i64 r] 44)).cell? ⟨w.heap.size, 3, none⟩ = some (.int .i64 r) by go_simp)
    have HB1 := Aside0.mk (below_then hA.out hA.out.size hw1)
    have H1 := Aside0.mk (Kd.C_below H.out hw1)
    have HT1 := Aside0.mk (Kd.C_below HT.out hw1)
    have HD1 := Aside0.mk (Kd.C_below HD.out hw1)
    obtain ⟨g, hg⟩ : ∃ g, w.heap.size = g := ⟨_, rfl⟩
    rw [hg] at k0 k1 k2 k3 HB1 ⊢
    have HG := Aside0.mk hg
    clear hw1 H HT HD hA hg
    go_wp2_with fail
    refine (ledfits_calls z zb b r hz hzb hb hr A n cap xs _ H1.out).mono ?_
    rintro e w2 ⟨rfl, hw2⟩
    have k0 := pw_cell_below hw2 k0
    have k1 := pw_cell_below hw2 k1
    have k2 := pw_cell_below hw2 k2
    have k3 := pw_cell_below hw2 k3
    have HB2 := Aside0.mk (below_then HB1.out (by have h1 := HB1.out.size; have h2 := HG.out; omega) hw2)
    have H2 := Aside0.mk (Kd.C_below H1.out hw2)
    have HT2 := Aside0.mk (Kd.C_below HT1.out hw2)
    have HD2 := Aside0.mk (Kd.C_below HD1.out hw2)
    clear hw2 H1 HT1 HD1 HB1
    have HN0 := Aside0.mk (Kd.N_nil tenK 41 w2 w2.heap.size anyB)
    go_wp2_with (first
      | (at_builtin; refine app_came (w0 := w2) tenK heap_ten (.tmp 32) (.tmp 35) 22 41 _ 72 rfl rfl Try.underlying22 info_ten rfl (by decide) (by decide) _ [] (xs.drop q) _ _ _ rfl rfl HN0.out HD2.out (Below.refl _ _) (by simp; omega) ?_; intro v3 w3 hN3 hb3 _; have HN3 := Aside0.mk hN3; have HB3 := Aside0.mk hb3; clear hN3 hb3)
      | (at_builtin; refine app_came (w0 := w2) tenK heap_ten (.tmp 37) (.tmp 40) 22 41 _ 72 rfl rfl Try.underlying22 info_ten rfl (by decide) (by decide) _ ([] ++ xs.drop q) (xs.take q) _ _ _ rfl rfl HN3.out HT2.out HB3.out (by have := HL.out; simp; omega) ?_; intro v4 w4 hN4 hb4 _; have HN4 := Aside0.mk hN4; have HB4 := Aside0.mk hb4; clear hN4 hb4))
    obtain ⟨A9, n9, c9, rfl, hc9, hC9⟩ := N_open HN4.out
    have k0 := pw_cell_below HB4.out k0
    have k1 := pw_cell_below HB4.out k1
    have k2 := pw_cell_below HB4.out k2
    have k3 := pw_cell_below HB4.out k3
    have H4 := Aside0.mk (Kd.C_below H2.out HB4.out)
    have HT4 := Aside0.mk (Kd.C_below HT2.out HB4.out)
    have HC4 := Aside0.mk (show tenK.C w4 A9 n9 (xs.drop q ++ xs.take q) from hC9)
    have HBg := Aside0.mk (show Below g w w4 from below_then HB2.out (by have h1 := HB2.out.size; have h2 := HG.out; omega) HB4.out)
    clear hC9 HN4 HN3 HB3 HN0 H2 HT2 HD2 HB2 HB4
    have HN0 := Aside0.mk (Kd.N_nil tenK 41 w4 w4.heap.size anyB)
    go_loopg [10, 11] n (fun k v10 v11 wr => ∃ (i : Nat), v11 = .int .i64 (i : Int) ∧ i ≤ n ∧ Aside0 (k + i = n ∧ Kd.N tenK 41 wr w4.heap.size anyB v10 ((xs.map half).take i) ∧ Below w4.heap.size w4 wr))
    case atStart => exact ⟨0, rfl, by omega, ⟨rfl, HN0.out, Below.refl _ _⟩⟩
    case round =>
      obtain ⟨i, rfl, hi, HS⟩ := hrel
      by_cases hlt : i < n
      · obtain ⟨t, ht⟩ : ∃ t, xs.getD i (0, [], 0, 0, []) = t := ⟨_, rfl⟩
        obtain ⟨ad, a, m, k, a', m', k', rfl, h2, hK, c0, c1, c2, c3, c4⟩ := ten_K H4.out i hlt t ht
        have c0 := pw_cell_below HS.out.2.2 c0
        have c1 := pw_cell_below HS.out.2.2 c1
        have c2 := pw_cell_below HS.out.2.2 c2
        have c3 := pw_cell_below HS.out.2.2 c3
        have c4 := pw_cell_below HS.out.2.2 c4
        have HK := Aside0.mk (half_K h2 hK)
        have HTk := Aside0.mk (show ((xs.map half).take (i + 1)) = (xs.map half).take i ++ [half t] from by
          have hlt' : i < xs.length := by rw [HL.out]; exact hlt
          rw [List.take_succ_eq_append_getElem (by rw [List.length_map]; exact hlt'), List.getElem_map]
          have : xs[i] = t := by rw [← ht, List.getD_eq_getElem?_getD, List.getElem?_eq_getElem hlt']; rfl
          rw [this])
        clear ht hK
        have HN1 := Aside0.mk (show Kd.N tenK 41 (wr.alloc (.cells #[.int .u32 (t.1 : Int), .slice a m k, .int .u64 ((t.2.2.1 : Int) / 2), .int .u64 (t.2.2.2.1 : Int), .slice a' m' k'] 41)) w4.heap.size anyB u10 ((xs.map half).take i) from Kd.N_below HS.out.2.1 (alloc_below _ _))
        have HB1 := Aside0.mk (HS.out.2.2.alloc HS.out.2.2.size (.cells #[.int .u32 (t.1 : Int), .slice a m k, .int .u64 ((t.2.2.1 : Int) / 2), .int .u64 (t.2.2.2.1 : Int), .slice a' m' k'] 41))
        go_wp2_with (at_builtin; refine app_came1 (w0 := w4) tenK heap_ten (.tmp 56) (.tmp 58) 22 41 _ 72 rfl rfl Try.underlying22 info_ten rfl (by decide) (by decide) _ ((xs.map half).take i) (half t) [.int .u32 (t.1 : Int), .slice a m k, .int .u64 ((t.2.2.1 : Int) / 2), .int .u64 (t.2.2.2.1 : Int), .slice a' m' k'] rfl (by simp [Act.eval]) HN1.out HK.out HB1.out (by rw [List.length_take]; omega) ?_; intro v5 w5 hN5 hb5 _; have HN5 := Aside0.mk hN5; have HB5 := Aside0.mk hb5; clear hN5 hb5)
        go_roundg (gk - 1)
        case measure => have := HS.out.1; omega
        case rel => exact ⟨i + 1, by congr 1, by omega, ⟨by have := HS.out.1; omega, by rw [HTk.out]; exact HN5.out, HB5.out⟩⟩
      · have hin : i = n := by omega
        subst hin
        obtain ⟨A10, n10, c10, rfl, hc10, hC10⟩ := N_open HS.out.2.1
        rw [List.take_of_length_le (by rw [List.length_map, HL.out]; omega)] at hC10
        have HC10 := Aside0.mk (show tenK.C wr A10 n10 (xs.map half) from hC10)
        have HB5 := Aside0.mk HS.out.2.2
        have k0 := pw_cell_below HB5.out k0
        have k1 := pw_cell_below HB5.out k1
        have k2 := pw_cell_below HB5.out k2
        have k3 := pw_cell_below HB5.out k3
        clear hC10
        have a6 := alloc_below wr (.cells #[.int .u32 1, .slice none 0 0, .int .u64 18446744073709551615, .int .u64 0, .slice none 0 0, .int .u32 2, .slice none 0 0, .int .u64 1, .int .u64 0, .slice none 0 0] 41)
        have A6 := Aside0.mk a6
        have k0 := pw_cell_below a6 k0
        have k1 := pw_cell_below a6 k1
        have k2 := pw_cell_below a6 k2
        have k3 := pw_cell_below a6 k3
        clear a6
        have HCB := Aside0.mk (show tenK.C (wr.alloc (.cells #[.int .u32 1, .slice none 0 0, .int .u64 18446744073709551615, .int .u64 0, .slice none 0 0, .int .u32 2, .slice none 0 0, .int .u64 1, .int .u64 0, .slice none 0 0] 41)) (some ⟨wr.heap.size, 0, none⟩) 2 [(1, [], 18446744073709551615, 0, []), (2, [], 1, 0, [])] from
          C_of_blockN (d := tenK) (xs := [(1, [], 18446744073709551615, 0, []), (2, [], 1, 0, [])]) (blk_here rfl) rfl (fun j x hj => by
            match j, hj with
            | 0, hj =>
              simp only [List.getElem?_cons_zero, Option.some.injEq] at hj
              subst hj
              refine ⟨[.int .u32 1], _, rfl, ⟨rfl, by show (Lit.int .u32 1).wf = true; decide⟩, [.slice none 0 0], _, rfl, ⟨none, 0, rfl, by simp, rfl, by simp, fun h => by simp at h⟩, [.int .u64 18446744073709551615], _, rfl, ⟨rfl, ?_⟩, [.int .u64 0], _, rfl, ⟨rfl, (by show (Lit.int .u64 0).wf = true; decide)⟩, ⟨none, 0, rfl, by simp, rfl, by simp, fun h => by simp at h⟩⟩
              show (Lit.int .u64 18446744073709551615).wf = true
              decide
            | 1, hj =>
              simp only [List.getElem?_cons_succ, List.getElem?_cons_zero, Option.some.injEq] at hj
              subst hj
              refine ⟨[.int .u32 2], _, rfl, ⟨rfl, by show (Lit.int .u32 2).wf = true; decide⟩, [.slice none 0 0], _, rfl, ⟨none, 0, rfl, by simp, rfl, by simp, fun h => by simp at h⟩, [.int .u64 1], _, rfl, ⟨rfl, ?_⟩, [.int .u64 0], _, rfl, ⟨rfl, (by show (Lit.int .u64 0).wf = true; decide)⟩, ⟨none, 0, rfl, by simp, rfl, by simp, fun h => by simp at h⟩⟩
              show (Lit.int .u64 1).wf = true
              decide
            | j + 2, hj => simp at hj) (by simp))
        have HB6 := Aside0.mk (below_go HB5.out A6.out)
        have HC6 := Aside0.mk (Kd.C_below HC10.out A6.out)
        clear HC10
        go_wp2_with fail
        refine (right_calls z zb b r hz hzb hb hr _).mono ?_
        rintro e w7 ⟨rfl, hw7⟩
        have k0 := pw_cell_below hw7 k0
        have k1 := pw_cell_below hw7 k1
        have k2 := pw_cell_below hw7 k2
        have k3 := pw_cell_below hw7 k3
        have HB7 := Aside0.mk (below_go HB6.out hw7)
        have HCX := Aside0.mk (show tenK.C w7 A i xs from Kd.C_below H4.out HB7.out)
        have HCT := Aside0.mk (show tenK.C w7 A9 n9 (xs.drop q ++ xs.take q) from Kd.C_below HC4.out HB7.out)
        have HCK := Aside0.mk (show tenK.C w7 A q (xs.take q) from Kd.C_below HT4.out HB7.out)
        have HCH := Aside0.mk (show tenK.C w7 A10 n10 (xs.map half) from Kd.C_below HC6.out hw7)
        have HCG := Aside0.mk (Kd.C_below HCB.out hw7)
        have HBW := Aside0.mk (show Below g w w7 from below_then HBg.out (by have h1 := HBg.out.size; have h2 := HG.out; omega) HB7.out)
        obtain ⟨g2, hg2⟩ : ∃ g2, wr.heap.size = g2 := ⟨_, rfl⟩
        rw [hg2] at HCG ⊢
        clear hw7 HC6 HCB HB6 A6 HB7 HB5 HC4 HT4 H4 HBg hg2
        have HCN := Aside0.mk (show tenK.C w7 none 0 [] from ⟨rfl, by omega, fun h => absurd h (by omega)⟩)
        have HVG := Aside0.mk (big_fits z zb b r)
        go_wp2_with fail
        cases hF : fits z zb b r xs with
        | true =>
          have hrt : Rt z zb b r := ((fits_iff _ _ _ _ _).1 hF).1
          rw [decide_eq_true hrt]
          have HVN := Aside0.mk ((nil_fits z zb b r).trans (decide_eq_true hrt))
          have HVT := Aside0.mk ((turned_fits z zb b r xs q).trans hF)
          have HVK := Aside0.mk (take_fits hF q)
          have HVH := Aside0.mk (half_fits hF)
          clear hrt hF
          go_region_held3 (fun w' => w'.cell? ⟨g, 0, none⟩ = some (.int .i64 z) ∧ w'.cell? ⟨g, 1, none⟩ = some (.int .i64 zb) ∧ w'.cell? ⟨g, 2, none⟩ = some (.int .i64 b) ∧ w'.cell? ⟨g, 3, none⟩ = some (.int .i64 r) ∧ Below w7.heap.size w7 w')
            (first
              | exact ⟨k0, k1, k2, k3, below_drew (Below.refl _ _)⟩
              | (go_split_ands; refine (fun hB => And.intro (pw_cell_below hB k0) (And.intro (pw_cell_below hB k1) (And.intro (pw_cell_below hB k2) (And.intro (pw_cell_below hB k3) hB)))) ?_; exact below_go (by assumption) hw1))
            (first | (go_at_call 18; go_split_ands; (with_reducible refine (fits_at z zb b r hz hzb hb hr A9 n9 c9 _ _ _ (Kd.C_below HCT.out (by assumption)) HVT.out).mono ?_); rintro e w8 ⟨rfl, hw1⟩) | (go_at_call 18; go_split_ands; (with_reducible refine (fits_at z zb b r hz hzb hb hr A q cap _ _ _ (Kd.C_below HCK.out (by assumption)) HVK.out).mono ?_); rintro e w8 ⟨rfl, hw1⟩) | (go_at_call 18; go_split_ands; (with_reducible refine (fits_at z zb b r hz hzb hb hr A10 n10 c10 _ _ _ (Kd.C_below HCH.out (by assumption)) HVH.out).mono ?_); rintro e w8 ⟨rfl, hw1⟩) | (go_at_call 18; go_split_ands; (with_reducible refine (fits_at z zb b r hz hzb hb hr (some ⟨g2, 0, none⟩) 2 2 _ _ _ (Kd.C_below HCG.out (by assumption)) HVG.out).mono ?_); rintro e w8 ⟨rfl, hw1⟩) | (go_at_call 18; go_split_ands; (with_reducible refine (fits_at z zb b r hz hzb hb hr none 0 0 _ _ _ (Kd.C_below HCN.out (by assumption)) HVN.out).mono ?_); rintro e w8 ⟨rfl, hw1⟩))
          all_goals
            go_split_ands
            have hB := ‹Below w7.heap.size w7 _›
            have HB := Aside0.mk (below_then HBW.out (by have h1 := HBW.out.size; have h2 := HG.out; omega) hB)
            clear hB
            go_wp2
            go_ret
            exact ⟨rfl, by rw [HG.out]; exact HB.out⟩
        | false =>
          have HVT := Aside0.mk ((turned_fits z zb b r xs q).trans hF)
          have HVN := Aside0.mk (nil_fits z zb b r)
          have HVK := HVT
          have HVH := HVT
          clear hF
          refine wp_region_held_drew (S := (fun w' => w'.cell? ⟨g, 0, none⟩ = some (.int .i64 z) ∧ w'.cell? ⟨g, 1, none⟩ = some (.int .i64 zb) ∧ w'.cell? ⟨g, 2, none⟩ = some (.int .i64 b) ∧ w'.cell? ⟨g, 3, none⟩ = some (.int .i64 r) ∧ Below w7.heap.size w7 w')) (by kernel_rfl) ⟨k0, k1, k2, k3, below_drew (Below.refl _ _)⟩ (fun hHeld => ?_)
          refine wpAnyH_take (i := 0) (oi := { dst := some 65, op := Op.load 44 (Operand.tmp 3), type := 44, pos := "more.go:27", after := #[], guard := none }) (v := ?_) rfl (by kernel_rfl) (by kernel_rfl) (by kernel_rfl) (fun _ _ _ h => h) (Or.inl ⟨by rfl, ?_⟩) (by assumption) ?_
          rotate_left
          · (intro w hSw; (try dsimp only at hSw); go_simp; (try with_reducible rfl))
          (try simp only [Act.put, List.setIfInBounds_toArray, List.set_cons_zero, List.set_cons_succ])
          refine wpAnyH_take (i := 1) (oi := { dst := some 66, op := Op.move (Operand.tmp 9), type := 22, pos := "more.go:27", after := #[], guard := none }) (v := ?_) rfl (by kernel_rfl) (by kernel_rfl) (by kernel_rfl) (fun _ _ _ h => h) (Or.inl ⟨by rfl, ?_⟩) (by assumption) ?_
          rotate_left
          · (intro w hSw; (try dsimp only at hSw); go_simp; (try with_reducible rfl))
          (try simp only [Act.put, List.setIfInBounds_toArray, List.set_cons_zero, List.set_cons_succ])
          refine wpAnyH_take (i := 3) (oi := { dst := some 68, op := Op.move (Operand.tmp 7), type := 4, pos := "more.go:27", after := #[], guard := none }) (v := ?_) rfl (by kernel_rfl) (by kernel_rfl) (by kernel_rfl) (fun _ _ _ h => h) (Or.inl ⟨by rfl, ?_⟩) (by assumption) ?_
          rotate_left
          · (intro w hSw; (try dsimp only at hSw); go_simp; (try with_reducible rfl))
          (try simp only [Act.put, List.setIfInBounds_toArray, List.set_cons_zero, List.set_cons_succ])
          refine wpAnyH_ready (rs := [2]) (by kernel_rfl) (by simp) ?_
          refine AllReadyH.cons (o := { dst := some 67, op := Op.call { callee := Callee.value (Operand.func 18), args := #[Operand.tmp 65, Operand.tmp 66], argTypes := #[44, 22] }, type := 4, pos := "more.go:27", after := #[{ on := 0, ground := Ground.data }, { on := 1, ground := Ground.data }], guard := none }) rfl (fun K hK => ?_) AllReadyH.nil
          go_simp
          (go_at_call 18; (with_reducible refine (fits_at z zb b r hz hzb hb hr A9 n9 c9 _ _ _ (Kd.C_below HCT.out hHeld.2.2.2.2) HVT.out).mono ?_); rintro e w8 ⟨rfl, hw1⟩)
          (try go_wp2_with fail)
          refine hK.out _ _ ?_ (fun hHeld => ?_)
          · exact S_on hHeld hw1
          clear hK K
          (try simp only [Act.put, List.setIfInBounds_toArray, List.set_cons_zero, List.set_cons_succ])
          refine wpAnyH_take (i := 4) (oi := { dst := some 69, op := Op.binOp BinOp.eql 4 (Operand.tmp 67) (Operand.tmp 68) 4, type := 4, pos := "more.go:27", after := #[{ on := 2, ground := Ground.data }, { on := 3, ground := Ground.data }], guard := none }) (v := ?_) rfl (by kernel_rfl) (by kernel_rfl) (by kernel_rfl) (fun _ _ _ h => h) (Or.inl ⟨by rfl, ?_⟩) (by assumption) ?_
          rotate_left
          · (intro w hSw; (try dsimp only at hSw); go_simp; (try with_reducible rfl))
          (try simp only [Act.put, List.setIfInBounds_toArray, List.set_cons_zero, List.set_cons_succ])
          refine wpAnyH_take (i := 5) (oi := { dst := some 70, op := Op.move (Operand.tmp 69), type := 4, pos := "more.go:27", after := #[{ on := 4, ground := Ground.data }, { on := 2, ground := Ground.chain }], guard := none }) (v := ?_) rfl (by kernel_rfl) (by kernel_rfl) (by kernel_rfl) (fun _ _ _ h => h) (Or.inl ⟨by rfl, ?_⟩) (by assumption) ?_
          rotate_left
          · (intro w hSw; (try dsimp only at hSw); go_simp; (try with_reducible rfl))
          (try simp only [Act.put, List.setIfInBounds_toArray, List.set_cons_zero, List.set_cons_succ])
          refine wpAnyH_take (i := 6) (oi := { dst := some 71, op := Op.move (Operand.tmp 7), type := 4, pos := "more.go:27", after := #[{ on := 5, ground := Ground.guard }], guard := some (5, true) }) (v := ?_) rfl (by kernel_rfl) (by kernel_rfl) (by kernel_rfl) (fun _ _ _ h => h) (Or.inl ⟨by rfl, ?_⟩) (by assumption) ?_
          rotate_left
          · (intro w hSw; (try dsimp only at hSw); go_simp; (try with_reducible rfl))
          (try simp only [Act.put, List.setIfInBounds_toArray, List.set_cons_zero, List.set_cons_succ])
          refine wpAnyH_take (i := 7) (oi := { dst := some 72, op := Op.unOp UnOp.not 4 (Operand.tmp 71), type := 4, pos := "more.go:27", after := #[{ on := 6, ground := Ground.data }, { on := 5, ground := Ground.guard }], guard := some (5, true) }) (v := ?_) rfl (by kernel_rfl) (by kernel_rfl) (by kernel_rfl) (fun _ _ _ h => h) (Or.inl ⟨by rfl, ?_⟩) (by assumption) ?_
          rotate_left
          · (intro w hSw; (try dsimp only at hSw); go_simp; (try with_reducible rfl))
          (try simp only [Act.put, List.setIfInBounds_toArray, List.set_cons_zero, List.set_cons_succ])
          refine wpAnyH_take (i := 8) (oi := { dst := some 73, op := Op.move (Operand.tmp 72), type := 4, pos := "more.go:27", after := #[{ on := 7, ground := Ground.data }, { on := 5, ground := Ground.chain }, { on := 5, ground := Ground.guard }], guard := some (5, true) }) (v := ?_) rfl (by kernel_rfl) (by kernel_rfl) (by kernel_rfl) (fun _ _ _ h => h) (Or.inl ⟨by rfl, ?_⟩) (by assumption) ?_
          rotate_left
          · (intro w hSw; (try dsimp only at hSw); go_simp; (try with_reducible rfl))
          (try simp only [Act.put, List.setIfInBounds_toArray, List.set_cons_zero, List.set_cons_succ])
          refine wpAnyH_take (i := 9) (oi := { dst := some 74, op := Op.move (Operand.tmp 14), type := 4, pos := "more.go:27", after := #[{ on := 8, ground := Ground.guard }], guard := some (8, false) }) (v := undef) rfl (by kernel_rfl) (by kernel_rfl) (by kernel_rfl) (fun _ _ _ h => h) (Or.inr ⟨by rfl, rfl⟩) (by assumption) ?_
          (try simp only [Act.put, List.setIfInBounds_toArray, List.set_cons_zero, List.set_cons_succ])
          refine wpAnyH_take (i := 10) (oi := { dst := some 75, op := Op.move (Operand.tmp 74), type := 4, pos := "more.go:27", after := #[{ on := 9, ground := Ground.data }, { on := 8, ground := Ground.chain }, { on := 8, ground := Ground.guard }], guard := some (8, false) }) (v := undef) rfl (by kernel_rfl) (by kernel_rfl) (by kernel_rfl) (fun _ _ _ h => h) (Or.inr ⟨by rfl, rfl⟩) (by assumption) ?_
          (try simp only [Act.put, List.setIfInBounds_toArray, List.set_cons_zero, List.set_cons_succ])
          refine wpAnyH_take (i := 11) (oi := { dst := some 76, op := Op.load 44 (Operand.tmp 3), type := 44, pos := "more.go:27", after := #[{ on := 10, ground := Ground.guard }], guard := some (10, true) }) (v := undef) rfl (by kernel_rfl) (by kernel_rfl) (by kernel_rfl) (fun _ _ _ h => h) (Or.inr ⟨by rfl, rfl⟩) (by assumption) ?_
          (try simp only [Act.put, List.setIfInBounds_toArray, List.set_cons_zero, List.set_cons_succ])
          refine wpAnyH_take (i := 12) (oi := { dst := some 77, op := Op.move (Operand.tmp 1), type := 22, pos := "more.go:27", after := #[{ on := 10, ground := Ground.guard }], guard := some (10, true) }) (v := undef) rfl (by kernel_rfl) (by kernel_rfl) (by kernel_rfl) (fun _ _ _ h => h) (Or.inr ⟨by rfl, rfl⟩) (by assumption) ?_
          (try simp only [Act.put, List.setIfInBounds_toArray, List.set_cons_zero, List.set_cons_succ])
          refine wpAnyH_take (i := 13) (oi := { dst := some 78, op := Op.move (Operand.tmp 8), type := 3, pos := "more.go:27", after := #[{ on := 10, ground := Ground.guard }], guard := some (10, true) }) (v := undef) rfl (by kernel_rfl) (by kernel_rfl) (by kernel_rfl) (fun _ _ _ h => h) (Or.inr ⟨by rfl, rfl⟩) (by assumption) ?_
          (try simp only [Act.put, List.setIfInBounds_toArray, List.set_cons_zero, List.set_cons_succ])
          refine wpAnyH_take (i := 14) (oi := { dst := some 79, op := Op.slice 22 (Operand.tmp 77) none (some (Operand.tmp 78)) none, type := 22, pos := "more.go:27", after := #[{ on := 12, ground := Ground.data }, { on := 13, ground := Ground.data }, { on := 10, ground := Ground.guard }], guard := some (10, true) }) (v := undef) rfl (by kernel_rfl) (by kernel_rfl) (by kernel_rfl) (fun _ _ _ h => h) (Or.inr ⟨by rfl, rfl⟩) (by assumption) ?_
          (try simp only [Act.put, List.setIfInBounds_toArray, List.set_cons_zero, List.set_cons_succ])
          refine wpAnyH_take (i := 15) (oi := { dst := some 80, op := Op.call { callee := Callee.value (Operand.func 18), args := #[Operand.tmp 76, Operand.tmp 79], argTypes := #[44, 22] }, type := 4, pos := "more.go:27", after := #[{ on := 11, ground := Ground.data }, { on := 14, ground := Ground.data }, { on := 10, ground := Ground.chain }, { on := 10, ground := Ground.guard }], guard := some (10, true) }) (v := undef) rfl (by kernel_rfl) (by kernel_rfl) (by kernel_rfl) (fun _ _ _ h => h) (Or.inr ⟨by rfl, rfl⟩) (by assumption) ?_
          (try simp only [Act.put, List.setIfInBounds_toArray, List.set_cons_zero, List.set_cons_succ])
          refine wpAnyH_take (i := 16) (oi := { dst := some 81, op := Op.pick (Operand.tmp 75) (Operand.tmp 80) (Operand.const (Value.bool false)), type := 4, pos := "more.go:27", after := #[{ on := 10, ground := Ground.data }, { on := 15, ground := Ground.data }, { on := 8, ground := Ground.guard }], guard := some (8, false) }) (v := undef) rfl (by kernel_rfl) (by kernel_rfl) (by kernel_rfl) (fun _ _ _ h => h) (Or.inr ⟨by rfl, rfl⟩) (by assumption) ?_
          (try simp only [Act.put, List.setIfInBounds_toArray, List.set_cons_zero, List.set_cons_succ])
          refine wpAnyH_take (i := 17) (oi := { dst := some 82, op := Op.move (Operand.tmp 81), type := 4, pos := "more.go:27", after := #[{ on := 16, ground := Ground.data }, { on := 15, ground := Ground.chain }, { on := 8, ground := Ground.guard }], guard := some (8, false) }) (v := undef) rfl (by kernel_rfl) (by kernel_rfl) (by kernel_rfl) (fun _ _ _ h => h) (Or.inr ⟨by rfl, rfl⟩) (by assumption) ?_
          (try simp only [Act.put, List.setIfInBounds_toArray, List.set_cons_zero, List.set_cons_succ])
          refine wpAnyH_take (i := 18) (oi := { dst := some 83, op := Op.load 44 (Operand.tmp 3), type := 44, pos := "more.go:27", after := #[{ on := 17, ground := Ground.guard }], guard := some (17, true) }) (v := undef) rfl (by kernel_rfl) (by kernel_rfl) (by kernel_rfl) (fun _ _ _ h => h) (Or.inr ⟨by rfl, rfl⟩) (by assumption) ?_
          (try simp only [Act.put, List.setIfInBounds_toArray, List.set_cons_zero, List.set_cons_succ])
          refine wpAnyH_take (i := 19) (oi := { dst := some 84, op := Op.move (Operand.tmp 10), type := 22, pos := "more.go:27", after := #[{ on := 17, ground := Ground.guard }], guard := some (17, true) }) (v := undef) rfl (by kernel_rfl) (by kernel_rfl) (by kernel_rfl) (fun _ _ _ h => h) (Or.inr ⟨by rfl, rfl⟩) (by assumption) ?_
          (try simp only [Act.put, List.setIfInBounds_toArray, List.set_cons_zero, List.set_cons_succ])
          refine wpAnyH_take (i := 20) (oi := { dst := some 85, op := Op.call { callee := Callee.value (Operand.func 18), args := #[Operand.tmp 83, Operand.tmp 84], argTypes := #[44, 22] }, type := 4, pos := "more.go:27", after := #[{ on := 18, ground := Ground.data }, { on := 19, ground := Ground.data }, { on := 17, ground := Ground.chain }, { on := 17, ground := Ground.guard }], guard := some (17, true) }) (v := undef) rfl (by kernel_rfl) (by kernel_rfl) (by kernel_rfl) (fun _ _ _ h => h) (Or.inr ⟨by rfl, rfl⟩) (by assumption) ?_
          (try simp only [Act.put, List.setIfInBounds_toArray, List.set_cons_zero, List.set_cons_succ])
          refine wpAnyH_take (i := 21) (oi := { dst := some 86, op := Op.pick (Operand.tmp 82) (Operand.tmp 85) (Operand.const (Value.bool false)), type := 4, pos := "more.go:27", after := #[{ on := 17, ground := Ground.data }, { on := 20, ground := Ground.data }, { on := 8, ground := Ground.guard }], guard := some (8, false) }) (v := undef) rfl (by kernel_rfl) (by kernel_rfl) (by kernel_rfl) (fun _ _ _ h => h) (Or.inr ⟨by rfl, rfl⟩) (by assumption) ?_
          (try simp only [Act.put, List.setIfInBounds_toArray, List.set_cons_zero, List.set_cons_succ])
          refine wpAnyH_take (i := 22) (oi := { dst := some 87, op := Op.pick (Operand.tmp 73) (Operand.const (Value.bool true)) (Operand.tmp 86), type := 4, pos := "more.go:27", after := #[{ on := 8, ground := Ground.data }, { on := 21, ground := Ground.data }, { on := 5, ground := Ground.guard }], guard := some (5, true) }) (v := ?_) rfl (by kernel_rfl) (by kernel_rfl) (by kernel_rfl) (fun _ _ _ h => h) (Or.inl ⟨by rfl, ?_⟩) (by assumption) ?_
          rotate_left
          · (intro w hSw; (try dsimp only at hSw); go_simp; (try with_reducible rfl))
          (try simp only [Act.put, List.setIfInBounds_toArray, List.set_cons_zero, List.set_cons_succ])
          refine wpAnyH_take (i := 23) (oi := { dst := some 88, op := Op.pick (Operand.tmp 70) (Operand.tmp 87) (Operand.const (Value.bool false)), type := 4, pos := "more.go:27", after := #[{ on := 5, ground := Ground.data }, { on := 22, ground := Ground.data }], guard := none }) (v := ?_) rfl (by kernel_rfl) (by kernel_rfl) (by kernel_rfl) (fun _ _ _ h => h) (Or.inl ⟨by rfl, ?_⟩) (by assumption) ?_
          rotate_left
          · (intro w hSw; (try dsimp only at hSw); go_simp; (try with_reducible rfl))
          (try simp only [Act.put, List.setIfInBounds_toArray, List.set_cons_zero, List.set_cons_succ])
          refine wpAnyH_take (i := 24) (oi := { dst := some 89, op := Op.move (Operand.tmp 88), type := 4, pos := "more.go:27", after := #[{ on := 23, ground := Ground.data }, { on := 20, ground := Ground.chain }], guard := none }) (v := ?_) rfl (by kernel_rfl) (by kernel_rfl) (by kernel_rfl) (fun _ _ _ h => h) (Or.inl ⟨by rfl, ?_⟩) (by assumption) ?_
          rotate_left
          · (intro w hSw; (try dsimp only at hSw); go_simp; (try with_reducible rfl))
          (try simp only [Act.put, List.setIfInBounds_toArray, List.set_cons_zero, List.set_cons_succ])
          refine wpAnyH_take (i := 25) (oi := { dst := some 90, op := Op.load 44 (Operand.tmp 3), type := 44, pos := "more.go:27", after := #[{ on := 24, ground := Ground.guard }], guard := some (24, true) }) (v := ?_) rfl (by kernel_rfl) (by kernel_rfl) (by kernel_rfl) (fun _ _ _ h => h) (Or.inl ⟨by rfl, ?_⟩) (by assumption) ?_
          rotate_left
          · (intro w hSw; (try dsimp only at hSw); go_simp; (try with_reducible rfl))
          (try simp only [Act.put, List.setIfInBounds_toArray, List.set_cons_zero, List.set_cons_succ])
          refine wpAnyH_take (i := 26) (oi := { dst := some 91, op := Op.move (Operand.tmp 13), type := 22, pos := "more.go:27", after := #[{ on := 24, ground := Ground.guard }], guard := some (24, true) }) (v := ?_) rfl (by kernel_rfl) (by kernel_rfl) (by kernel_rfl) (fun _ _ _ h => h) (Or.inl ⟨by rfl, ?_⟩) (by assumption) ?_
          rotate_left
          · (intro w hSw; (try dsimp only at hSw); go_simp; (try with_reducible rfl))
          (try simp only [Act.put, List.setIfInBounds_toArray, List.set_cons_zero, List.set_cons_succ])
          refine wpAnyH_ready (rs := [27]) (by kernel_rfl) (by simp) ?_
          refine AllReadyH.cons (o := { dst := some 92, op := Op.call { callee := Callee.value (Operand.func 18), args := #[Operand.tmp 90, Operand.tmp 91], argTypes := #[44, 22] }, type := 4, pos := "more.go:27", after := #[{ on := 25, ground := Ground.data }, { on := 26, ground := Ground.data }, { on := 24, ground := Ground.chain }, { on := 24, ground := Ground.guard }], guard := some (24, true) }) rfl (fun K hK => ?_) AllReadyH.nil
          go_simp
          (go_at_call 18; (with_reducible refine (fits_at z zb b r hz hzb hb hr (some ⟨g2, 0, none⟩) 2 2 _ _ _ (Kd.C_below HCG.out hHeld.2.2.2.2) HVG.out).mono ?_); rintro e w8 ⟨rfl, hw1⟩)
          (try go_wp2_with fail)
          refine hK.out _ _ ?_ (fun hHeld => ?_)
          · exact S_on hHeld hw1
          clear hK K
          (try simp only [Act.put, List.setIfInBounds_toArray, List.set_cons_zero, List.set_cons_succ])
          refine wpAnyH_take (i := 28) (oi := { dst := some 93, op := Op.unOp UnOp.not 4 (Operand.tmp 92), type := 4, pos := "more.go:27", after := #[{ on := 27, ground := Ground.data }, { on := 24, ground := Ground.guard }], guard := some (24, true) }) (v := ?_) rfl (by kernel_rfl) (by kernel_rfl) (by kernel_rfl) (fun _ _ _ h => h) (Or.inl ⟨by rfl, ?_⟩) (by assumption) ?_
          rotate_left
          · (intro w hSw; (try dsimp only at hSw); go_simp; (try with_reducible rfl))
          (try simp only [Act.put, List.setIfInBounds_toArray, List.set_cons_zero, List.set_cons_succ])
          refine wpAnyH_take (i := 29) (oi := { dst := some 94, op := Op.pick (Operand.tmp 89) (Operand.tmp 93) (Operand.const (Value.bool false)), type := 4, pos := "more.go:27", after := #[{ on := 24, ground := Ground.data }, { on := 28, ground := Ground.data }], guard := none }) (v := ?_) rfl (by kernel_rfl) (by kernel_rfl) (by kernel_rfl) (fun _ _ _ h => h) (Or.inl ⟨by rfl, ?_⟩) (by assumption) ?_
          rotate_left
          · (intro w hSw; (try dsimp only at hSw); go_simp; (try with_reducible rfl))
          (try simp only [Act.put, List.setIfInBounds_toArray, List.set_cons_zero, List.set_cons_succ])
          refine wpAnyH_take (i := 30) (oi := { dst := some 95, op := Op.move (Operand.tmp 94), type := 4, pos := "more.go:27", after := #[{ on := 29, ground := Ground.data }, { on := 27, ground := Ground.chain }], guard := none }) (v := ?_) rfl (by kernel_rfl) (by kernel_rfl) (by kernel_rfl) (fun _ _ _ h => h) (Or.inl ⟨by rfl, ?_⟩) (by assumption) ?_
          rotate_left
          · (intro w hSw; (try dsimp only at hSw); go_simp; (try with_reducible rfl))
          (try simp only [Act.put, List.setIfInBounds_toArray, List.set_cons_zero, List.set_cons_succ])
          refine wpAnyH_take (i := 31) (oi := { dst := some 96, op := Op.load 44 (Operand.tmp 3), type := 44, pos := "more.go:27", after := #[{ on := 30, ground := Ground.guard }], guard := some (30, true) }) (v := ?_) rfl (by kernel_rfl) (by kernel_rfl) (by kernel_rfl) (fun _ _ _ h => h) (Or.inl ⟨by rfl, ?_⟩) (by assumption) ?_
          rotate_left
          · (intro w hSw; (try dsimp only at hSw); go_simp; (try with_reducible rfl))
          (try simp only [Act.put, List.setIfInBounds_toArray, List.set_cons_zero, List.set_cons_succ])
          refine wpAnyH_take (i := 33) (oi := { dst := some 98, op := Op.move (Operand.tmp 14), type := 4, pos := "more.go:27", after := #[{ on := 30, ground := Ground.guard }], guard := some (30, true) }) (v := ?_) rfl (by kernel_rfl) (by kernel_rfl) (by kernel_rfl) (fun _ _ _ h => h) (Or.inl ⟨by rfl, ?_⟩) (by assumption) ?_
          rotate_left
          · (intro w hSw; (try dsimp only at hSw); go_simp; (try with_reducible rfl))
          (try simp only [Act.put, List.setIfInBounds_toArray, List.set_cons_zero, List.set_cons_succ])
          refine wpAnyH_ready (rs := [32]) (by kernel_rfl) (by simp) ?_
          refine AllReadyH.cons (o := { dst := some 97, op := Op.call { callee := Callee.value (Operand.func 18), args := #[Operand.tmp 96, Operand.const (Value.slice none 0 0)], argTypes := #[44, 22] }, type := 4, pos := "more.go:27", after := #[{ on := 31, ground := Ground.data }, { on := 30, ground := Ground.chain }, { on := 30, ground := Ground.guard }], guard := some (30, true) }) rfl (fun K hK => ?_) AllReadyH.nil
          go_simp
          (go_at_call 18; (with_reducible refine (fits_at z zb b r hz hzb hb hr none 0 0 _ _ _ (Kd.C_below HCN.out hHeld.2.2.2.2) HVN.out).mono ?_); rintro e w8 ⟨rfl, hw1⟩)
          (try go_wp2_with fail)
          refine hK.out _ _ ?_ (fun hHeld => ?_)
          · exact S_on hHeld hw1
          clear hK K
          (try simp only [Act.put, List.setIfInBounds_toArray, List.set_cons_zero, List.set_cons_succ])
          refine wpAnyH_take (i := 34) (oi := { dst := some 99, op := Op.binOp BinOp.eql 4 (Operand.tmp 97) (Operand.tmp 98) 4, type := 4, pos := "more.go:27", after := #[{ on := 32, ground := Ground.data }, { on := 33, ground := Ground.data }, { on := 30, ground := Ground.guard }], guard := some (30, true) }) (v := ?_) rfl (by kernel_rfl) (by kernel_rfl) (by kernel_rfl) (fun _ _ _ h => h) (Or.inl ⟨by rfl, ?_⟩) (by assumption) ?_
          rotate_left
          · (intro w hSw; (try dsimp only at hSw); go_simp; (try with_reducible rfl))
          (try simp only [Act.put, List.setIfInBounds_toArray, List.set_cons_zero, List.set_cons_succ])
          refine wpAnyH_take (i := 35) (oi := { dst := some 100, op := Op.pick (Operand.tmp 95) (Operand.tmp 99) (Operand.const (Value.bool false)), type := 4, pos := "more.go:27", after := #[{ on := 30, ground := Ground.data }, { on := 34, ground := Ground.data }], guard := none }) (v := ?_) rfl (by kernel_rfl) (by kernel_rfl) (by kernel_rfl) (fun _ _ _ h => h) (Or.inl ⟨by rfl, ?_⟩) (by assumption) ?_
          rotate_left
          · (intro w hSw; (try dsimp only at hSw); go_simp; (try with_reducible rfl))
          (try simp only [Act.put, List.setIfInBounds_toArray, List.set_cons_zero, List.set_cons_succ])
          refine wpAnyH_take (i := 36) (oi := { dst := some 6, op := Op.assign (Operand.tmp 100), type := 4, pos := "more.go:27", after := #[{ on := 35, ground := Ground.data }, { on := 32, ground := Ground.chain }, { on := 0, ground := Ground.phase }, { on := 1, ground := Ground.phase }, { on := 2, ground := Ground.phase }, { on := 3, ground := Ground.phase }, { on := 4, ground := Ground.phase }, { on := 5, ground := Ground.phase }, { on := 6, ground := Ground.phase }, { on := 7, ground := Ground.phase }, { on := 8, ground := Ground.phase }, { on := 9, ground := Ground.phase }, { on := 10, ground := Ground.phase }, { on := 11, ground := Ground.phase }, { on := 12, ground := Ground.phase }, { on := 13, ground := Ground.phase }, { on := 14, ground := Ground.phase }, { on := 15, ground := Ground.phase }, { on := 16, ground := Ground.phase }, { on := 17, ground := Ground.phase }, { on := 18, ground := Ground.phase }, { on := 19, ground := Ground.phase }, { on := 20, ground := Ground.phase }, { on := 21, ground := Ground.phase }, { on := 22, ground := Ground.phase }, { on := 23, ground := Ground.phase }, { on := 24, ground := Ground.phase }, { on := 25, ground := Ground.phase }, { on := 26, ground := Ground.phase }, { on := 27, ground := Ground.phase }, { on := 28, ground := Ground.phase }, { on := 29, ground := Ground.phase }, { on := 30, ground := Ground.phase }, { on := 31, ground := Ground.phase }, { on := 32, ground := Ground.phase }, { on := 33, ground := Ground.phase }, { on := 34, ground := Ground.phase }, { on := 35, ground := Ground.phase }], guard := none }) (v := ?_) rfl (by kernel_rfl) (by kernel_rfl) (by kernel_rfl) (fun _ _ _ h => h) (Or.inl ⟨by rfl, ?_⟩) (by assumption) ?_
          rotate_left
          · (intro w hSw; (try dsimp only at hSw); go_simp; (try with_reducible rfl))
          (try simp only [Act.put, List.setIfInBounds_toArray, List.set_cons_zero, List.set_cons_succ])
          refine wpAnyH_done (by kernel_rfl) ?_ _
          all_goals
            go_split_ands
            have hB := ‹Below w7.heap.size w7 _›
            have HB := Aside0.mk (below_then HBW.out (by have h1 := HBW.out.size; have h2 := HG.out; omega) hB)
            clear hB
            go_wp2
            go_ret
            exact ⟨rfl, by rw [HG.out]; exact HB.out⟩
  · go_enter Try.func6, Try.ntmps6
    go_wp2_with fail
    refine (known_calls _).mono ?_
    rintro e w1 ⟨rfl, hw1⟩
    have HB1 := Aside0.mk (below_then hA.out hA.out.size hw1)
    clear hw1
    go_wp2
    go_ret
    exact ⟨rfl, HB1.out⟩
theorem room_walk (W : World) (s : Int × Int × Int × Int) (hs : IsI s.1 ∧ IsI s.2.1 ∧ IsI s.2.2.1 ∧ IsI s.2.2.2) (a : Option Addr) (len cap : Nat) (l : List Ten) (le : len ≤ cap) (c : tenK.C W a len l) (k : Int) (hk : -9223372036854775808 ≤ k ∧ k ≤ 9223372036854775807) :
    Calls Try.prog 6 #[.agg #[.int .i64 s.1, .int .i64 s.2.1, .int .i64 s.2.2.1, .int .i64 s.2.2.2], .slice a len cap, .int .i64 k] W fun e w' => e = .returned (.bool true) ∧ Below W.heap.size W w' :=
  room_law _ _ _ _ hs.1 hs.2.1 hs.2.2.1 hs.2.2.2 a len cap l le k hk.2 W c
end Go.Proofs.Ytiepfinipmafcaa.Led
