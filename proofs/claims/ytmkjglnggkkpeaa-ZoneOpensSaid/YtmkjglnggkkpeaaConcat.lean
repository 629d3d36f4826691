/- slices.Grow, slices.Concat of bytes. -/
import Derived.Test.YtmkjglnggkkpeaaDoes
namespace Go.Proofs.Ytmkjglnggkkpeaa.Dv
open Go.RowKit Go.Proofs.YtmkjglnggkkpeaaW.PrintWords Go.Proofs.YtmkjglnggkkpeaaW.PrintMore Go.Proofs.Ytmkjglnggkkpeaa.Base Go.Proofs.Ytmkjglnggkkpeaa.Shp
set_option linter.unusedVariables false
set_option linter.unusedSimpArgs false
set_option maxHeartbeats 1000000 in
theorem grow_calls (m : Nat) (hm : m ≤ 100000000) (w : World) :
    Calls Try.prog 54 #[.slice none 0 0, .int .i64 (m : Int)] w fun e w' => ∃ v, e = .returned v ∧ Go.Proofs.Ytmkjglnggkkpeaa.Base.Own w' w.heap.size v [] ∧ Below w.heap.size w w' := by
  by_cases h0 : 0 < m
  · have hd0 : decide ((m : Int) < 0) = false := decide_eq_false (by omega)
    have hd1 : decide (0 < (m : Int)) = true := decide_eq_true (by omega)
    go_enter Try.func54, Try.ntmps54
    go_wp2_with (at_builtin; (refine Kd.R_append_zeros byte (w0 := w) w.heap.size rfl (.tmp 20) (.tmp 21) 32 3 5 (.int .u8 0) 1 rfl Try.underlying32 Try.underlying3 info_u8 rfl (by decide) (by decide) (.slice none 0 0) [] (0 : UInt8) (m : Int) anyB rfl rfl rfl (fun _ _ => trivial) (Kd.R_nil _ _ _ _ _) (by omega) (Below.refl _ _) (Nat.le_refl _) (by simp; omega) ?_); intro v1 w1 hR hB _ _; obtain ⟨A1, c1, rfl, hc1, -⟩ := Kd.R_reads hR; have HR := Aside0.mk hR; have HB := Aside0.mk hB; clear hR hB)
    go_ret
    exact ⟨_, rfl, Kd.R_take HR.out (Nat.zero_le _), HB.out⟩
  · obtain rfl : m = 0 := by omega
    go_enter Try.func54, Try.ntmps54
    go_wp2
    go_ret
    exact ⟨_, rfl, Go.Proofs.Ytmkjglnggkkpeaa.Base.Own.nil _ _, Below.refl _ _⟩
theorem flat_len_take {xss : List (List UInt8)} {i : Nat} (h : i < xss.length) : (xss.take (i + 1)).flatten = (xss.take i).flatten ++ xss.getD i [] := by
  rw [take_one [] h rfl, List.flatten_append]
  simp
theorem flat_le {xss : List (List UInt8)} (i : Nat) : (xss.take i).flatten.length ≤ xss.flatten.length := by
  have h : xss.flatten = (xss.take i).flatten ++ (xss.drop i).flatten := by rw [← List.flatten_append, List.take_append_drop]
  rw [h, List.length_append]
  omega
set_option maxHeartbeats 4000000 in
theorem concat_calls (A : Option Addr) (n c : Nat) (xss : List (List UInt8)) (hf : xss.flatten.length ≤ 100000000) (w : World) (h : bytesK.C w A n xss) :
    Calls Try.prog 48 #[.slice A n c] w fun e w' => ∃ v, e = .returned v ∧ Go.Proofs.Ytmkjglnggkkpeaa.Base.Own w' w.heap.size v xss.flatten ∧ Below w.heap.size w w' := by
  obtain ⟨hl, hm⟩ := C_len h
  have HL := Aside0.mk hl
  have HC := Aside0.mk h
  clear h hl
  go_enter Try.func48, Try.ntmps48
  go_wp2
  go_loopg [3, 5, 11] n (fun g v3 v5 v11 wr => ∃ i s : Nat, v11 = .int .i64 (i : Int) ∧ v3 = .int .i64 (s : Int) ∧ i ≤ n ∧ s ≤ 100000000 ∧ Aside0 (g + i = n) ∧ Aside0 (s = (xss.take i).flatten.length) ∧ w = wr)
  case atStart => exact ⟨0, 0, rfl, rfl, by omega, by omega, ⟨rfl⟩, ⟨by simp⟩, rfl⟩
  case round =>
    obtain ⟨i, s, rfl, rfl, hi, hs, HK, HS, rfl⟩ := hrel
    by_cases hlt : i < n
    · obtain ⟨pa, A0, c0, rfl, e0, hk0, hC0⟩ := bytes_at HC.out i hlt
      obtain ⟨x, hx⟩ : ∃ x, xss.getD i [] = x := ⟨_, rfl⟩
      rw [hx] at e0 hk0 hC0
      have hnew : (xss.take (i + 1)).flatten.length = s + x.length := by rw [flat_len_take (by rw [HL.out]; exact hlt), List.length_append, hx, HS.out]
      have hsx : s + x.length ≤ 100000000 := by have := flat_le (xss := xss) (i + 1); omega
      have HN := Aside0.mk hnew
      have hlt' : (i : Int) < (n : Int) := by omega
      have hd0 : decide ((i : Int) < (n : Int)) = true := decide_eq_true hlt'
      have hd1 : decide ((s : Int) + (x.length : Int) < 0) = false := decide_eq_false (by omega)
      clear hx hC0 hnew
      go_wp2
      go_roundg (gk - 1)
      case measure => have := HK.out; omega
      case rel => exact ⟨i + 1, s + x.length, by congr 1, by congr 1, by omega, by omega, ⟨by have := HK.out; omega⟩, ⟨HN.out.symm⟩, rfl⟩
    · obtain rfl : i = n := by omega
      have hd0 : decide ((i : Int) < (i : Int)) = false := decide_eq_false (by omega)
      go_wp2_with fail
      refine (grow_calls s hs _).mono ?_
      rintro e w2 ⟨v2, rfl, hO2, hw2⟩
      have HO2 := Aside0.mk hO2
      have HB2 := Aside0.mk hw2
      clear hO2 hw2
      go_wp2
      go_loopg [6, 8, 27] i (fun g v6 v8 v27 wr => ∃ q : Nat, v27 = .int .i64 (q : Int) ∧ q ≤ i ∧ Aside0 (g + q = i) ∧ Aside0 (Go.Proofs.Ytmkjglnggkkpeaa.Base.Own wr w.heap.size v6 (xss.take q).flatten ∧ Below w.heap.size w wr))
      case atStart => exact ⟨0, rfl, by omega, ⟨rfl⟩, ⟨by rw [List.take_zero]; exact HO2.out, HB2.out⟩⟩
      case round =>
        obtain ⟨q, rfl, hq, HK2, HS2⟩ := hrel
        by_cases hql : q < i
        · obtain ⟨pa, A0, c0, rfl, e0, hk0, hC0⟩ := bytes_at (Kd.C_below HC.out HS2.out.2) q hql
          obtain ⟨x, hx⟩ : ∃ x, xss.getD q [] = x := ⟨_, rfl⟩
          rw [hx] at e0 hk0 hC0
          have HTK := Aside0.mk (flat_len_take (xss := xss) (i := q) (by rw [HL.out]; exact hql))
          have hsx : (xss.take q).flatten.length + x.length ≤ 100000000 := by
            have h1 := flat_le (xss := xss) (q + 1)
            rw [HTK.out, List.length_append, hx] at h1
            omega
          have HSX := Aside0.mk hsx
          have HXE := Aside0.mk hx
          have HCX := Aside0.mk hC0
          have hlt' : (q : Int) < (i : Int) := by omega
          have hd0 : decide ((q : Int) < (i : Int)) = true := decide_eq_true hlt'
          clear hx hC0 hsx
          go_wp2_with (at_builtin; (refine app_row (w0 := w) w.heap.size (.tmp 31) (.tmp 32) rfl rfl _ (xss.take q).flatten x A0 x.length c0 rfl rfl HS2.out.1 HCX.out HS2.out.2 HS2.out.2.size (by have := HSX.out; omega) ?_); intro v9 w9 hO9 hB9 _; have HO9 := Aside0.mk hO9; have HB9 := Aside0.mk hB9; clear hO9 hB9)
          go_roundg (gk - 1)
          case measure => have := HK2.out; omega
          case rel => exact ⟨q + 1, by congr 1, by omega, ⟨by have := HK2.out; omega⟩, ⟨by rw [HTK.out, HXE.out]; exact HO9.out, HB9.out⟩⟩
        · obtain rfl : q = i := by omega
          have hd0 : decide ((q : Int) < (q : Int)) = false := decide_eq_false (by omega)
          go_wp2
          go_ret
          have h9 := HS2.out
          rw [List.take_of_length_le (by rw [HL.out]; omega)] at h9
          exact ⟨_, rfl, h9.1, h9.2⟩
end Go.Proofs.Ytmkjglnggkkpeaa.Dv
