/- RecOne walks whole. -/
import Derived.Test.YtefgahakbnfdeaaRecUtil
namespace Go.Proofs.Ytefgahakbnfdeaa.Rc
open Go.RowKit Go.Proofs.YtefgahakbnfdeaaW.PrintWords Go.Proofs.YtefgahakbnfdeaaW.PrintMore Go.Proofs.Ytefgahakbnfdeaa.Base
set_option linter.unusedVariables false
set_option linter.unusedSimpArgs false
theorem ownI_C {w : World} {b n c : Nat} {A : Option Addr} {xs : List Itm} (h : OwnI w b (.slice A n c) xs) : itK.C w A n xs ∧ n ≤ c := by
  obtain ⟨A', c', he, hc, hC⟩ := Kd.R_reads h
  simp only [Value.slice.injEq] at he
  obtain ⟨rfl, rfl, rfl⟩ := he
  exact ⟨hC, hc⟩
theorem recIs_rok {b : List UInt8} {n : Nat} (h : RecIs b) (hn : b.length = n) : ROk (itN b) (n : Int) ∧ enc (sqN b) (itN b) (n : Int).toNat = b := by
  obtain ⟨⟨h1, h2, h3⟩, h4⟩ := h.enc
  rw [hn] at h2 h4
  refine ⟨⟨h1, ?_, h3⟩, by rw [Int.toNat_natCast]; exact h4⟩
  rw [rmZ_nat]
  omega
set_option maxRecDepth 100000 in
set_option maxHeartbeats 2000000 in
theorem rone_walk (w : World) (A : Option Addr) (n c : Nat) (b : List UInt8) (hnc : n ≤ c) (hc : c ≤ 9223372036854775807) (h : byte.C w A n b) :
    Calls Try.prog 6 #[.slice A n c] w fun e w' => e = .returned (.bool true) ∧ Below w.heap.size w w' := by
  obtain ⟨hl, hm⟩ := C_len h
  have HL := Aside0.mk hl
  have HC := Aside0.mk h
  clear h hl
  by_cases h5 : 5000 < n
  · have hd : decide ((5000 : Int) < (n : Int)) = true := decide_eq_true (by omega)
    have hd' : decide (5000 < n) = true := decide_eq_true (by omega)
    clear h5
    go_enter Try.func6, Try.ntmps6
    go_wp2_with fail
    refine (known_calls _).mono ?_
    rintro e w1 ⟨rfl, hb1⟩
    have HB1 := Aside0.mk hb1
    clear hb1
    go_wp2
    go_ret
    exact ⟨rfl, HB1.out⟩
  have hd : decide ((5000 : Int) < (n : Int)) = false := decide_eq_false (by omega)
  have hd' : decide (5000 < n) = false := decide_eq_false (by omega)
  have hn5 : n ≤ 5000 := by omega
  clear h5
  go_enter Try.func6, Try.ntmps6
  go_wp2_with fail
  refine (known_calls _).mono ?_
  rintro e w1 ⟨rfl, hb1⟩
  have HB1 := Aside0.mk hb1
  clear hb1 hd hd'
  go_wp2_with fail
  refine (decode_calls A n c b _ (Kd.C_below HC.out HB1.out) hnc hc (by omega)).mono ?_
  rintro e w2 ⟨hb2, ⟨his, v, rfl, hI⟩ | ⟨-, rfl⟩⟩
  · have HIS := Aside0.mk his
    obtain ⟨Ai, ni, ci, rfl⟩ : ∃ Ai ni ci, v = .slice Ai ni ci := by obtain ⟨Ai, ci, hv⟩ := Kd.R_slice hI; exact ⟨Ai, _, ci, hv⟩
    have HB2 := Aside0.mk (below_go HB1.out hb2)
    obtain ⟨sq, hsq⟩ : ∃ sq, sqN b = sq := ⟨_, rfl⟩
    have HSQ := Aside0.mk hsq
    have HSL := Aside0.mk (show sq < 18446744073709551616 by rw [← hsq]; exact sqN_lt b)
    have HI2 := Aside0.mk (Kd.C_below (ownI_C hI).1 (alloc_below w2 (.cells #[.int .u64 (sq : Int), .slice Ai ni ci] 25)))
    have HB3 := Aside0.mk (below_alloc HB2.out (.cells #[.int .u64 (sq : Int), .slice Ai ni ci] 25))
    rw [hsq]
    clear his hI hb2 hsq
    go_wp2_with fail
    refine (encode_calls sq HSL.out Ai ni ci (itN b) (n : Int) (by omega) _ HI2.out).mono ?_
    rintro e w3 ⟨hb3, ⟨hok, v, rfl, hO⟩ | ⟨hno, -⟩⟩
    case inr => exact absurd (recIs_rok HIS.out HL.out).1 hno
    rw [← HSQ.out, (recIs_rok HIS.out HL.out).2] at hO
    obtain ⟨Ao, no, co, rfl, -, hCo⟩ := hO.reads
    have HB4 := Aside0.mk (below_go HB3.out hb3)
    have HCo := Aside0.mk hCo
    clear hb3 hok hO hCo
    go_wp2_with fail
    refine (same_calls A Ao n no c co b b _ (Kd.C_below HC.out HB4.out) HCo.out).mono ?_
    rintro e w4 ⟨rfl, rfl⟩
    rw [decide_eq_true rfl]
    go_wp2
    go_ret
    exact ⟨rfl, HB4.out⟩
  · have HB2 := Aside0.mk (below_go HB1.out hb2)
    have HB3 := Aside0.mk (below_alloc HB2.out (.cells #[.int .u64 0, .slice none 0 0] 25))
    clear hb2
    go_wp2
    go_ret
    exact ⟨rfl, HB3.out⟩
theorem rone_row (w : World) (A : Option Addr) (n c : Nat) (b : List UInt8) (hnc : n ≤ c) (h : byte.C w A n b) (hc : c ≤ 9223372036854775807) :
    Calls Try.prog 6 #[.slice A n c] w fun e w' => e = .returned (.bool true) ∧ Below w.heap.size w w' := rone_walk w A n c b hnc hc h
end Go.Proofs.Ytefgahakbnfdeaa.Rc
