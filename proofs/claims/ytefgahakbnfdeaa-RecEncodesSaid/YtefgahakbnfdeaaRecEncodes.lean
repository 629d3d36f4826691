/- RecEncodes walks whole. -/
import Derived.Test.YtefgahakbnfdeaaRefEnc
import Derived.Test.YtefgahakbnfdeaaRecOpn
namespace Go.Proofs.Ytefgahakbnfdeaa.Rc
open Go.RowKit Go.Proofs.YtefgahakbnfdeaaW.PrintWords Go.Proofs.YtefgahakbnfdeaaW.PrintMore Go.Proofs.Ytefgahakbnfdeaa.Base
set_option linter.unusedVariables false
set_option linter.unusedSimpArgs false
set_option maxRecDepth 100000 in
set_option maxHeartbeats 4000000 in
theorem rencodes_walk (w : World) (s : Nat × List Itm × Option Addr × Nat × Nat) (hs : RecArg w s) (B : Int) (hB : -9223372036854775808 ≤ B ∧ B ≤ 9223372036854775807) :
    Calls Try.prog 3 #[.agg #[.int .u64 (s.1 : Int), .slice s.2.2.1 s.2.2.2.1 s.2.2.2.2], .int .i64 B] w fun e w' => e = .returned (.bool true) ∧ Below w.heap.size w w' := by
  obtain ⟨q, l, A, n, c⟩ := s
  obtain ⟨hq, h⟩ := hs
  dsimp only at hq h ⊢
  obtain ⟨hl, hm⟩ := C_len h
  have HC := Aside0.mk h
  have HA := Aside0.mk (alloc_below w (.cells #[.int .u64 (q : Int), .slice A n c] 25))
  have HR := Aside0.mk (heap_alloc_new w (.cells #[.int .u64 (q : Int), .slice A n c] 25))
  clear h hl
  by_cases h3 : 300 < n
  · have hd : decide ((300 : Int) < (n : Int)) = true := decide_eq_true (by omega)
    have hd' : decide (300 < n) = true := decide_eq_true (by omega)
    clear h3
    go_enter Try.func3, Try.ntmps3
    go_wp2
    go_ret
    exact ⟨rfl, HA.out⟩
  have hd : decide ((300 : Int) < (n : Int)) = false := decide_eq_false (by omega)
  have hd' : decide (300 < n) = false := decide_eq_false (by omega)
  clear h3
  go_enter Try.func3, Try.ntmps3
  go_wp2_with fail
  obtain ⟨g, hg⟩ : ∃ g, w.heap.size = g := ⟨_, rfl⟩
  obtain ⟨W, hW⟩ : ∃ W, w.alloc (.cells #[.int .u64 (q : Int), .slice A n c] 25) = W := ⟨_, rfl⟩
  rw [hW] at HA HR ⊢
  rw [hg] at HR ⊢
  clear hW hg hd hd'
  refine (encode_calls q hq A n c l B hB _ (Kd.C_below HC.out HA.out)).mono ?_
  rintro e w1 ⟨hb1, h1⟩
  have HB1 := Aside0.mk (below_go HA.out hb1)
  have hr1 := blk_old hb1 HR.out
  have r0 : w1.cell? ⟨g, 0, none⟩ = some (.int .u64 (q : Int)) := by simp [World.cell?, hr1]
  have r1 : w1.cell? ⟨g, 1, none⟩ = some (.slice A n c) := by simp [World.cell?, hr1]
  clear hr1 hb1
  rcases h1 with ⟨hok, v1, rfl, hO1⟩ | ⟨hno, rfl⟩
  · have HOK := Aside0.mk hok
    obtain ⟨A1, n1, c1, rfl, -, hC1⟩ := hO1.reads
    have HC1 := Aside0.mk hC1
    clear hok hO1 hC1
    go_wp2_with fail
    refine (rencode_calls q hq A n c l B hB _ (Kd.C_below HC.out HB1.out)).mono ?_
    rintro e w2 ⟨hb2, ⟨-, v2, rfl, hO2⟩ | ⟨hno, -⟩⟩
    case inr => exact absurd HOK.out hno
    obtain ⟨A2, n2, c2, rfl, -, hC2⟩ := hO2.reads
    have HC2 := Aside0.mk hC2
    have HC12 := Aside0.mk (Kd.C_below HC1.out hb2)
    have HB2 := Aside0.mk (below_go HB1.out hb2)
    clear hb2 hO2 hC2 r0 r1
    go_wp2_with fail
    refine (known_calls _).mono ?_
    rintro e w3 ⟨rfl, hb3⟩
    have HB3 := Aside0.mk (below_go HB2.out hb3)
    have HC13 := Aside0.mk (Kd.C_below HC12.out hb3)
    have HC23 := Aside0.mk (Kd.C_below HC2.out hb3)
    clear hb3
    go_wp2_with fail
    refine (same_calls A1 A2 n1 n2 c1 c2 _ _ _ HC13.out HC23.out).mono ?_
    rintro e w4 ⟨rfl, rfl⟩
    rw [decide_eq_true rfl]
    go_wp2_with fail
    refine (room_calls B hB _).mono ?_
    rintro e w5 ⟨rfl, rfl⟩
    go_wp2_with fail
    refine (rroom_calls B hB _).mono ?_
    rintro e w5 ⟨rfl, rfl⟩
    go_wp2
    go_ret
    exact ⟨by simp, HB3.out⟩
  · have HNO := Aside0.mk hno
    clear hno
    go_wp2_with fail
    refine (rencode_calls q hq A n c l B hB _ (Kd.C_below HC.out HB1.out)).mono ?_
    rintro e w2 ⟨hb2, ⟨hok, -⟩ | ⟨-, rfl⟩⟩
    · exact absurd hok HNO.out
    have HB2 := Aside0.mk (below_go HB1.out hb2)
    clear hb2 r0 r1
    go_wp2_with fail
    refine (known_calls _).mono ?_
    rintro e w3 ⟨rfl, hb3⟩
    have HB3 := Aside0.mk (below_go HB2.out hb3)
    clear hb3
    go_wp2_with fail
    refine (same_calls none none 0 0 0 0 [] [] _ (Kd.C_nil byte _) (Kd.C_nil byte _)).mono ?_
    rintro e w4 ⟨rfl, rfl⟩
    rw [decide_eq_true rfl]
    go_wp2_with fail
    refine (room_calls B hB _).mono ?_
    rintro e w5 ⟨rfl, rfl⟩
    go_wp2_with fail
    refine (rroom_calls B hB _).mono ?_
    rintro e w5 ⟨rfl, rfl⟩
    go_wp2
    go_ret
    exact ⟨by simp, HB3.out⟩
end Go.Proofs.Ytefgahakbnfdeaa.Rc
