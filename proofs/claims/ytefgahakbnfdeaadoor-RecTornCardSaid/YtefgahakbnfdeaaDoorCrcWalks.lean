/- What the program's check sums compute: crc.half, crc.Next, crc.Sum, coamingref01.Next, coamingref01.Sum: one contract each. -/
import Derived.Test.YtefgahakbnfdeaaDoorProg
import Derived.Test.YtefgahakbnfdeaaDoorBase
import Derived.Test.YtefgahakbnfdeaaDoorCrcPure
import Derived.WalkKit
import Derived.KernelRfl
import Derived.Deep.LoopGhost
import Derived.Deep.QuietTactic
import Derived.BigQuiet
import Derived.WideLaws
namespace Go.Proofs.YtefgahakbnfdeaaDoor.Crc
open Go.RowKit Go.Proofs.YtefgahakbnfdeaaDoorW.PrintWords Go.Proofs.YtefgahakbnfdeaaDoor.Base
set_option linter.unusedVariables false
set_option linter.unusedSimpArgs false

def stpN : Nat → Nat → Nat
  | 0, x => x
  | k + 1, x => stpN k (stp x)

theorem half_calls (c : Nat) (hc : c < 4294967296) (w : World) :
    Calls Tryd.prog 34 #[.int .u32 (c : Int)] w fun e w' => e = .returned (.int .u32 (half c : Int)) ∧ w = w' := by
  go_enter Tryd.func34, Tryd.ntmps34
  go_wp2
  go_loopg [0, 3] 4 (fun k v0 v3 w' => ∃ (x : Nat), v0 = .int .u32 (x : Int) ∧ v3 = .int .i64 (4 - (k : Int)) ∧ x < 4294967296 ∧ k ≤ 4 ∧ Aside0 (stpN k x = half c) ∧ w = w')
  case atStart => exact ⟨c, rfl, rfl, hc, Nat.le_refl _, ⟨rfl⟩, rfl⟩
  case round =>
    obtain ⟨x, rfl, rfl, hx, hk, HA, rfl⟩ := hrel
    cases gk with
    | zero =>
      have he : x = half c := HA.out
      subst he
      go_wp2
      go_ret
      exact ⟨rfl, rfl⟩
    | succ k =>
      have hs := Aside0.mk (step_code x hx)
      have hl := stp_lt x hx
      go_wp2
      go_roundg k
      case measure => omega
      case rel => exact ⟨stp x, by rw [hs.out], by congr 1; omega, hl, by omega, HA, rfl⟩

theorem inv_code (c : Nat) (hc : c < 4294967296) : bits .xor .u32 IntKind.u32.max (c : Int) = ((inv c : Nat) : Int) := by
  have h := u32_xor_nat 4294967295 c (by omega) hc
  have e : (4294967295 ^^^ c) = inv c := by
    unfold inv
    apply Nat.eq_of_testBit_eq
    intro i
    have h1 := Nat.testBit_two_pow_sub_succ (x := c) (n := 32) hc i
    rw [show 2 ^ 32 - (c + 1) = 4294967295 - c by omega] at h1
    rw [h1, Nat.testBit_xor]
    have h2 := Nat.testBit_two_pow_sub_one 32 i
    rw [show 2 ^ 32 - 1 = 4294967295 by decide] at h2
    rw [h2]
    by_cases hi : i < 32
    · simp [hi]
    · have : c.testBit i = false := Nat.testBit_lt_two_pow (Nat.lt_of_lt_of_le hc (by
        rw [show 4294967296 = 2 ^ 32 by decide]; exact Nat.pow_le_pow_right (by omega) (by omega)))
      simp [hi, this]
  rw [e] at h
  exact h

theorem next_calls (c b : Nat) (hc : c < 4294967296) (hb : b < 256) (w : World) :
    Calls Tryd.prog 24 #[.int .u32 (c : Int), .int .u8 (b : Int)] w fun e w' => e = .returned (.int .u32 (nxt c b : Int)) ∧ w = w' := by
  have hsg : IntKind.u32.signed = false := rfl
  have e1 := inv_code c hc
  have hx := xor_byte_lt c b hb
  have e2 := u32_xor_nat (inv c) b (inv_lt c) (by omega)
  have h1 := half_lt _ hx
  have h2 := half_lt _ h1
  have e3 := inv_code _ h2
  have E3 := Aside0.mk e3
  clear e3
  go_enter Tryd.func24, Tryd.ntmps24
  go_wp2_with fail
  refine (half_calls _ hx _).mono ?_
  rintro e w1 ⟨rfl, rfl⟩
  go_wp2_with fail
  refine (half_calls _ h1 _).mono ?_
  rintro e w1 ⟨rfl, rfl⟩
  go_wp2
  go_ret
  refine ⟨?_, rfl⟩
  show Ending.returned (.int .u32 _) = _
  rw [E3.out]
  rfl

/-- The reference's: one round. -/
theorem ref_next_calls (c b : Nat) (hc : c < 4294967296) (hb : b < 256) (w : World) :
    Calls Tryd.prog 25 #[.int .u32 (c : Int), .int .u8 (b : Int)] w fun e w' => e = .returned (.int .u32 (nxt c b : Int)) ∧ w = w' := by
  have hsg : IntKind.u32.signed = false := rfl
  have e1 := inv_code c hc
  have hx := xor_byte_lt c b hb
  have e2 := u32_xor_nat (inv c) b (inv_lt c) (by omega)
  have h2 := half_lt _ (half_lt _ hx)
  have E3 := Aside0.mk (inv_code _ h2)
  go_enter Tryd.func25, Tryd.ntmps25
  go_wp2
  clear e1 e2
  go_loopg [5, 6, 7] 8 (fun k v3 v4 v5 w' => ∃ (x : Nat), v3 = .int .u32 (x : Int) ∧ v4 = .int .i64 (8 - (k : Int)) ∧ x < 4294967296 ∧ k ≤ 8 ∧ Aside0 (stpN k x = half (half (inv c ^^^ b))) ∧ w = w')
  case atStart => exact ⟨inv c ^^^ b, rfl, rfl, hx, Nat.le_refl _, ⟨rfl⟩, rfl⟩
  case round =>
    obtain ⟨x, rfl, rfl, hxx, hk, HA, rfl⟩ := hrel
    cases gk with
    | zero =>
      have he : x = half (half (inv c ^^^ b)) := HA.out
      subst he
      go_wp2
      go_ret
      refine ⟨?_, rfl⟩
      show Ending.returned (.int .u32 _) = _
      rw [E3.out]
      rfl
    | succ k =>
      have hl := stp_lt x hxx
      rcases Nat.mod_two_eq_zero_or_one x with h0 | h0
      · have hq : ((x : Int) % 2 == 1) = false := by rw [show (x : Int) % 2 = 0 by omega]; rfl
        have hv := Aside0.mk (stp_even x (by omega))
        go_wp2
        go_roundg k
        case measure => omega
        case rel => exact ⟨stp x, by rw [← hv.out]; congr 1, by congr 1; omega, hl, by omega, HA, rfl⟩
      · have hq : ((x : Int) % 2 == 1) = true := by rw [show (x : Int) % 2 = 1 by omega]; rfl
        have ho := Aside0.mk (stp_odd x h0)
        have e4 := u32_xor_nat (x / 2) 3988292384 (by omega) (by omega)
        rw [show ((x / 2 : Nat) : Int) = (x : Int) / 2 by omega, show ((3988292384 : Nat) : Int) = 3988292384 from rfl] at e4
        have E4 := Aside0.mk e4
        clear e4
        go_wp2
        go_roundg k
        case measure => omega
        case rel => exact ⟨stp x, by rw [E4.out, ho.out], by congr 1; omega, hl, by omega, HA, rfl⟩

theorem ref_sum_calls (A : Option Addr) (n cap : Nat) (xs : List UInt8) (w : World) (h : byte.C w A n xs) :
    Calls Tryd.prog 15 #[.slice A n cap] w fun e w' => e = .returned (.int .u32 (sum (nat xs) : Int)) ∧ w = w' := by
  obtain ⟨hlen, hmax⟩ := C_len h
  have HC := Aside0.mk h
  have HL := Aside0.mk hlen
  clear h hlen
  go_enter Tryd.func15, Tryd.ntmps15
  go_wp2
  go_loopg [3, 4] n (fun k v3 v4 w' => ∃ (x i : Nat), v3 = .int .u32 (x : Int) ∧ v4 = .int .i64 (i : Int) ∧ x < 4294967296 ∧ i ≤ n ∧ Aside0 (k + i = n) ∧ Aside0 (sumFrom x (nat (xs.drop i)) = sum (nat xs)) ∧ w = w')
  case atStart => exact ⟨0, 0, rfl, rfl, by omega, by omega, ⟨rfl⟩, ⟨rfl⟩, rfl⟩
  case round =>
    obtain ⟨x, i, rfl, rfl, hx, hi, HK, HA, rfl⟩ := hrel
    by_cases hlt : i < n
    · obtain ⟨ad, rfl, hc⟩ := byte_at HC.out i hlt
      have hb := (xs.getD i 0).toNat_lt
      have hn := nxt_lt x (xs.getD i 0).toNat
      have hd := Aside0.mk (drop_getD xs i 0 (by rw [HL.out]; exact hlt))
      generalize xs.getD i 0 = b at *
      go_wp2_with fail
      refine (ref_next_calls _ _ hx hb _).mono ?_
      rintro e w1 ⟨rfl, rfl⟩
      go_wp2
      go_roundg (gk - 1)
      case measure => have := HK.out; omega
      case rel => exact ⟨nxt x b.toNat, i + 1, rfl, by congr 1, hn, by omega, ⟨by have := HK.out; omega⟩, ⟨by rw [← HA.out, hd.out]; rfl⟩, rfl⟩
    · have he : x = sum (nat xs) := by have := HA.out; rw [List.drop_of_length_le (by rw [HL.out]; omega)] at this; exact this
      subst he
      go_wp2
      go_ret
      exact ⟨rfl, rfl⟩

def sumAll (c : Nat) (xss : List (List UInt8)) : Nat := xss.foldl (fun c xs => sumFrom c (nat xs)) c
theorem sumAll_flat (xss : List (List UInt8)) : ∀ c, sumAll c xss = sumFrom c (nat xss.flatten) := by
  induction xss with
  | nil => intro c; rfl
  | cons x l ih =>
    intro c
    rw [List.flatten_cons, nat_append, sumFrom_append, ← ih]
    rfl

theorem crc_sum_calls (A : Option Addr) (n cap : Nat) (xss : List (List UInt8)) (w : World) (h : (Kd.slice 5 byte).C w A n xss) :
    Calls Tryd.prog 14 #[.slice A n cap] w fun e w' => e = .returned (.int .u32 (sum (nat xss.flatten) : Int)) ∧ w = w' := by
  obtain ⟨hlen, hmax⟩ := C_len h
  have HC := Aside0.mk h
  have HL := Aside0.mk hlen
  have HF := Aside0.mk (sumAll_flat xss 0)
  clear h hlen
  go_enter Tryd.func14, Tryd.ntmps14
  go_wp2
  go_loopg [3, 10] n (fun k v3 v4 w' => ∃ (x i : Nat), v3 = .int .u32 (x : Int) ∧ v4 = .int .i64 (i : Int) ∧ x < 4294967296 ∧ i ≤ n ∧ Aside0 (k + i = n) ∧ Aside0 (sumAll x (xss.drop i) = sumAll 0 xss) ∧ w = w')
  case atStart => exact ⟨0, 0, rfl, rfl, by omega, by omega, ⟨rfl⟩, ⟨rfl⟩, rfl⟩
  case round =>
    obtain ⟨x, i, rfl, rfl, hx, hi, HK, HA, rfl⟩ := hrel
    by_cases hlt : i < n
    · obtain ⟨ad, A0, c0, rfl, hc, hl0, hr0⟩ := bytes_at HC.out i hlt
      have hd := Aside0.mk (drop_getD xss i [] (by rw [HL.out]; exact hlt))
      have HA1 : Aside0 (sumAll (sumFrom x (nat (xss.getD i []))) (xss.drop (i + 1)) = sumAll 0 xss) := ⟨by rw [← HA.out, hd.out]; rfl⟩
      clear HA hd
      generalize xss.getD i [] = xs at *
      obtain ⟨_, hmax0⟩ := C_len hr0
      have HC0 := Aside0.mk hr0
      clear hr0
      go_wp2
      go_loopg [3, 16] xs.length (fun k v3 v4 w' => ∃ (y j : Nat), v3 = .int .u32 (y : Int) ∧ v4 = .int .i64 (j : Int) ∧ y < 4294967296 ∧ j ≤ xs.length ∧ Aside0 (k + j = xs.length) ∧ Aside0 (sumFrom y (nat (xs.drop j)) = sumFrom x (nat xs)) ∧ w = w')
      case atStart => exact ⟨x, 0, rfl, rfl, hx, by omega, ⟨rfl⟩, ⟨rfl⟩, rfl⟩
      case round =>
        rename_i gk0 _ _ _ _ _
        obtain ⟨y, j, rfl, rfl, hy, hj, HK2, HA2, rfl⟩ := hrel
        by_cases hlt2 : j < xs.length
        · obtain ⟨ad0, rfl, hc0⟩ := byte_at HC0.out j hlt2
          have hb := (xs.getD j 0).toNat_lt
          have hn := nxt_lt y (xs.getD j 0).toNat
          have hd := Aside0.mk (drop_getD xs j 0 hlt2)
          generalize xs.getD j 0 = b at *
          go_wp2_with fail
          refine (next_calls _ _ hy hb _).mono ?_
          rintro e w1 ⟨rfl, rfl⟩
          go_wp2
          go_roundg (gk - 1)
          case measure => have := HK2.out; omega
          case rel => exact ⟨nxt y b.toNat, j + 1, rfl, by congr 1, hn, by omega, ⟨by have := HK2.out; omega⟩, ⟨by rw [← HA2.out, hd.out]; rfl⟩, rfl⟩
        · have he : y = sumFrom x (nat xs) := by have := HA2.out; rw [List.drop_of_length_le (by omega)] at this; exact this
          subst he
          go_wp2
          go_roundg (n - (i + 1))
          case measure => have := HK.out; omega
          case rel => exact ⟨sumFrom x (nat xs), i + 1, rfl, by congr 1, hy, by omega, ⟨by omega⟩, HA1, rfl⟩
    · have he : x = sumAll 0 xss := by have := HA.out; rw [List.drop_of_length_le (by rw [HL.out]; omega)] at this; exact this
      go_wp2
      go_ret
      refine ⟨?_, rfl⟩
      rw [he, HF.out]
      rfl
end Go.Proofs.YtefgahakbnfdeaaDoor.Crc
