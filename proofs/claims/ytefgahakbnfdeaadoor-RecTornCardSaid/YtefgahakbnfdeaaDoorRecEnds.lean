/- rec.Ends and the document's Ends; the two Checks. -/
import Derived.Test.YtefgahakbnfdeaaDoorRecTrim
namespace Go.Proofs.YtefgahakbnfdeaaDoor.Rc
open Go.RowKit Go.Proofs.YtefgahakbnfdeaaDoorW.PrintWords Go.Proofs.YtefgahakbnfdeaaDoorW.PrintMore Go.Proofs.YtefgahakbnfdeaaDoor.Base
set_option linter.unusedVariables false
set_option linter.unusedSimpArgs false
set_option maxRecDepth 100000 in
theorem trim_calls (A : Option Addr) (n cap : Nat) (xs : List UInt8) (w : World) (h : byte.C w A n xs) (hcap : n ≤ cap) :
    Calls Tryd.prog 16 #[.slice A n cap, .string ⟨#[0]⟩] w fun e w' => (∃ c, endsAt xs n ≤ c ∧ e = .returned (.slice A (endsAt xs n) c)) ∧ Below w.heap.size w w' := by
  obtain ⟨hlen, hmax⟩ := C_len h
  have HC := Aside0.mk h
  clear h hlen
  have hs0 : ((⟨#[0]⟩ : ByteArray) == ⟨#[]⟩) = false := by decide
  cases n with
  | zero =>
    go_enter Tryd.func16, Tryd.ntmps16
    go_wp2
    go_ret
    exact ⟨⟨cap, Nat.zero_le _, rfl⟩, Below.refl _ _⟩
  | succ k =>
    have hq : (((k + 1 : Nat) : Int) == 0) = false := by rw [beq_eq_false_iff_ne]; omega
    go_enter Tryd.func16, Tryd.ntmps16
    go_wp2_with fail
    refine (trimb_calls A (k + 1) cap xs _ HC.out hcap).mono ?_
    rintro e w1 ⟨⟨c, hc, rfl⟩, rfl⟩
    go_wp2
    go_ret
    exact ⟨⟨c, hc, rfl⟩, Below.refl _ _⟩
theorem ends_calls (A : Option Addr) (n cap : Nat) (xs : List UInt8) (w : World) (h : byte.C w A n xs) (hcap : n ≤ cap) :
    Calls Tryd.prog 8 #[.slice A n cap] w fun e w' => e = .returned (.int .i64 (endsAt xs n : Int)) ∧ Below w.heap.size w w' := by
  have HC := Aside0.mk h
  clear h
  go_enter Tryd.func8, Tryd.ntmps8
  go_wp2_with fail
  refine (trim_calls A n cap xs _ HC.out hcap).mono ?_
  rintro e w1 ⟨⟨c, hc, rfl⟩, hb⟩
  have HB := Aside0.mk hb
  clear hb
  go_wp2
  go_ret
  exact ⟨rfl, HB.out⟩
set_option maxRecDepth 100000 in
theorem rends_calls (A : Option Addr) (n cap : Nat) (xs : List UInt8) (w : World) (h : byte.C w A n xs) :
    Calls Tryd.prog 9 #[.slice A n cap] w fun e w' => e = .returned (.int .i64 (endsAt xs n : Int)) ∧ w = w' := by
  obtain ⟨hlen, hmax⟩ := C_len h
  have HC := Aside0.mk h
  clear h hlen
  go_enter Tryd.func9, Tryd.ntmps9
  go_wp2
  go_loopg [3, 4] n (fun g v2 v3 w' => ∃ i : Nat, v2 = .int .i64 (endsAt xs i : Int) ∧ v3 = .int .i64 (i : Int) ∧ i ≤ n ∧ Aside0 (g + i = n) ∧ w = w')
  case atStart => exact ⟨0, rfl, rfl, Nat.zero_le _, ⟨rfl⟩, rfl⟩
  case round =>
    obtain ⟨i, rfl, rfl, hi, HK, rfl⟩ := hrel
    by_cases hlt : i < n
    · obtain ⟨ad, rfl, hc⟩ := byte_at HC.out i hlt
      have hd0 : decide ((i : Int) < (n : Int)) = true := decide_eq_true (by omega)
      have hst := Aside0.mk (show endsAt xs (i + 1) = if xs.getD i 0 = 0 then endsAt xs i else i + 1 from rfl)
      obtain ⟨b, hbv⟩ : ∃ b, xs.getD i 0 = b := ⟨_, rfl⟩
      rw [hbv] at hc hst
      clear hbv
      by_cases hb : b = 0
      · subst hb
        have hq : (((0 : UInt8).toNat : Int) != 0) = false := rfl
        go_wp2
        go_roundg (gk - 1)
        case measure => have := HK.out; omega
        case rel => exact ⟨i + 1, by rw [hst.out]; simp, by congr 1, by omega, ⟨by have := HK.out; omega⟩, rfl⟩
      · have hq : ((b.toNat : Int) != 0) = true := by
          rw [bne_iff_ne]
          intro hh
          apply hb
          apply UInt8.toNat_inj.1
          show _ = 0
          omega
        have HNB := Aside0.mk hb
        clear hb
        go_wp2
        go_roundg (gk - 1)
        case measure => have := HK.out; omega
        case rel => exact ⟨i + 1, by rw [hst.out, if_neg HNB.out]; congr 1, by congr 1, by omega, ⟨by have := HK.out; omega⟩, rfl⟩
    · obtain rfl : i = n := by omega
      have hd0 : decide ((i : Int) < (i : Int)) = false := decide_eq_false (by omega)
      go_wp2
      go_ret
      exact ⟨rfl, rfl⟩
/-- What an item says of data. -/
def ChkIs (x : Itm) (xs : List UInt8) : Prop := x.2.2.1 = 1 ∧ x.2.2.2.1 = Crc.sum (Crc.nat xs) ∧ x.2.2.2.2 = endsAt xs xs.length
instance (x : Itm) (xs : List UInt8) : Decidable (ChkIs x xs) := by unfold ChkIs; infer_instance
end Go.Proofs.YtefgahakbnfdeaaDoor.Rc
