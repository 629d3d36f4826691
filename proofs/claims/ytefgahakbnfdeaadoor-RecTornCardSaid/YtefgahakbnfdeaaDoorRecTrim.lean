/- bytes.TrimRight at one nought; rec.Ends and the document's Ends. -/
import Derived.Test.YtefgahakbnfdeaaDoorRecUtil
namespace Go.Proofs.YtefgahakbnfdeaaDoor.Rc
open Go.RowKit Go.Proofs.YtefgahakbnfdeaaDoorW.PrintWords Go.Proofs.YtefgahakbnfdeaaDoorW.PrintMore Go.Proofs.YtefgahakbnfdeaaDoor.Base
set_option linter.unusedVariables false
set_option linter.unusedSimpArgs false
/-- Where what is not nought ends, of the first n. -/
def endsAt (xs : List UInt8) : Nat → Nat
  | 0 => 0
  | n + 1 => if xs.getD n 0 = 0 then endsAt xs n else n + 1
theorem endsAt_le (xs : List UInt8) : ∀ n, endsAt xs n ≤ n
  | 0 => Nat.le_refl _
  | n + 1 => by
    unfold endsAt
    have := endsAt_le xs n
    split <;> omega
set_option maxRecDepth 100000 in
theorem trimb_calls (A : Option Addr) (n cap : Nat) (xs : List UInt8) (w : World) (h : byte.C w A n xs) (hcap : n ≤ cap) :
    Calls Tryd.prog 26 #[.slice A n cap, .int .u8 0] w fun e w' => (∃ c, endsAt xs n ≤ c ∧ e = .returned (.slice A (endsAt xs n) c)) ∧ w = w' := by
  obtain ⟨hlen, hmax⟩ := C_len h
  have HC := Aside0.mk h
  clear h hlen
  go_enter Tryd.func26, Tryd.ntmps26
  go_wp2
  go_loopg [0] n (fun k v0 w' => v0 = .slice A k cap ∧ k ≤ n ∧ Aside0 (endsAt xs k = endsAt xs n) ∧ w = w')
  case atStart => exact ⟨rfl, Nat.le_refl _, ⟨rfl⟩, rfl⟩
  case round =>
    obtain ⟨rfl, hk, HE, rfl⟩ := hrel
    cases gk with
    | zero =>
      have HE0 := Aside0.mk (show endsAt xs n = 0 from HE.out.symm)
      go_wp2
      go_ret
      exact ⟨⟨cap, by rw [HE0.out]; omega, by rw [HE0.out]; rfl⟩, rfl⟩
    | succ k =>
      obtain ⟨ad, rfl, hc⟩ := byte_at HC.out k (by omega)
      have hi0 : decide ((0 : Int) < ((k + 1 : Nat) : Int)) = true := decide_eq_true (by omega)
      have hst := HE.out
      rw [show endsAt xs (k + 1) = if xs.getD k 0 = 0 then endsAt xs k else k + 1 from rfl] at hst
      obtain ⟨b, hbv⟩ : ∃ b, xs.getD k 0 = b := ⟨_, rfl⟩
      rw [hbv] at hc hst
      clear hbv
      by_cases hb : b = 0
      · rw [if_pos hb] at hst
        have HST := Aside0.mk hst
        subst hb
        have hq : (((0 : UInt8).toNat : Int) == 0) = true := rfl
        clear hst
        go_wp2
        go_roundg k
        case measure => omega
        case rel => exact ⟨rfl, by omega, HST, rfl⟩
      · rw [if_neg hb] at hst
        have HST := Aside0.mk hst
        have hq : ((b.toNat : Int) == 0) = false := by
          rw [beq_eq_false_iff_ne]
          intro hh
          apply hb
          apply UInt8.toNat_inj.1
          show _ = 0
          omega
        clear hst
        go_wp2
        go_ret
        exact ⟨⟨cap, by rw [← HST.out]; omega, by rw [← HST.out]; try rfl⟩, rfl⟩
end Go.Proofs.YtefgahakbnfdeaaDoor.Rc
