/- Powers of two, as the code tells them; no function of the program in sight. -/
import Derived.Laws.BitsAllLaws
import Derived.Laws.Bits64
import Derived.IntWalk
namespace Go.Proofs.YtefgahakbnfdeaaDoor.Pw
set_option linter.unusedVariables false
set_option linter.unusedSimpArgs false
def Pow (b : Int) : Prop := b = 64 ∨ b = 128 ∨ b = 256 ∨ b = 512 ∨ b = 1024 ∨ b = 2048 ∨ b = 4096
def pw : Nat → Int
  | 0 => 64
  | j + 1 => 2 * pw j
def pOf (b : Int) : Nat → Bool
  | 0 => false
  | j + 1 => pOf b j || (pw j == b)
instance (b : Int) : Decidable (Pow b) := by unfold Pow; infer_instance
def ck (b : Nat) : Bool := decide ((b &&& (b - 1)) = 0) == decide (b = 64 ∨ b = 128 ∨ b = 256 ∨ b = 512 ∨ b = 1024 ∨ b = 2048 ∨ b = 4096)
theorem and_cut : ((List.range 65).all fun k => (List.range 64).all fun j => decide (64 * k + j < 64) || decide (4096 < 64 * k + j) || ck (64 * k + j)) = true := by decide +kernel
theorem and_nat (b : Nat) (h : b < 4097) (h' : 64 ≤ b) : ((b &&& (b - 1)) = 0 ↔ b = 64 ∨ b = 128 ∨ b = 256 ∨ b = 512 ∨ b = 1024 ∨ b = 2048 ∨ b = 4096) := by
  have h1 := List.all_eq_true.1 and_cut (b / 64) (List.mem_range.2 (by omega))
  have h2 := List.all_eq_true.1 h1 (b % 64) (List.mem_range.2 (by omega))
  rw [Nat.div_add_mod, decide_eq_false (show ¬ b < 64 by omega), decide_eq_false (show ¬ 4096 < b by omega), Bool.false_or, Bool.false_or] at h2
  unfold ck at h2
  exact decide_eq_decide.1 (beq_iff_eq.1 h2)
theorem and_code (b : Int) (h1 : 64 ≤ b) (h2 : b ≤ 4096) : (bits .and .i64 b (b - 1) != 0) = !(decide (Pow b)) := by
  obtain ⟨n, rfl⟩ := Int.eq_ofNat_of_zero_le (show 0 ≤ b by omega)
  have e := bits_nat .i64 13 (by decide) (fun n h0 h1 => by rw [IntKind.wrap_i64]; omega) n (n - 1) (by omega) (by omega)
  have h := and_nat n (by omega) (by omega)
  have e' : bits .and .i64 (n : Int) ((n : Int) - 1) = ((n &&& (n - 1) : Nat) : Int) := by
    rw [show ((n : Int) - 1) = ((n - 1 : Nat) : Int) by omega]
    exact e.1
  rw [e']
  have hp : Pow (n : Int) ↔ (n &&& (n - 1)) = 0 := by rw [h]; unfold Pow; omega
  by_cases h0 : (n &&& (n - 1)) = 0
  · rw [h0, decide_eq_true (hp.2 h0)]; rfl
  · rw [decide_eq_false (fun x => h0 (hp.1 x)), Bool.not_false, bne_iff_ne]
    omega

end Go.Proofs.YtefgahakbnfdeaaDoor.Pw
