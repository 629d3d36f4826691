/- Plain facts on the sums of the program: one step of the shift register, four and eight of them, and what tells two sums apart. No program in sight. -/
import Derived.Laws.BitsAllLaws
import Derived.Laws.BitsLemmas
import Derived.IntWalk
namespace Go.Proofs.YtefgahakbnfdeaaDoor.Crc

set_option linter.unusedVariables false
theorem xor_cancel_r {a b c : Nat} (h : a ^^^ c = b ^^^ c) : a = b := by
  have := congrArg (· ^^^ c) h
  simpa [Nat.xor_assoc] using this
theorem xor_cancel_l {a b c : Nat} (h : c ^^^ a = c ^^^ b) : a = b := by
  have := congrArg (c ^^^ ·) h
  simpa [← Nat.xor_assoc] using this

/-- One step. -/
def stp (n : Nat) : Nat := (n / 2) ^^^ (if n % 2 = 1 then 3988292384 else 0)
def half (n : Nat) : Nat := stp (stp (stp (stp n)))
def inv (n : Nat) : Nat := 4294967295 - n
/-- One byte more. -/
def nxt (s b : Nat) : Nat := inv (half (half (inv s ^^^ b)))
def sumFrom (c : Nat) : List Nat → Nat := fun l => l.foldl nxt c
def sum (l : List Nat) : Nat := sumFrom 0 l
def nat (l : List UInt8) : List Nat := l.map (·.toNat)
theorem nat_lt (l : List UInt8) : ∀ x ∈ nat l, x < 256 := by
  intro x hx
  obtain ⟨b, _, rfl⟩ := List.mem_map.1 hx
  exact b.toNat_lt
theorem nat_cons (b : UInt8) (l : List UInt8) : nat (b :: l) = b.toNat :: nat l := rfl
theorem nat_append (a b : List UInt8) : nat (a ++ b) = nat a ++ nat b := List.map_append

theorem stp_lt (n : Nat) (h : n < 4294967296) : stp n < 4294967296 := by
  unfold stp
  exact Nat.xor_lt_two_pow (n := 32) (by omega) (by split <;> omega)
theorem half_lt (n : Nat) (h : n < 4294967296) : half n < 4294967296 :=
  stp_lt _ (stp_lt _ (stp_lt _ (stp_lt _ h)))
theorem inv_lt (n : Nat) : inv n < 4294967296 := by unfold inv; omega
theorem nxt_lt (s b : Nat) : nxt s b < 4294967296 := inv_lt _
theorem sumFrom_lt (l : List Nat) : ∀ c, c < 4294967296 → sumFrom c l < 4294967296 := by
  induction l with
  | nil => intro c h; exact h
  | cons x l ih => intro c _; exact ih _ (nxt_lt c x)

theorem xor_byte_lt (s b : Nat) (hb : b < 256) : inv s ^^^ b < 4294967296 :=
  Nat.xor_lt_two_pow (n := 32) (inv_lt s) (by omega)

/-- The code's own step. -/
theorem step_code (c : Nat) (h : c < 4294967296) :
    bits .xor .u32 ((c : Int) / 2) (bits .and .u32 3988292384 ((-(bits .and .u32 (c : Int) 1)) % 4294967296)) = (stp c : Int) := by
  have e1 : bits .and .u32 (c : Int) 1 = ((c % 2 : Nat) : Int) := by
    have := u32_and_nat c 1 h (by omega)
    rw [show ((1 : Nat) : Int) = 1 from rfl] at this
    rw [this, Nat.and_one_is_mod]
  rw [e1]
  unfold stp
  rcases Nat.mod_two_eq_zero_or_one c with h0 | h0
  · rw [h0]
    have e2 : ((-((0 : Nat) : Int)) % 4294967296) = ((0 : Nat) : Int) := by omega
    have e3 := u32_and_nat 3988292384 0 (by omega) (by omega)
    rw [e2, show (3988292384 : Int) = ((3988292384 : Nat) : Int) from rfl, e3]
    have e4 := u32_xor_nat (c / 2) (3988292384 &&& 0) (by omega) (by simp)
    rw [show ((c : Int) / 2) = ((c / 2 : Nat) : Int) by omega, e4]
    simp
  · rw [h0]
    have e2 : ((-((1 : Nat) : Int)) % 4294967296) = ((4294967295 : Nat) : Int) := by omega
    have e3 := u32_and_nat 3988292384 4294967295 (by omega) (by omega)
    rw [e2, show (3988292384 : Int) = ((3988292384 : Nat) : Int) from rfl, e3]
    have e5 : 3988292384 &&& 4294967295 = 3988292384 := by decide
    rw [e5]
    have e4 := u32_xor_nat (c / 2) 3988292384 (by omega) (by omega)
    rw [show ((c : Int) / 2) = ((c / 2 : Nat) : Int) by omega, e4]
    simp

theorem stp_odd (c : Nat) (h0 : c % 2 = 1) : (c / 2) ^^^ 3988292384 = stp c := by unfold stp; rw [if_pos h0]
theorem stp_even (c : Nat) (h0 : ¬ c % 2 = 1) : c / 2 = stp c := by unfold stp; rw [if_neg h0]; simp

/-- The step tells its arguments apart: the top bit says whether the old number was odd. -/
theorem stp_inj (a b : Nat) (ha : a < 4294967296) (hb : b < 4294967296) (h : stp a = stp b) : a = b := by
  have top : ∀ c, c < 4294967296 → (stp c).testBit 31 = decide (c % 2 = 1) := by
    intro c hc
    unfold stp
    rw [Nat.testBit_xor]
    have h1 : (c / 2).testBit 31 = false := Nat.testBit_lt_two_pow (by omega)
    rw [h1]
    rcases Nat.mod_two_eq_zero_or_one c with h0 | h0 <;> rw [h0] <;> decide
  have hp : decide (a % 2 = 1) = decide (b % 2 = 1) := by rw [← top a ha, ← top b hb, h]
  have hq : a % 2 = b % 2 := by
    have := decide_eq_decide.1 hp
    omega
  have hd : a / 2 = b / 2 := by
    unfold stp at h
    rw [hq] at h
    exact xor_cancel_r h
  omega
theorem half_inj (a b : Nat) (ha : a < 4294967296) (hb : b < 4294967296) (h : half a = half b) : a = b := by
  unfold half at h
  exact stp_inj _ _ ha hb (stp_inj _ _ (stp_lt _ ha) (stp_lt _ hb) (stp_inj _ _ (stp_lt _ (stp_lt _ ha)) (stp_lt _ (stp_lt _ hb))
    (stp_inj _ _ (stp_lt _ (stp_lt _ (stp_lt _ ha))) (stp_lt _ (stp_lt _ (stp_lt _ hb))) h)))
theorem inv_inj (a b : Nat) (ha : a < 4294967296) (hb : b < 4294967296) (h : inv a = inv b) : a = b := by unfold inv at h; omega
theorem nxt_mid (s t x y : Nat) (hs : s < 4294967296) (ht : t < 4294967296) (hx : x < 256) (hy : y < 256) (h : nxt s x = nxt t y) : inv s ^^^ x = inv t ^^^ y := by
  unfold nxt at h
  have a1 := xor_byte_lt s x hx
  have a2 := xor_byte_lt t y hy
  exact half_inj _ _ a1 a2 (half_inj _ _ (half_lt _ a1) (half_lt _ a2) (inv_inj _ _ (half_lt _ (half_lt _ a1)) (half_lt _ (half_lt _ a2)) h))
theorem nxt_byte (s x y : Nat) (hs : s < 4294967296) (hx : x < 256) (hy : y < 256) (h : nxt s x = nxt s y) : x = y :=
  xor_cancel_l (nxt_mid s s x y hs hs hx hy h)
theorem nxt_sum (s t x : Nat) (hs : s < 4294967296) (ht : t < 4294967296) (hx : x < 256) (h : nxt s x = nxt t x) : s = t :=
  inv_inj _ _ hs ht (xor_cancel_r (nxt_mid s t x x hs ht hx hx h))

theorem sumFrom_append (c : Nat) (a b : List Nat) : sumFrom c (a ++ b) = sumFrom (sumFrom c a) b := List.foldl_append
theorem sumFrom_inj (l : List Nat) (hl : ∀ x ∈ l, x < 256) : ∀ s t, s < 4294967296 → t < 4294967296 → sumFrom s l = sumFrom t l → s = t := by
  induction l with
  | nil => intro s t _ _ h; exact h
  | cons x l ih =>
    intro s t hs ht h
    exact nxt_sum s t x hs ht (hl x (by simp)) (ih (fun y hy => hl y (by simp [hy])) _ _ (nxt_lt s x) (nxt_lt t x) h)

/-- Of bytes in which just one is another one the sum is another one. -/
theorem sum_one (l r : List Nat) (x y : Nat) (hr : ∀ z ∈ r, z < 256) (hx : x < 256) (hy : y < 256) (h : sum (l ++ x :: r) = sum (l ++ y :: r)) : x = y := by
  unfold sum at h
  rw [sumFrom_append, sumFrom_append] at h
  have h1 : sumFrom (nxt (sumFrom 0 l) x) r = sumFrom (nxt (sumFrom 0 l) y) r := h
  exact nxt_byte _ x y (sumFrom_lt l 0 (by omega)) hx hy (sumFrom_inj r hr _ _ (nxt_lt _ x) (nxt_lt _ y) h1)

theorem known_sum : sum [49, 50, 51, 52, 53, 54, 55, 56, 57] = 3421780262 := by decide +kernel

end Go.Proofs.YtefgahakbnfdeaaDoor.Crc
