/- Plain facts on records: numbers as bytes; what a block with a record is; which blocks are records. No program in sight. -/
import Derived.Test.YtefgahakbnfdeaaDoorCrcPure
namespace Go.Proofs.YtefgahakbnfdeaaDoor.Rc
open Go.Proofs.YtefgahakbnfdeaaDoor.Crc (sum nat)
set_option linter.unusedVariables false

/-- A width that there is. -/
def wd (n : Int) : Nat := if n = 1 ∨ n = 2 ∨ n = 4 then n.toNat else 8
theorem wd_pos (n : Int) : 0 < wd n ∧ wd n ≤ 8 := by unfold wd; split <;> omega
/-- A number as so many bytes, the highest first. -/
def be : Nat → Nat → List UInt8
  | 0, _ => []
  | k + 1, v => UInt8.ofNat (v / 256 ^ k) :: be k v
/-- Bytes as a number, from one on. -/
def unF (n : Nat) (l : List UInt8) : Nat := l.foldl (fun n x => n * 256 + x.toNat) n
def un (l : List UInt8) : Nat := unF 0 l
theorem be_len (k v : Nat) : (be k v).length = k := by
  induction k with
  | zero => rfl
  | succ k ih => simp [be, ih]
theorem unF_append (n : Nat) (a b : List UInt8) : unF n (a ++ b) = unF (unF n a) b := List.foldl_append
theorem unF_lt : ∀ (l : List UInt8) (n m : Nat), n < m → unF n l < m * 256 ^ l.length
  | [], n, m, h => by simpa [unF] using h
  | x :: l, n, m, h => by
    have hx := x.toNat_lt
    have := unF_lt l (n * 256 + x.toNat) (m * 256) (by omega)
    rw [List.length_cons, Nat.pow_succ, Nat.mul_comm (256 ^ l.length), ← Nat.mul_assoc]
    exact this
theorem un_lt (l : List UInt8) : un l < 256 ^ l.length := by
  have := unF_lt l 0 1 (by omega)
  rwa [Nat.one_mul] at this
theorem unF_be : ∀ (k n v : Nat), unF n (be k v) = n * 256 ^ k + v % 256 ^ k
  | 0, n, v => by simp [be, unF, Nat.mod_one]
  | k + 1, n, v => by
    show unF (n * 256 + (UInt8.ofNat (v / 256 ^ k)).toNat) (be k v) = _
    have e1 : (UInt8.ofNat (v / 256 ^ k)).toNat = v / 256 ^ k % 256 := UInt8.toNat_ofNat'
    have e2 : v % 256 ^ (k + 1) = v % 256 ^ k + 256 ^ k * (v / 256 ^ k % 256) := by rw [Nat.pow_succ]; exact Nat.mod_mul
    have e3 : (n * 256 + v / 256 ^ k % 256) * 256 ^ k = n * 256 ^ (k + 1) + 256 ^ k * (v / 256 ^ k % 256) := by
      rw [Nat.add_mul, Nat.mul_assoc, Nat.pow_succ, Nat.mul_comm 256, Nat.mul_comm (v / 256 ^ k % 256)]
    rw [unF_be k, e1, e2, e3]
    omega
theorem un_be (k v : Nat) (h : v < 256 ^ k) : un (be k v) = v := by
  unfold un
  rw [unF_be, Nat.mod_eq_of_lt h]
  omega
theorem be_mod (k v w : Nat) (h : v % 256 ^ k = w % 256 ^ k) : be k v = be k w := by
  induction k with
  | zero => rfl
  | succ k ih =>
    have hp : 0 < 256 ^ k := Nat.pos_of_ne_zero (by simp)
    have e : ∀ x : Nat, x % 256 ^ k = x % 256 ^ (k + 1) % 256 ^ k := fun x => by
      rw [Nat.pow_succ, Nat.mod_mul_right_mod]
    have e2 : ∀ x : Nat, x / 256 ^ k % 256 = x % 256 ^ (k + 1) / 256 ^ k := fun x => by
      rw [Nat.pow_succ, Nat.mod_mul_right_div_self]
    show UInt8.ofNat _ :: _ = UInt8.ofNat _ :: _
    rw [ih (by rw [e v, e w, h])]
    congr 1
    apply UInt8.toNat_inj.1
    rw [UInt8.toNat_ofNat', UInt8.toNat_ofNat', show (2 : Nat) ^ 8 = 256 from rfl, e2, e2, h]
theorem be_unF : ∀ (l : List UInt8) (n : Nat), be l.length (unF n l) = l
  | [], _ => rfl
  | x :: l, n => by
    show UInt8.ofNat (unF (n * 256 + x.toNat) l / 256 ^ l.length) :: be l.length (unF (n * 256 + x.toNat) l) = _
    rw [be_unF l]
    congr 1
    have h : unF (n * 256 + x.toNat) l / 256 ^ l.length = n * 256 + x.toNat := by
      have h1 := unF_be l.length (n * 256 + x.toNat) (unF 0 l)
      have h2 : 0 < 256 ^ l.length := Nat.pos_of_ne_zero (by simp)
      rw [be_unF l 0] at h1
      rw [h1, Nat.mul_comm, Nat.mul_add_div h2, Nat.div_eq_of_lt (Nat.mod_lt _ h2), Nat.add_zero]
    rw [h]
    apply UInt8.toNat_inj.1
    rw [UInt8.toNat_ofNat', show (2 : Nat) ^ 8 = 256 from rfl]
    have := x.toNat_lt
    omega
theorem be_un (k : Nat) (l : List UInt8) (h : l.length = k) : be k (un l) = l := by subst h; exact be_unF l 0
theorem be_inj (k v w : Nat) (hv : v < 256 ^ k) (hw : w < 256 ^ k) (h : be k v = be k w) : v = w := by
  rw [← un_be k v hv, h, un_be k w hw]

/-- Numbers as bytes, each of its width. -/
def pack : List Int → List Nat → List UInt8
  | w :: ws, v :: vs => be (wd w) v ++ pack ws vs
  | _, _ => []
/-- Numbers at the front, and what stands behind. -/
def take (b : List UInt8) : List Int → Option (List Nat × List UInt8)
  | [] => some ([], b)
  | w :: ws => if b.length < wd w then none else (take (b.drop (wd w)) ws).map fun p => (un (b.take (wd w)) :: p.1, p.2)

/-! Records. -/
/-- tenant, block, kind, sum, end -/
abbrev Itm := Nat × Nat × Nat × Nat × Nat
def ItmOk (x : Itm) : Prop := x.1 < 4294967296 ∧ x.2.1 < 18446744073709551616 ∧ x.2.2.1 < 256 ∧ x.2.2.2.1 < 4294967296 ∧ x.2.2.2.2 < 65536
def may (x : Itm) : Prop := (x.2.2.2.2 ≤ 4096 ∧ x.2.2.1 = 1) ∨ (x.2.2.1 = 2 ∧ x.2.2.2.1 = 0 ∧ x.2.2.2.2 = 0)
instance (x : Itm) : Decidable (may x) := by unfold may; infer_instance
def itB (x : Itm) : List UInt8 := be 4 x.1 ++ (be 8 x.2.1 ++ (be 1 x.2.2.1 ++ (be 4 x.2.2.2.1 ++ be 2 x.2.2.2.2)))
theorem itB_len (x : Itm) : (itB x).length = 19 := by simp [itB, be_len]
def itsB (l : List Itm) : List UInt8 := (l.map itB).flatten
theorem itsB_len (l : List Itm) : (itsB l).length = 19 * l.length := by
  unfold itsB
  induction l with
  | nil => rfl
  | cons x l ih => rw [List.map_cons, List.flatten_cons, List.length_append, ih, itB_len, List.length_cons]; omega
theorem itsB_snoc (l : List Itm) (x : Itm) : itsB (l ++ [x]) = itsB l ++ itB x := by simp [itsB]
/-- A record's room in a block. -/
def rmN (b : Nat) : Nat := if b = 64 ∨ b = 128 ∨ b = 256 ∨ b = 512 ∨ b = 1024 ∨ b = 2048 ∨ b = 4096 then (b - 19) / 19 else 0
theorem rmN_le (b : Nat) (h : 0 < rmN b) : 64 ≤ b ∧ b ≤ 4096 ∧ 19 * rmN b + 19 ≤ b ∧ rmN b ≤ 214 := by
  unfold rmN at h ⊢
  split at h
  · rename_i hb
    rw [if_pos hb]
    omega
  · omega
abbrev magic : Nat := 1129074503
/-- Noughts in the sum's place. -/
def zr (b : List UInt8) : List UInt8 := b.take 4 ++ ([0, 0, 0, 0] ++ b.drop 8)
def sumOf (b : List UInt8) : Nat := sum (nat (zr b))
/-- A block with noughts in the sum's place. -/
def pre (q : Nat) (l : List Itm) (n : Nat) : List UInt8 := be 4 magic ++ (be 4 0 ++ (be 8 q ++ (be 2 l.length ++ (itsB l ++ (List.replicate (n - 19 - 19 * l.length) 0 ++ [0xe7])))))
/-- With a sum in its place. -/
def put4 (b : List UInt8) (s : Nat) : List UInt8 := b.take 4 ++ (be 4 s ++ b.drop 8)
def enc (q : Nat) (l : List Itm) (n : Nat) : List UInt8 := put4 (pre q l n) (sum (nat (pre q l n)))
def RecOk (q : Nat) (l : List Itm) (n : Nat) : Prop := 0 < l.length ∧ l.length ≤ rmN n ∧ ∀ x ∈ l, may x
instance (q : Nat) (l : List Itm) (n : Nat) : Decidable (RecOk q l n) := by unfold RecOk; infer_instance
theorem sum_lt (b : List Nat) : sum b < 4294967296 := by
  unfold Crc.sum
  exact Crc.sumFrom_lt _ _ (by omega)
theorem pre_len (q : Nat) (l : List Itm) (n : Nat) (h : 19 * l.length + 19 ≤ n) : (pre q l n).length = n := by
  simp only [pre, List.length_append, be_len, itsB_len, List.length_replicate, List.length_cons, List.length_nil]
  omega
theorem put4_len (b : List UInt8) (s : Nat) (h : 8 ≤ b.length) : (put4 b s).length = b.length := by
  simp only [put4, List.length_append, be_len, List.length_take, List.length_drop]
  omega
theorem enc_len (q : Nat) (l : List Itm) (n : Nat) (h : 19 * l.length + 19 ≤ n) : (enc q l n).length = n := by
  unfold enc
  rw [put4_len _ _ (by rw [pre_len _ _ _ h]; omega), pre_len _ _ _ h]

/-! Reading. -/
def itAt (r : List UInt8) : Itm := (un (r.take 4), un ((r.drop 4).take 8), un ((r.drop 12).take 1), un ((r.drop 13).take 4), un ((r.drop 17).take 2))
def itsOf : Nat → List UInt8 → List Itm
  | 0, _ => []
  | k + 1, r => itAt r :: itsOf k (r.drop 19)
theorem itsOf_len (k : Nat) : ∀ r, (itsOf k r).length = k := by
  induction k with
  | zero => intro r; rfl
  | succ k ih => intro r; simp [itsOf, ih]
theorem take_app {α : Type} (a b : List α) (k : Nat) (h : a.length = k) : (a ++ b).take k = a := by
  subst h; exact List.take_left
theorem drop_app {α : Type} (a b : List α) (k : Nat) (h : a.length = k) : (a ++ b).drop k = b := by
  subst h; exact List.drop_left
theorem itAt_itB (x : Itm) (h : ItmOk x) (r : List UInt8) : itAt (itB x ++ r) = x := by
  obtain ⟨a, b, c, d, e⟩ := x
  obtain ⟨h1, h2, h3, h4, h5⟩ := h
  dsimp only at h1 h2 h3 h4 h5
  have q1 : itB (a, b, c, d, e) ++ r = be 4 a ++ (be 8 b ++ (be 1 c ++ (be 4 d ++ (be 2 e ++ r)))) := by simp [itB]
  have q2 : (itB (a, b, c, d, e) ++ r).drop 4 = be 8 b ++ (be 1 c ++ (be 4 d ++ (be 2 e ++ r))) := by rw [q1, drop_app _ _ _ (be_len _ _)]
  have q3 : (itB (a, b, c, d, e) ++ r).drop 12 = be 1 c ++ (be 4 d ++ (be 2 e ++ r)) := by
    rw [show (12 : Nat) = 4 + 8 from rfl, ← List.drop_drop, q2, drop_app _ _ _ (be_len _ _)]
  have q4 : (itB (a, b, c, d, e) ++ r).drop 13 = be 4 d ++ (be 2 e ++ r) := by
    rw [show (13 : Nat) = 12 + 1 from rfl, ← List.drop_drop, q3, drop_app _ _ _ (be_len _ _)]
  have q5 : (itB (a, b, c, d, e) ++ r).drop 17 = be 2 e ++ r := by
    rw [show (17 : Nat) = 13 + 4 from rfl, ← List.drop_drop, q4, drop_app _ _ _ (be_len _ _)]
  unfold itAt
  rw [q2, q3, q4, q5, q1, take_app _ _ _ (be_len _ _), take_app _ _ _ (be_len _ _), take_app _ _ _ (be_len _ _), take_app _ _ _ (be_len _ _), take_app _ _ _ (be_len _ _)]
  rw [un_be _ _ (by omega), un_be _ _ (by omega), un_be _ _ (by omega), un_be _ _ (by omega), un_be _ _ (by omega)]
theorem itB_itAt (r : List UInt8) (h : 19 ≤ r.length) : itB (itAt r) ++ r.drop 19 = r := by
  unfold itB itAt
  dsimp only
  rw [be_un _ _ (by rw [List.length_take]; omega), be_un _ _ (by rw [List.length_take, List.length_drop]; omega), be_un _ _ (by rw [List.length_take, List.length_drop]; omega),
    be_un _ _ (by rw [List.length_take, List.length_drop]; omega), be_un _ _ (by rw [List.length_take, List.length_drop]; omega)]
  have e1 : (r.drop 17).take 2 ++ r.drop 19 = r.drop 17 := by rw [show (19 : Nat) = 17 + 2 from rfl, ← List.drop_drop, List.take_append_drop]
  have e2 : (r.drop 13).take 4 ++ r.drop 17 = r.drop 13 := by rw [show (17 : Nat) = 13 + 4 from rfl, ← List.drop_drop, List.take_append_drop]
  have e3 : (r.drop 12).take 1 ++ r.drop 13 = r.drop 12 := by rw [show (13 : Nat) = 12 + 1 from rfl, ← List.drop_drop, List.take_append_drop]
  have e4 : (r.drop 4).take 8 ++ r.drop 12 = r.drop 4 := by rw [show (12 : Nat) = 4 + 8 from rfl, ← List.drop_drop, List.take_append_drop]
  simp only [List.append_assoc]
  rw [e1, e2, e3, e4, List.take_append_drop]
theorem itAt_ok (r : List UInt8) : ItmOk (itAt r) := by
  have h : ∀ (l : List UInt8) (k : Nat), un (l.take k) < 256 ^ k := fun l k => by
    refine Nat.lt_of_lt_of_le (un_lt _) (Nat.pow_le_pow_right (by omega) ?_)
    rw [List.length_take]; omega
  exact ⟨h _ 4, h _ 8, h _ 1, h _ 4, h _ 2⟩
theorem itsOf_ok (k : Nat) : ∀ r, ∀ x ∈ itsOf k r, ItmOk x := by
  induction k with
  | zero => intro r x hx; simp [itsOf] at hx
  | succ k ih =>
    intro r x hx
    rcases List.mem_cons.1 hx with rfl | hx
    · exact itAt_ok r
    · exact ih _ x hx
theorem itsOf_itsB (l : List Itm) (h : ∀ x ∈ l, ItmOk x) : ∀ r, itsOf l.length (itsB l ++ r) = l := by
  induction l with
  | nil => intro r; rfl
  | cons x l ih =>
    intro r
    have e : itsB (x :: l) ++ r = itB x ++ (itsB l ++ r) := by simp [itsB]
    rw [e]
    show itAt _ :: itsOf l.length ((itB x ++ (itsB l ++ r)).drop 19) = _
    rw [itAt_itB x (h x (by simp)), drop_app _ _ _ (itB_len x), ih (fun y hy => h y (by simp [hy]))]
theorem itsB_itsOf (k : Nat) : ∀ r : List UInt8, 19 * k ≤ r.length → itsB (itsOf k r) ++ r.drop (19 * k) = r := by
  induction k with
  | zero => intro r _; simp [itsOf, itsB]
  | succ k ih =>
    intro r h
    have e : itsB (itsOf (k + 1) r) = itB (itAt r) ++ itsB (itsOf k (r.drop 19)) := by simp [itsOf, itsB]
    rw [e, List.append_assoc, show 19 * (k + 1) = 19 + 19 * k from by omega, ← List.drop_drop, ih _ (by rw [List.length_drop]; omega), itB_itAt r (by omega)]
theorem itsOf_snoc (k : Nat) : ∀ r : List UInt8, itsOf (k + 1) r = itsOf k r ++ [itAt (r.drop (19 * k))] := by
  induction k with
  | zero => intro r; simp [itsOf]
  | succ k ih =>
    intro r
    show itAt r :: itsOf (k + 1) (r.drop 19) = (itAt r :: itsOf k (r.drop 19)) ++ _
    rw [ih, List.cons_append, List.drop_drop, show 19 + 19 * k = 19 * (k + 1) from by omega]

def mgN (b : List UInt8) : Nat := un (b.take 4)
def smN (b : List UInt8) : Nat := un ((b.drop 4).take 4)
def sqN (b : List UInt8) : Nat := un ((b.drop 8).take 8)
def ctN (b : List UInt8) : Nat := un ((b.drop 16).take 2)
def itN (b : List UInt8) : List Itm := itsOf (ctN b) (b.drop 18)
/-- What the program looks at. -/
def RecIs (b : List UInt8) : Prop := 0 < rmN b.length ∧ mgN b = magic ∧ smN b = sumOf b ∧ 0 < ctN b ∧ ctN b ≤ rmN b.length ∧ (∀ x ∈ itN b, may x) ∧
  b.drop (18 + 19 * ctN b) = List.replicate (b.length - 19 - 19 * ctN b) 0 ++ [0xe7]
instance (b : List UInt8) : Decidable (RecIs b) := by unfold RecIs; infer_instance
theorem enc_eq (q : Nat) (l : List Itm) (n : Nat) : enc q l n = be 4 magic ++ (be 4 (sum (nat (pre q l n))) ++ (be 8 q ++ (be 2 l.length ++ (itsB l ++ (List.replicate (n - 19 - 19 * l.length) 0 ++ [0xe7]))))) := by
  have e1 : (pre q l n).take 4 = be 4 magic := take_app _ _ _ (be_len _ _)
  have e2 : (pre q l n).drop 8 = be 8 q ++ (be 2 l.length ++ (itsB l ++ (List.replicate (n - 19 - 19 * l.length) 0 ++ [0xe7]))) := by
    unfold pre
    rw [show (8 : Nat) = 4 + 4 from rfl, ← List.drop_drop, drop_app _ _ _ (be_len _ _), drop_app _ _ _ (be_len _ _)]
  unfold enc put4
  rw [e1, e2]
theorem zr_enc (q : Nat) (l : List Itm) (n : Nat) : zr (enc q l n) = pre q l n := by
  unfold zr
  rw [enc_eq]
  rw [take_app _ _ _ (be_len _ _), show (8 : Nat) = 4 + 4 from rfl, ← List.drop_drop, drop_app _ _ _ (be_len _ _), drop_app _ _ _ (be_len _ _)]
  rfl
theorem pow_vals : (256 : Nat) ^ 4 = 4294967296 ∧ (256 : Nat) ^ 8 = 18446744073709551616 ∧ (256 : Nat) ^ 2 = 65536 ∧ (256 : Nat) ^ 1 = 256 := ⟨rfl, rfl, rfl, rfl⟩
/-- What is read of a block that was written. -/
theorem read_enc (q : Nat) (l : List Itm) (n : Nat) (hq : q < 18446744073709551616) (hl : l.length < 65536) (ho : ∀ x ∈ l, ItmOk x) :
    mgN (enc q l n) = magic ∧ smN (enc q l n) = sumOf (enc q l n) ∧ sqN (enc q l n) = q ∧ ctN (enc q l n) = l.length ∧ itN (enc q l n) = l ∧
      (enc q l n).drop (18 + 19 * l.length) = List.replicate (n - 19 - 19 * l.length) 0 ++ [0xe7] := by
  have d4 : (enc q l n).drop 4 = be 4 (sum (nat (pre q l n))) ++ (be 8 q ++ (be 2 l.length ++ (itsB l ++ (List.replicate (n - 19 - 19 * l.length) 0 ++ [0xe7])))) := by
    rw [enc_eq, drop_app _ _ _ (be_len _ _)]
  have d8 : (enc q l n).drop 8 = be 8 q ++ (be 2 l.length ++ (itsB l ++ (List.replicate (n - 19 - 19 * l.length) 0 ++ [0xe7]))) := by
    rw [show (8 : Nat) = 4 + 4 from rfl, ← List.drop_drop, d4, drop_app _ _ _ (be_len _ _)]
  have d16 : (enc q l n).drop 16 = be 2 l.length ++ (itsB l ++ (List.replicate (n - 19 - 19 * l.length) 0 ++ [0xe7])) := by
    rw [show (16 : Nat) = 8 + 8 from rfl, ← List.drop_drop, d8, drop_app _ _ _ (be_len _ _)]
  have d18 : (enc q l n).drop 18 = itsB l ++ (List.replicate (n - 19 - 19 * l.length) 0 ++ [0xe7]) := by
    rw [show (18 : Nat) = 16 + 2 from rfl, ← List.drop_drop, d16, drop_app _ _ _ (be_len _ _)]
  obtain ⟨p4, p8, p2, p1⟩ := pow_vals
  have hct : ctN (enc q l n) = l.length := by unfold ctN; rw [d16, take_app _ _ _ (be_len _ _), un_be _ _ (by omega)]
  refine ⟨?_, ?_, ?_, hct, ?_, ?_⟩
  · unfold mgN; rw [enc_eq, take_app _ _ _ (be_len _ _), un_be _ _ (by rw [p4]; decide)]
  · unfold smN sumOf; rw [zr_enc, d4, take_app _ _ _ (be_len _ _), un_be _ _ (by rw [p4]; exact sum_lt _)]
  · unfold sqN; rw [d8, take_app _ _ _ (be_len _ _), un_be _ _ (by omega)]
  · unfold itN; rw [hct, d18, itsOf_itsB l ho]
  · rw [← List.drop_drop, d18, drop_app _ _ _ (itsB_len l)]
theorem RecIs.of_enc {q : Nat} {l : List Itm} {n : Nat} (hq : q < 18446744073709551616) (ho : ∀ x ∈ l, ItmOk x) (h : RecOk q l n) : RecIs (enc q l n) := by
  obtain ⟨h1, h2, h3⟩ := h
  obtain ⟨b1, b2, b3, b4⟩ := rmN_le n (by omega)
  obtain ⟨r1, r2, r3, r4, r5, r6⟩ := read_enc q l n hq (by omega) ho
  have hn := enc_len q l n (by omega)
  refine ⟨by rw [hn]; omega, r1, r2, by rw [r4]; exact h1, by rw [r4, hn]; exact h2, by rw [r5]; exact h3, by rw [r4, hn]; exact r6⟩
theorem RecIs.enc {b : List UInt8} (h : RecIs b) : RecOk (sqN b) (itN b) b.length ∧ enc (sqN b) (itN b) b.length = b := by
  obtain ⟨h1, h2, h3, h4, h5, h6, h7⟩ := h
  obtain ⟨b1, b2, b3, b4⟩ := rmN_le _ h1
  have hil : (itN b).length = ctN b := itsOf_len _ _
  refine ⟨⟨by rw [hil]; exact h4, by rw [hil]; exact h5, h6⟩, ?_⟩
  have e18 : itsB (itN b) ++ (List.replicate (b.length - 19 - 19 * ctN b) 0 ++ [0xe7]) = b.drop 18 := by
    rw [← h7, ← List.drop_drop]
    exact itsB_itsOf _ _ (by rw [List.length_drop]; omega)
  have e16 : be 2 (ctN b) ++ b.drop 18 = b.drop 16 := by
    unfold ctN
    rw [be_un _ _ (by rw [List.length_take, List.length_drop]; omega), show (18 : Nat) = 16 + 2 from rfl, ← List.drop_drop, List.take_append_drop]
  have e8 : be 8 (sqN b) ++ b.drop 16 = b.drop 8 := by
    unfold sqN
    rw [be_un _ _ (by rw [List.length_take, List.length_drop]; omega), show (16 : Nat) = 8 + 8 from rfl, ← List.drop_drop, List.take_append_drop]
  have e4 : be 4 magic = b.take 4 := by
    rw [← h2]
    exact be_un _ _ (by rw [List.length_take]; omega)
  have hpre : pre (sqN b) (itN b) b.length = zr b := by
    unfold pre zr
    rw [hil, e18, e16, e8, e4]
    rfl
  rw [enc_eq, hpre, hil, e18, e16, e8, e4]
  have hs : be 4 (sum (nat (zr b))) = (b.drop 4).take 4 := by
    have : smN b = sum (nat (zr b)) := h3
    rw [← this]
    exact be_un _ _ (by rw [List.length_take, List.length_drop]; omega)
  rw [hs]
  have : (b.drop 4).take 4 ++ b.drop 8 = b.drop 4 := by rw [show (8 : Nat) = 4 + 4 from rfl, ← List.drop_drop, List.take_append_drop]
  rw [this, List.take_append_drop]
/-- Just these blocks are records. -/
theorem recIs_iff (b : List UInt8) : RecIs b ↔ (ctN b ≤ rmN b.length ∧ RecOk (sqN b) (itN b) b.length ∧ enc (sqN b) (itN b) b.length = b) := by
  constructor
  · intro h
    exact ⟨h.2.2.2.2.1, h.enc⟩
  · rintro ⟨h0, h1, h2⟩
    have := RecIs.of_enc (q := sqN b) (l := itN b) (n := b.length) ?_ (itsOf_ok _ _) h1
    · rw [h2] at this; exact this
    · have h : un ((b.drop 8).take 8) < 256 ^ 8 := Nat.lt_of_lt_of_le (un_lt _) (Nat.pow_le_pow_right (by omega) (by rw [List.length_take]; omega))
      exact h
theorem sqN_lt (b : List UInt8) : sqN b < 18446744073709551616 := by
  have h : un ((b.drop 8).take 8) < 256 ^ 8 := Nat.lt_of_lt_of_le (un_lt _) (Nat.pow_le_pow_right (by omega) (by rw [List.length_take]; omega))
  exact h
/-- Of two records of one length that differ at one byte one is none. -/
theorem one_byte {b : List UInt8} (h : RecIs b) (at_ : Nat) (ha : at_ < b.length) (c : UInt8) (h2 : RecIs (b.set at_ c)) : b.getD at_ 0 = c := by
  obtain ⟨h1, _, h3, _⟩ := h
  obtain ⟨_, _, g3, _⟩ := h2
  obtain ⟨b1, b2, b3, b4⟩ := rmN_le _ h1
  by_cases hin : 4 ≤ at_ ∧ at_ < 8
  · -- the sum's place
    have hz : zr (b.set at_ c) = zr b := by
      unfold zr
      rw [List.take_set_of_le (by omega), List.drop_set, if_pos (by omega)]
    have hs : smN (b.set at_ c) = smN b := by rw [g3, h3]; unfold sumOf; rw [hz]
    unfold smN at hs
    have hl1 : ((b.drop 4).take 4).length = 4 := by rw [List.length_take, List.length_drop]; omega
    have hl2 : (((b.set at_ c).drop 4).take 4).length = 4 := by rw [List.length_take, List.length_drop, List.length_set]; omega
    have he : ((b.set at_ c).drop 4).take 4 = (b.drop 4).take 4 := by
      rw [← be_un 4 _ hl1, ← be_un 4 _ hl2, hs]
    have := congrArg (fun l => l[at_ - 4]?) he
    simp only [List.getElem?_take, List.getElem?_drop] at this
    rw [if_pos (by omega), if_pos (by omega), show 4 + (at_ - 4) = at_ from by omega, List.getElem?_set_self ha] at this
    rw [List.getD_eq_getElem?_getD, ← this]
    rfl
  · have hsm : smN (b.set at_ c) = smN b := by
      unfold smN
      congr 1
      apply List.ext_getElem?
      intro i
      simp only [List.getElem?_take, List.getElem?_drop]
      split
      · rw [List.getElem?_set_ne (by omega)]
      · rfl
    have hss : sumOf (b.set at_ c) = sumOf b := by rw [← g3, ← h3, hsm]
    -- noughts in the sum's place: one byte is another
    have key : ∀ (x : UInt8), ∃ L R, zr (b.set at_ x) = L ++ x :: R ∧ ∀ y, zr (b.set at_ y) = L ++ y :: R := by
      intro x
      by_cases hlo : at_ < 4
      · refine ⟨b.take at_, (b.drop (at_ + 1)).take (3 - at_) ++ ([0, 0, 0, 0] ++ b.drop 8), ?_⟩
        have : ∀ y, zr (b.set at_ y) = b.take at_ ++ y :: ((b.drop (at_ + 1)).take (3 - at_) ++ ([0, 0, 0, 0] ++ b.drop 8)) := by
          intro y
          unfold zr
          rw [List.drop_set, if_pos (by omega), List.set_eq_take_append_cons_drop, if_pos ha, List.take_append, List.length_take, Nat.min_eq_left (by omega),
            List.take_take, Nat.min_eq_right (by omega), show 4 - at_ = (3 - at_) + 1 from by omega, List.take_succ_cons]
          simp
        exact ⟨this x, this⟩
      · refine ⟨b.take 4 ++ ([0, 0, 0, 0] ++ (b.drop 8).take (at_ - 8)), b.drop (at_ + 1), ?_⟩
        have : ∀ y, zr (b.set at_ y) = (b.take 4 ++ ([0, 0, 0, 0] ++ (b.drop 8).take (at_ - 8))) ++ y :: b.drop (at_ + 1) := by
          intro y
          unfold zr
          rw [List.take_set_of_le (by omega), List.drop_set, if_neg (by omega), List.set_eq_take_append_cons_drop, if_pos (by rw [List.length_drop]; omega), List.drop_drop, show 8 + (at_ - 8 + 1) = at_ + 1 from by omega]
          simp
        exact ⟨this x, this⟩
    obtain ⟨L, R, hx, hall⟩ := key (b.getD at_ 0)
    have hb : b.set at_ (b.getD at_ 0) = b := by
      rw [List.getD_eq_getElem?_getD, List.getElem?_eq_getElem ha]
      exact List.set_getElem_self ha
    rw [hb] at hx
    have e1 : nat (zr b) = nat L ++ (b.getD at_ 0).toNat :: nat R := by rw [hx, Crc.nat_append, Crc.nat_cons]
    have e2 : nat (zr (b.set at_ c)) = nat L ++ c.toNat :: nat R := by rw [hall c, Crc.nat_append, Crc.nat_cons]
    have := Crc.sum_one (nat L) (nat R) (b.getD at_ 0).toNat c.toNat (Crc.nat_lt R) (b.getD at_ 0).toNat_lt c.toNat_lt (by rw [← e1, ← e2]; exact hss.symm)
    exact UInt8.toNat_inj.1 this
theorem recIs_last {b : List UInt8} (h : RecIs b) : b.getD (b.length - 1) 0 = 0xe7 := by
  obtain ⟨h1, _, _, _, h5, _, h7⟩ := h
  obtain ⟨b1, b2, b3, b4⟩ := rmN_le _ h1
  have := congrArg (fun l => l[b.length - 19 - 19 * ctN b]?) h7
  simp only [List.getElem?_drop] at this
  rw [show 18 + 19 * ctN b + (b.length - 19 - 19 * ctN b) = b.length - 1 from by omega, List.getElem?_append_right (by simp)] at this
  rw [List.getD_eq_getElem?_getD, this]
  simp
theorem recIs_front {b : List UInt8} (h : RecIs b) : b.getD 0 0 = 0x43 ∧ b.getD 1 0 = 0x4c := by
  obtain ⟨h1, h2, _⟩ := h
  obtain ⟨b1, b2, b3, b4⟩ := rmN_le _ h1
  have he : be 4 magic = b.take 4 := by
    rw [← h2]
    exact be_un _ _ (by rw [List.length_take]; omega)
  have e0 := congrArg (fun l => l[0]?) he
  have e1 := congrArg (fun l => l[1]?) he
  simp only [List.getElem?_take] at e0 e1
  rw [if_pos (by omega)] at e0 e1
  rw [List.getD_eq_getElem?_getD, List.getD_eq_getElem?_getD, ← e0, ← e1]
  decide
end Go.Proofs.YtefgahakbnfdeaaDoor.Rc
