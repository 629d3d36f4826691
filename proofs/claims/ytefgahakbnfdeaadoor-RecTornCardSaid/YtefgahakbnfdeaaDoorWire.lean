/- Numbers as bytes: wire.width, wire.Pack. -/
import Derived.Test.YtefgahakbnfdeaaDoorWords2
import Derived.Test.YtefgahakbnfdeaaDoorRecPure
import Derived.Deep.LoopGhost
import Derived.Deep.QuietTactic
import Derived.BigQuiet
import Derived.WideLaws
import Derived.Outline
namespace Go.Proofs.YtefgahakbnfdeaaDoor.Rc
open Go.RowKit Go.Proofs.YtefgahakbnfdeaaDoorW.PrintWords Go.Proofs.YtefgahakbnfdeaaDoorW.PrintMore Go.Proofs.YtefgahakbnfdeaaDoor.Base
set_option linter.unusedVariables false
set_option linter.unusedSimpArgs false

theorem width_calls (n : Int) (w : World) :
    Calls Tryd.prog 31 #[.int .i64 n] w fun e w' => e = .returned (.int .i64 (wd n : Int)) ∧ w = w' := by
  by_cases h1 : n = 1
  · subst h1
    go_enter Tryd.func31, Tryd.ntmps31
    go_wp2
    go_ret
    exact ⟨rfl, rfl⟩
  by_cases h2 : n = 2
  · subst h2
    go_enter Tryd.func31, Tryd.ntmps31
    go_wp2
    go_ret
    exact ⟨rfl, rfl⟩
  by_cases h4 : n = 4
  · subst h4
    go_enter Tryd.func31, Tryd.ntmps31
    go_wp2
    go_ret
    exact ⟨rfl, rfl⟩
  have HW := Aside0.mk (show wd n = 8 from if_neg (by omega))
  have e1 : (n == 1) = false := by rw [beq_eq_false_iff_ne]; exact h1
  have e2 : (n == 2) = false := by rw [beq_eq_false_iff_ne]; exact h2
  have e4 : (n == 4) = false := by rw [beq_eq_false_iff_ne]; exact h4
  clear h1 h2 h4
  go_enter Tryd.func31, Tryd.ntmps31
  go_wp2
  go_ret
  exact ⟨by rw [HW.out]; rfl, rfl⟩

theorem num_at {k : IntKind} {w : World} {A : Option Addr} {n : Nat} {xs : List Int} (h : (num k).C w A n xs) (i : Nat) (hi : i < n) :
    ∃ ad, A = some ad ∧ w.cell? (ad.add i) = some (.int k (xs.getD i 0)) ∧ (Lit.int k (xs.getD i 0)).wf = true := by
  obtain ⟨ad, c, e, _, hK, hc⟩ := ReadsRow.get_ h 0 (i : Int) (by omega) (by omega)
  obtain ⟨rfl, hw⟩ := hK
  refine ⟨ad, e, ?_, hw⟩
  have := hc 0 _ rfl
  rwa [Int.toNat_natCast, show i * (num k).sz + 0 = i from by show i * 1 + 0 = i; omega] at this
theorem nat_at {k : IntKind} {w : World} {A : Option Addr} {n : Nat} {xs : List Nat} (h : (nat k).C w A n xs) (i : Nat) (hi : i < n) :
    ∃ ad, A = some ad ∧ w.cell? (ad.add i) = some (.int k ((xs.getD i 0 : Nat) : Int)) ∧ (Lit.int k ((xs.getD i 0 : Nat) : Int)).wf = true := by
  obtain ⟨ad, c, e, _, hK, hc⟩ := ReadsRow.get_ h 0 (i : Int) (by omega) (by omega)
  obtain ⟨rfl, hw⟩ := hK
  refine ⟨ad, e, ?_, hw⟩
  have := hc 0 _ rfl
  rwa [Int.toNat_natCast, show i * (nat k).sz + 0 = i from by show i * 1 + 0 = i; omega] at this
theorem pack_cons (ws : List Int) (vs : List Nat) (i : Nat) (h1 : i < ws.length) (h2 : i < vs.length) : pack (ws.take (i + 1)) (vs.take (i + 1)) = pack (ws.take i) (vs.take i) ++ be (wd (ws.getD i 0)) (vs.getD i 0) := by
  induction i generalizing ws vs with
  | zero =>
    obtain ⟨w, ws, rfl⟩ := List.exists_cons_of_length_pos h1
    obtain ⟨v, vs, rfl⟩ := List.exists_cons_of_length_pos h2
    simp [pack]
  | succ i ih =>
    obtain ⟨w, ws, rfl⟩ := List.exists_cons_of_length_pos (show 0 < ws.length by omega)
    obtain ⟨v, vs, rfl⟩ := List.exists_cons_of_length_pos (show 0 < vs.length by omega)
    have := ih ws vs (by simpa using h1) (by simpa using h2)
    simp only [List.take_succ_cons, pack, this, List.append_assoc]
    rfl
theorem pack_short (ws : List Int) : ∀ (vs : List Nat) (i : Nat), i = min ws.length vs.length → pack (ws.take i) (vs.take i) = pack ws vs := by
  induction ws with
  | nil => intro vs i h; simp [pack]
  | cons w ws ih =>
    intro vs i h
    cases vs with
    | nil => simp [pack]
    | cons v vs =>
      cases i with
      | zero => simp at h
      | succ i => simp only [List.take_succ_cons, pack]; rw [ih vs i (by simp at h; omega)]
theorem pack_len (ws : List Int) : ∀ (vs : List Nat), (pack ws vs).length ≤ 8 * ws.length := by
  induction ws with
  | nil => intro vs; simp [pack]
  | cons w ws ih =>
    intro vs
    cases vs with
    | nil => simp [pack]
    | cons v vs =>
      have := ih vs
      have := (wd_pos w).2
      simp only [pack, List.length_append, be_len, List.length_cons]
      omega
attribute [local go_sem] min2_mn min_two
theorem p256 (r : Nat) : (2 : Nat) ^ (8 * r) = 256 ^ r := by rw [Nat.pow_mul]
theorem shr_byte (y r : Nat) : ((y : Int) / 2 ^ (8 * (r + 1) - 8) % 256) = ((UInt8.ofNat (y / 256 ^ r)).toNat : Int) := by
  have e : (UInt8.ofNat (y / 256 ^ r)).toNat = y / 256 ^ r % 256 := UInt8.toNat_ofNat'
  rw [e, ← p256, show 8 * (r + 1) - 8 = 8 * r from by omega, Int.natCast_emod, Int.natCast_ediv, Int.natCast_pow]
  rfl
theorem byte_lit (W : World) (y r : Nat) : byte.C (W.alloc (.cells #[.int .u8 ((y : Int) / 2 ^ (8 * (r + 1) - 8) % 256)] 5)) (some ⟨W.heap.size, 0, none⟩) 1 [UInt8.ofNat (y / 256 ^ r)] :=
  C_lit rfl (by exact ⟨by show [Value.int .u8 _] = [Value.int .u8 _]; rw [shr_byte], trivial⟩) rfl rfl (by simp)
set_option maxRecDepth 100000 in
set_option maxHeartbeats 2000000 in
theorem pack_calls (A : Option Addr) (n c : Nat) (ws : List Int) (B : Option Addr) (m d : Nat) (vs : List Nat) (w : World) (h : (num .i64).C w A n ws) (g : (nat .u64).C w B m vs) (hn : n ≤ 1000) (hm : m ≤ 1000) :
    Calls Tryd.prog 20 #[.slice A n c, .slice B m d] w fun e w' => ∃ v, e = .returned v ∧ Own w' w.heap.size v (pack ws vs) ∧ Below w.heap.size w w' := by
  obtain ⟨hl, hmx⟩ := C_len h
  obtain ⟨gl, gmx⟩ := C_len g
  have HL := Aside0.mk hl
  have GL := Aside0.mk gl
  have HC := Aside0.mk h
  have GC := Aside0.mk g
  have HM := Aside0.mk (show mn (n : Int) (m : Int) = ((min n m : Nat) : Int) by unfold mn; split <;> omega)
  obtain ⟨q, hq⟩ : ∃ q, min n m = q := ⟨_, rfl⟩
  have HQ := Aside0.mk hq
  have hqn : q ≤ n := by omega
  have hqm : q ≤ m := by omega
  have HM2 := Aside0.mk (show mn (n : Int) (m : Int) = (q : Int) by rw [HM.out, hq])
  clear h g hl gl HM hq
  have hmn := HM2.out
  go_enter Tryd.func20, Tryd.ntmps20
  go_wp2
  clear hmn
  go_loopg [5, 13] q (fun k v5 v13 wr => ∃ (i : Nat) (l : List UInt8), v13 = .int .i64 (i : Int) ∧ i ≤ q ∧ Aside0 (k + i = q) ∧ Aside0 (l = pack (ws.take i) (vs.take i)) ∧ Aside0 (Own wr w.heap.size v5 l) ∧ Aside0 (Below w.heap.size w wr))
  case atStart => exact ⟨0, [], rfl, by omega, ⟨rfl⟩, ⟨by simp [pack]⟩, ⟨Own.nil _ _⟩, ⟨Below.refl _ _⟩⟩
  case round =>
    obtain ⟨i, l, rfl, hi, HK, HP, HO, HB⟩ := hrel
    by_cases hlt : i < q
    · obtain ⟨pa, rfl, e0, hwf⟩ := num_at (Kd.C_below HC.out HB.out) i (by omega)
      obtain ⟨x, hx⟩ : ∃ x, ws.getD i 0 = x := ⟨_, rfl⟩
      rw [hx] at e0 hwf
      have HX := Aside0.mk hx
      have hlt' : (i : Int) < (q : Int) := by omega
      have hd0 : decide ((i : Int) < (q : Int)) = true := decide_eq_true hlt'
      have HWF := Aside0.mk hwf
      have hw8 := wd_pos x
      clear hx hwf
      go_wp2_with fail
      refine (width_calls x _).mono ?_
      rintro e w2 ⟨rfl, rfl⟩
      obtain ⟨k, hk⟩ : ∃ k, wd x = k := ⟨_, rfl⟩
      rw [hk] at hw8 ⊢
      have HKW := Aside0.mk hk
      clear hk
      obtain ⟨pv, rfl, f0, hwv⟩ := nat_at (Kd.C_below GC.out HB.out) i (by omega)
      obtain ⟨y, hy⟩ : ∃ y, vs.getD i 0 = y := ⟨_, rfl⟩
      rw [hy] at f0 hwv
      have HY := Aside0.mk hy
      have HWV := Aside0.mk hwv
      have F0 := Aside0.mk f0
      have HIM := Aside0.mk (show i < m from by omega)
      clear hy hwv f0
      go_wp2
      clear e0
      obtain ⟨wo, rfl⟩ : ∃ wo : World, wo = wr := ⟨_, rfl⟩
      go_loopg [5, 7] k (fun g v5 v7 wr => ∃ (r : Nat) (l1 : List UInt8), v7 = .int .i64 (8 * (r : Int)) ∧ r ≤ k ∧ Aside0 (g = r) ∧ Aside0 (l1 ++ be r y = l ++ be k y) ∧ Aside0 (Own wr w.heap.size v5 l1) ∧ Aside0 (Below w.heap.size w wr))
      case atStart => exact ⟨k, l, rfl, by omega, ⟨rfl⟩, ⟨rfl⟩, HO, HB⟩
      case round =>
        obtain ⟨r, l1, rfl, hr, HG1, HP1, HO1, HB1⟩ := hrel
        cases r with
        | zero =>
          go_wp2
          go_roundg (q - (i + 1))
          case measure => have := HK.out; omega
          case rel =>
            refine ⟨i + 1, l1, by congr 1, by omega, ⟨by omega⟩, ⟨?_⟩, HO1, HB1⟩
            have h1 := HP1.out
            have h2 := HL.out
            have h3 := GL.out
            rw [pack_cons ws vs i (by omega) (by omega), HX.out, HY.out, HKW.out, ← HP.out, ← h1]
            simp [be]
        | succ r =>
          obtain ⟨pv', hpv, f0, -⟩ := nat_at (Kd.C_below GC.out HB1.out) i HIM.out
          injection hpv with hpv
          subst hpv
          rw [HY.out] at f0
          obtain ⟨A1, n1, c1, rfl, hc1, hC1⟩ := HO1.out.reads
          have HLE := Aside0.mk (show l1.length ≤ 100000 from by
            have h1 := congrArg List.length HP1.out
            have h2 := pack_len (ws.take i) (vs.take i)
            rw [← HP.out, List.length_take] at h2
            simp only [List.length_append, be_len] at h1
            omega)
          go_wp2_with (at_builtin; (refine app_row (w0 := w) w.heap.size (.tmp 26) (.tmp 34) rfl rfl _ l1 [UInt8.ofNat (y / 256 ^ r)] _ _ _ rfl rfl (HO1.out.below (alloc_below _ _)) (byte_lit wr y r) (below_alloc HB1.out _) (below_alloc HB1.out _).size (by have := HLE.out; omega) ?_); intro v2 w2 hO2 hB2 _; (have HO2 := Aside0.mk hO2; have HB2 := Aside0.mk hB2; clear hO2 hB2))
          go_wp2
          go_roundg r
          case measure => have := HG1.out; omega
          case rel => exact ⟨r, _, by congr 1; omega, by omega, ⟨rfl⟩, ⟨by rw [← HP1.out]; simp [be]⟩, HO2, HB2⟩
    · obtain rfl : i = q := by omega
      have hd0 : decide ((i : Int) < (i : Int)) = false := decide_eq_false (by omega)
      go_wp2
      go_ret
      refine ⟨_, rfl, ?_, HB.out⟩
      have h1 := HO.out
      rw [HP.out, pack_short ws vs i (by rw [HL.out, GL.out]; exact HQ.out.symm)] at h1
      exact h1
end Go.Proofs.YtefgahakbnfdeaaDoor.Rc
