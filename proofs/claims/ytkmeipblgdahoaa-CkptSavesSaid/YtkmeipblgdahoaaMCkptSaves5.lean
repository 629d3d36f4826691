/- Part 5 of 5 of the proof of CkptSaves: RefWire, RefKit, RefRises, RefCkEnc, RefShape, RefCkSave, RefCkDecP, RefCkDec, RefCkLoad, CkptDevs, HeavyZ, CkptSaves, RowCkptSaves. -/
import Derived.Test.YtkmeipblgdahoaaMCkptSaves4
import Derived.Handy
import Derived.Deep.Cut
import Derived.Deep.RegionHeld3
import Derived.Test.YtkmeipblgdahoaaRows
import Derived.WalkKit
import Derived.ProofKit
import Derived.OpenShut
import Derived.ShutString
import Derived.ChangeOld
import Derived.Below
import Derived.SizedLaws
import Derived.Lib.SmallJoins
namespace Go.Proofs.Ytkmeipblgdahoaa.Rc
open Go.RowKit Go.Proofs.YtkmeipblgdahoaaW.PrintWords Go.Proofs.YtkmeipblgdahoaaW.PrintMore Go.Proofs.Ytkmeipblgdahoaa.Base
set_option linter.unusedVariables false
set_option linter.unusedSimpArgs false
theorem rwidth_calls (n : Int) (w : World) :
    Calls Try.prog 72 #[.int .i64 n] w fun e w' => e = .returned (.int .i64 (wd n : Int)) ∧ w = w' := by
  by_cases h1 : n = 1
  · subst h1
    go_enter Try.func72, Try.ntmps72
    go_wp2
    go_ret
    exact ⟨rfl, rfl⟩
  by_cases h2 : n = 2
  · subst h2
    go_enter Try.func72, Try.ntmps72
    go_wp2
    go_ret
    exact ⟨rfl, rfl⟩
  by_cases h4 : n = 4
  · subst h4
    go_enter Try.func72, Try.ntmps72
    go_wp2
    go_ret
    exact ⟨rfl, rfl⟩
  have HW := Aside0.mk (show wd n = 8 from if_neg (by omega))
  have e1 : (n == 1) = false := by rw [beq_eq_false_iff_ne]; exact h1
  have e2 : (n == 2) = false := by rw [beq_eq_false_iff_ne]; exact h2
  have e4 : (n == 4) = false := by rw [beq_eq_false_iff_ne]; exact h4
  clear h1 h2 h4
  go_enter Try.func72, Try.ntmps72
  go_wp2
  go_ret
  exact ⟨by rw [HW.out]; rfl, rfl⟩
theorem rbyte_lit (W : World) (y r : Nat) : byte.C (W.alloc (.cells #[.int .u8 ((y : Int) / 2 ^ (8 * r) % 256)] 5)) (some ⟨W.heap.size, 0, none⟩) 1 [UInt8.ofNat (y / 256 ^ r)] := by
  have := byte_lit W y r
  rwa [show 8 * (r + 1) - 8 = 8 * r from by omega] at this
set_option maxRecDepth 100000 in
set_option maxHeartbeats 2000000 in
theorem rpack_calls (A : Option Addr) (n c : Nat) (ws : List Int) (B : Option Addr) (m d : Nat) (vs : List Nat) (w : World) (h : (num .i64).C w A n ws) (g : (nat .u64).C w B m vs) (hn : n ≤ 1000) (hm : m ≤ 1000) :
    Calls Try.prog 41 #[.slice A n c, .slice B m d] w fun e w' => ∃ v, e = .returned v ∧ Base.Own w' w.heap.size v (pack ws vs) ∧ Below w.heap.size w w' := by
  obtain ⟨hl, hmx⟩ := C_len h
  obtain ⟨gl, gmx⟩ := C_len g
  have HL := Aside0.mk hl
  have GL := Aside0.mk gl
  have HC := Aside0.mk h
  have GC := Aside0.mk g
  obtain ⟨q, hq⟩ : ∃ q, min n m = q := ⟨_, rfl⟩
  have HQ := Aside0.mk hq
  have hqn : q ≤ n := by omega
  have hqm : q ≤ m := by omega
  clear h g hl gl hq
  go_enter Try.func41, Try.ntmps41
  go_wp2
  go_loopg [5, 6] q (fun k v5 v6 wr => ∃ (i : Nat) (l : List UInt8), v6 = .int .i64 (i : Int) ∧ i ≤ q ∧ Aside0 (k + i = q) ∧ Aside0 (l = pack (ws.take i) (vs.take i)) ∧ Aside0 (Base.Own wr w.heap.size v5 l) ∧ Aside0 (Below w.heap.size w wr))
  case atStart => exact ⟨0, [], rfl, by omega, ⟨rfl⟩, ⟨by simp [pack]⟩, ⟨Base.Own.nil _ _⟩, ⟨Below.refl _ _⟩⟩
  case round =>
    obtain ⟨i, l, rfl, hi, HK, HP, HO, HB⟩ := hrel
    by_cases hlt : i < q
    · obtain ⟨pa, rfl, e0, hwf⟩ := num_at (Kd.C_below HC.out HB.out) i (by omega)
      obtain ⟨x, hx⟩ : ∃ x, ws.getD i 0 = x := ⟨_, rfl⟩
      rw [hx] at e0 hwf
      have HX := Aside0.mk hx
      have hd0 : decide ((i : Int) < (n : Int)) = true := decide_eq_true (by omega)
      have hd0' : decide (i < n) = true := decide_eq_true (by omega)
      have hd1 : decide ((i : Int) < (m : Int)) = true := decide_eq_true (by omega)
      have hd1' : decide (i < m) = true := decide_eq_true (by omega)
      have HWF := Aside0.mk hwf
      have hw8 := wd_pos x
      clear hx hwf
      go_wp2_with fail
      refine (rwidth_calls x _).mono ?_
      rintro e w2 ⟨rfl, rfl⟩
      obtain ⟨k, hk⟩ : ∃ k, wd x = k := ⟨_, rfl⟩
      rw [hk] at hw8 ⊢
      have HKW := Aside0.mk hk
      clear hk hd0 hd0' hd1 hd1'
      obtain ⟨pv, rfl, f0, hwv⟩ := nat_at (Kd.C_below GC.out HB.out) i (by omega)
      obtain ⟨y, hy⟩ : ∃ y, vs.getD i 0 = y := ⟨_, rfl⟩
      rw [hy] at f0 hwv
      have HY := Aside0.mk hy
      have HIM := Aside0.mk (show i < m from by omega)
      clear hy hwv f0
      go_wp2
      clear e0
      obtain ⟨wo, rfl⟩ : ∃ wo : World, wo = wr := ⟨_, rfl⟩
      go_loopg [5, 7] k (fun g v5 v7 wr => ∃ (r : Nat) (z : Int) (l1 : List UInt8), v7 = .int .i64 z ∧ r ≤ k ∧ Aside0 (z = (r : Int) - 1) ∧ Aside0 (g = r) ∧ Aside0 (l1 ++ be r y = l ++ be k y) ∧ Aside0 (Base.Own wr w.heap.size v5 l1) ∧ Aside0 (Below w.heap.size w wr))
      case atStart => exact ⟨k, (k : Int) - 1, l, rfl, by omega, ⟨rfl⟩, ⟨rfl⟩, ⟨rfl⟩, HO, HB⟩
      case round =>
        obtain ⟨r, z, l1, rfl, hr, HZ, HG1, HP1, HO1, HB1⟩ := hrel
        cases r with
        | zero =>
          obtain rfl : z = -1 := by have := HZ.out; omega
          go_wp2
          go_roundg (q - (i + 1))
          case measure => have := HK.out; omega
          case rel =>
            refine ⟨i + 1, l1, by congr 1, by omega, ⟨by omega⟩, ⟨?_⟩, HO1, HB1⟩
            have h1 := HP1.out
            have h2 := HL.out
            have h3 := GL.out
            rw [pack_cons ws vs i (by omega) (by omega), HX.out, HY.out, HKW.out, ← HP.out, ← h1]
            simp [be]
        | succ r =>
          obtain rfl : z = (r : Int) := by have := HZ.out; omega
          obtain ⟨pv', hpv, f0, -⟩ := nat_at (Kd.C_below GC.out HB1.out) i HIM.out
          injection hpv with hpv
          subst hpv
          rw [HY.out] at f0
          obtain ⟨A1, n1, c1, rfl, hc1, hC1⟩ := HO1.out.reads
          have HLE := Aside0.mk (show l1.length ≤ 100000 from by
            have h1 := congrArg List.length HP1.out
            have h2 := pack_len (ws.take i) (vs.take i)
            rw [← HP.out, List.length_take] at h2
            simp only [List.length_append, be_len] at h1
            omega)
          go_wp2_with (at_builtin; (refine app_row (w0 := w) w.heap.size (.tmp 30) (.tmp 40) rfl rfl _ l1 [UInt8.ofNat (y / 256 ^ r)] _ _ _ rfl rfl (HO1.out.below (alloc_below _ _)) (rbyte_lit wr y r) (below_alloc HB1.out _) (below_alloc HB1.out _).size (by have := HLE.out; omega) ?_); intro v2 w2 hO2 hB2 _; (have HO2 := Aside0.mk hO2; have HB2 := Aside0.mk hB2; clear hO2 hB2))
          go_wp2
          go_roundg r
          case measure => have := HG1.out; omega
          case rel => exact ⟨r, _, _, rfl, by omega, ⟨rfl⟩, ⟨rfl⟩, ⟨by rw [← HP1.out]; simp [be]⟩, HO2, HB2⟩
    · obtain rfl : i = q := by omega
      have he : pack (ws.take i) (vs.take i) = pack ws vs := pack_short ws vs i (by rw [HL.out, GL.out]; exact HQ.out.symm)
      have HE := Aside0.mk he
      clear he
      by_cases hin : i < n
      · have hd0 : decide ((i : Int) < (n : Int)) = true := decide_eq_true (by omega)
        have hd0' : decide (i < n) = true := decide_eq_true (by omega)
        have hd1 : decide ((i : Int) < (m : Int)) = false := decide_eq_false (by have := HQ.out; omega)
        have hd1' : decide (i < m) = false := decide_eq_false (by have := HQ.out; omega)
        go_wp2
        go_ret
        refine ⟨_, rfl, ?_, HB.out⟩
        have h1 := HO.out
        rw [HP.out, HE.out] at h1
        exact h1
      · have hd0 : decide ((i : Int) < (n : Int)) = false := decide_eq_false (by omega)
        have hd0' : decide (i < n) = false := decide_eq_false (by omega)
        go_wp2
        go_ret
        refine ⟨_, rfl, ?_, HB.out⟩
        have h1 := HO.out
        rw [HP.out, HE.out] at h1
        exact h1
section
variable {ops : Array Oper} {rest : List Oper} {o : Oper} {a : Act} {Q : Exit → Act → World → Prop}
/-- append(v, x): a number. -/
theorem app_u64 {w0 W : World} (base : Nat) (s x : Operand) (hgd : o.guard = none) (ho : o.op = .call { callee := .builtin .append, args := #[s, x], argTypes := #[92, 92] })
    (v : Value) (xs : List Nat) (y : Nat) (hy : (Lit.int .u64 (y : Int)).wf = true) (hs : a.eval s = v) (hx : a.eval x = .slice (some ⟨W.heap.size, 0, none⟩) 1 1)
    (HO : OwnU W base v xs) (HB : Below base w0 W) (hbase : base ≤ W.heap.size) (hl : xs.length ≤ 100000)
    (h : ∀ v1 w1, OwnU w1 base v1 (xs ++ [y]) → Below base w0 w1 → W.grownBy w1 v.ownBlock → wpList Try.prog ops Q rest (a.put o.dst v1) w1) :
    wpList Try.prog ops Q (o :: rest) a (W.alloc (.cells #[.int .u64 (y : Int)] 24)) :=
  Kd.R_append (nat .u64) (w0 := w0) base hgd s x 92 24 (.int .u64 0) 8 ho Try.underlying92 info_u64 rfl (by decide) (by decide) v xs y [.int .u64 (y : Int)] anyB (fun _ => False) hs hx ⟨rfl, hy⟩ (fun _ h => h.elim) (fun _ _ => trivial) HO HB hbase (by omega) (fun v1 w1 h1 h2 h3 _ => h v1 w1 h1 h2 h3)
end
set_option maxRecDepth 100000 in
set_option maxHeartbeats 4000000 in
theorem rtake_callsU (A : Option Addr) (n c : Nat) (b : List UInt8) (B : Option Addr) (m d : Nat) (ws : List Int) (w : World) (h : byte.C w A n b) (hnc : n ≤ c) (hn : n ≤ 100000000) (hw : (num .i64).C w B m ws) (hm : m ≤ 1000) :
    Calls Try.prog 48 #[.slice A n c, .slice B m d] w (TakeP w (take b ws)) := by
  obtain ⟨wl, wmx⟩ := C_len hw
  obtain ⟨bl, bmx⟩ := C_len h
  have HWL := Aside0.mk wl
  have HBL := Aside0.mk bl
  have HWC := Aside0.mk hw
  have HC := Aside0.mk h
  clear h hw wl bl
  go_enter Try.func48, Try.ntmps48
  go_wp2
  go_loopg [7, 8, 9] m (fun g v7 v8 v9 wr => ∃ (i at_ : Nat) (l : List Nat), v9 = .int .i64 (i : Int) ∧ v8 = .int .i64 (at_ : Int) ∧ i ≤ m ∧ at_ ≤ n ∧ Aside0 (g + i = m) ∧ Aside0 (l.length = i) ∧ Aside0 (OwnU wr w.heap.size v7 l) ∧ Aside0 (Below w.heap.size w wr) ∧ Aside0 ((take (b.drop at_) (ws.drop i)).map (fun p => (l ++ p.1, p.2)) = take b ws))
  case atStart => exact ⟨0, 0, [], rfl, rfl, by omega, by omega, ⟨rfl⟩, ⟨rfl⟩, ⟨Kd.R_nil _ _ _ _ _⟩, ⟨Below.refl _ _⟩, ⟨by simp⟩⟩
  case round =>
    obtain ⟨i, at_, l, rfl, rfl, hi, hat, HK, HL, HO, HB, HP⟩ := hrel
    by_cases hlt : i < m
    · obtain ⟨pa, hpa, e0, hwf⟩ := num_at (Kd.C_below HWC.out HB.out) i (by omega)
      subst hpa
      obtain ⟨x, hx⟩ : ∃ x, ws.getD i 0 = x := ⟨_, rfl⟩
      rw [hx] at e0 hwf
      have HX := Aside0.mk hx
      have hd0 : decide ((i : Int) < (m : Int)) = true := decide_eq_true (by omega)
      have hd0' : decide (i < m) = true := decide_eq_true hlt
      have hw8 := wd_pos x
      have HDL := Aside0.mk (show (b.drop at_).length = n - at_ by rw [List.length_drop, HBL.out])
      clear hx hwf
      go_wp2_with fail
      refine (rwidth_calls x _).mono ?_
      rintro e w2 ⟨rfl, rfl⟩
      obtain ⟨k, hk⟩ : ∃ k, wd x = k := ⟨_, rfl⟩
      rw [hk] at hw8 ⊢
      have HKW := Aside0.mk hk
      clear hk hd0 hd0' e0
      by_cases hsh : n - at_ < k
      · have hd1 : decide ((n : Int) - (at_ : Int) < (k : Int)) = true := decide_eq_true (by omega)
        have HNone := Aside0.mk (show take b ws = none by rw [← HP.out, take_less (by rw [HWL.out]; exact hlt) HX.out (by rw [HKW.out, HDL.out]; exact hsh)]; rfl)
        clear hsh
        go_wp2
        go_ret3
        rw [HNone.out]
        exact ⟨HB.out, rfl⟩
      · have hd1 : decide ((n : Int) - (at_ : Int) < (k : Int)) = false := decide_eq_false (by omega)
        have HTM := Aside0.mk (take_more (by rw [HWL.out]; exact hlt) HX.out (by rw [HKW.out, HDL.out]; omega : wd x ≤ (b.drop at_).length) l)
        have hfit : at_ + k ≤ n := by omega
        clear hsh
        go_wp2
        clear hd1
        obtain ⟨wo, rfl⟩ : ∃ wo : World, wo = wr := ⟨_, rfl⟩
        go_loopg [11, 12] k (fun g1 v11 v12 w' => ∃ j y : Nat, v12 = .int .i64 (j : Int) ∧ v11 = .int .u64 (y : Int) ∧ j ≤ k ∧ Aside0 (g1 + j = k) ∧ Aside0 (y = un ((b.drop at_).take j)) ∧ w' = wo)
        case atStart => exact ⟨0, 0, rfl, rfl, by omega, ⟨rfl⟩, ⟨rfl⟩, rfl⟩
        case round =>
          obtain ⟨j, y, rfl, rfl, hj, HK2, HY, rfl⟩ := hrel
          by_cases hjl : j < k
          · have hd2 : decide ((j : Int) < (k : Int)) = true := decide_eq_true (by omega)
            have hd2' : decide (j < k) = true := decide_eq_true hjl
            obtain ⟨pb, hpb, f0⟩ := byte_at (Kd.C_below HC.out HB.out) (at_ + j) (by omega)
            subst hpb
            obtain ⟨z, hz⟩ : ∃ z, b.getD (at_ + j) 0 = z := ⟨_, rfl⟩
            rw [hz] at f0
            have HZ := Aside0.mk (show (b.drop at_).getD j 0 = z by rw [← hz, List.getD_eq_getElem?_getD, List.getD_eq_getElem?_getD, List.getElem?_drop])
            have hz8 := z.toNat_lt
            have hy7 : y < 72057594037927936 := by rw [HY.out]; exact un_lt7 _ (by rw [List.length_take]; omega)
            have hor := or_byte y z.toNat hz8 hy7
            have hi1 : (0 : Int) ≤ (at_ : Int) + (j : Int) := by omega
            have hi2 : (at_ : Int) + (j : Int) < (n : Int) := by omega
            clear hz
            go_wp2
            go_roundg (k - (j + 1))
            case measure => have := HK2.out; omega
            case rel => exact ⟨j + 1, y * 256 + z.toNat, by congr 1, by congr 1, by omega, ⟨by omega⟩, ⟨by rw [take_snocD (b.drop at_) 0 j (by rw [HDL.out]; omega), un_snoc, HZ.out, HY.out]⟩, rfl⟩
          · obtain rfl : j = k := by omega
            have hd2 : decide ((j : Int) < (j : Int)) = false := decide_eq_false (by omega)
            have HWY := Aside0.mk (show (Lit.int .u64 (y : Int)).wf = true by rw [HY.out]; exact wf_un _ (by rw [List.length_take]; omega))
            have HLL := Aside0.mk (show l.length ≤ 100000 by rw [HL.out]; omega)
            obtain ⟨A7, c7, rfl⟩ := Kd.R_slice HO.out
            go_wp2_with (at_builtin; (refine app_u64 (w0 := w) w.heap.size (.tmp 46) (.tmp 48) rfl rfl _ l y HWY.out rfl (by simp [Act.eval]) HO.out HB.out HB.out.size HLL.out ?_); intro v2 w2 hO2 hB2 _; (have HO2 := Aside0.mk hO2; have HB2 := Aside0.mk hB2; clear hO2 hB2))
            go_wp2
            go_roundg (m - (i + 1))
            case measure => have := HK.out; omega
            case rel => exact ⟨i + 1, at_ + j, l ++ [y], by congr 1, by congr 1, by omega, by omega, ⟨by omega⟩, ⟨by rw [List.length_append, HL.out]; rfl⟩, HO2, HB2, ⟨by
              have h1 := HTM.out
              rw [HKW.out, List.drop_drop, ← HY.out] at h1
              rw [← h1]; exact HP.out⟩⟩
    · obtain rfl : i = m := by omega
      have hd0 : decide ((i : Int) < (i : Int)) = false := decide_eq_false (by omega)
      have HRes := Aside0.mk (show take b ws = some (l, b.drop at_) by
        have h1 := HP.out
        rw [List.drop_of_length_le (l := ws) (by rw [HWL.out]; omega)] at h1
        rw [← h1]
        simp [take])
      have hcd := C_drop (Kd.C_below HC.out HB.out) hnc at_ hat
      rw [show at_ * byte.sz = at_ from by show at_ * 1 = at_; omega] at hcd
      have a1 : (at_ : Int) ≤ (n : Int) := by omega
      have a2 : (at_ : Int) ≤ (c : Int) := by omega
      by_cases hca : c = at_
      · rw [if_pos hca] at hcd
        have HCD := Aside0.mk hcd
        clear hcd
        go_wp2_with (at_builtin; (refine app_row (w0 := w) w.heap.size (.tmp 53) (.tmp 56) rfl rfl _ [] (b.drop at_) _ _ _ rfl rfl (Base.Own.nil _ _) HCD.out HB.out HB.out.size (by simp; omega) ?_); intro v2 w2 hO2 hB2 hg2; (have HO2 := Aside0.mk hO2; have HB2 := Aside0.mk hB2; have HU2 := Aside0.mk (Kd.R_below HO.out (below_of_grown hg2)); clear hO2 hB2 hg2))
        go_ret3
        rw [HRes.out]
        exact ⟨HB2.out, _, _, rfl, HU2.out, HO2.out⟩
      · rw [if_neg hca] at hcd
        have HCD := Aside0.mk hcd
        clear hcd
        go_wp2_with (at_builtin; (refine app_row (w0 := w) w.heap.size (.tmp 53) (.tmp 56) rfl rfl _ [] (b.drop at_) _ _ _ rfl rfl (Base.Own.nil _ _) HCD.out HB.out HB.out.size (by simp; omega) ?_); intro v2 w2 hO2 hB2 hg2; (have HO2 := Aside0.mk hO2; have HB2 := Aside0.mk hB2; have HU2 := Aside0.mk (Kd.R_below HO.out (below_of_grown hg2)); clear hO2 hB2 hg2))
        go_ret3
        rw [HRes.out]
        exact ⟨HB2.out, _, _, rfl, HU2.out, HO2.out⟩
end Go.Proofs.Ytkmeipblgdahoaa.Rc
namespace Go.Proofs.Ytkmeipblgdahoaa.Rc
open Go.RowKit Go.Proofs.YtkmeipblgdahoaaW.PrintWords Go.Proofs.YtkmeipblgdahoaaW.PrintMore Go.Proofs.Ytkmeipblgdahoaa.Base
set_option linter.unusedVariables false
set_option linter.unusedSimpArgs false
/-- Pack of literals. -/
theorem rpack_lits (w W : World) (ws : List Int) (vs : List Nat) (wv vv : Array Value) (B : World) (hB : B = (W.alloc (.cells wv 3)).alloc (.cells vv 24)) (g1 g2 n1 n2 : Nat) (h1 : g1 = W.heap.size) (h2 : g2 = W.heap.size + 1) (e1 : n1 = ws.length) (e2 : n2 = vs.length)
    (hwv : wv.toList = ws.map fun x => .int .i64 x) (hw : ∀ x ∈ ws, (Lit.int .i64 x).wf = true) (hvv : vv.toList = vs.map fun (x : Nat) => .int .u64 (x : Int)) (hv : ∀ x ∈ vs, x < 18446744073709551616) (hwl : ws.length ≤ 1000) (hvl : vs.length ≤ 1000) (hb : Below w.heap.size w W) :
    Calls Try.prog 41 #[.slice (some ⟨g1, 0, none⟩) n1 n1, .slice (some ⟨g2, 0, none⟩) n2 n2] B fun e w' => ∃ v, e = .returned v ∧ Base.Own w' W.heap.size v (pack ws vs) ∧ Below w.heap.size w w' ∧ Below W.heap.size W w' := by
  subst hB h1 h2 e1 e2
  have c1 := Kd.C_below (wid_lit W ws wv hwv hw hwl) (alloc_below (W.alloc (.cells wv 3)) (.cells vv 24))
  have c2 := val_lit (W.alloc (.cells wv 3)) vs vv hvv hv hvl
  have hz : (W.alloc (.cells wv 3)).heap.size = W.heap.size + 1 := by simp
  rw [hz] at c2
  refine (rpack_calls _ _ _ ws _ _ _ vs _ c1 c2 hwl hvl).mono ?_
  rintro e w' ⟨v, rfl, hO, hb'⟩
  have hbW : Below W.heap.size W w' := below_go (below_alloc (alloc_below W _) _) hb'
  exact ⟨v, rfl, Kd.R_lower hO (by simp; omega), below_go hb hbW, hbW⟩
section
variable {ops : Array Oper} {rest : List Oper} {o : Oper} {a : Act} {Q : Exit → Act → World → Prop}
/-- append(v, ys...), the new slice's form told. -/
theorem app_row2 {w0 W : World} (base : Nat) (s x : Operand) (hgd : o.guard = none) (ho : o.op = .call { callee := .builtin .append, args := #[s, x], argTypes := #[39, 39] })
    (v : Value) (xs ys : List UInt8) (A : Option Addr) (m c : Nat) (hs : a.eval s = v) (hx : a.eval x = .slice A m c)
    (HO : Base.Own W base v xs) (HR : byte.C W A m ys) (HB : Below base w0 W) (hbase : base ≤ W.heap.size) (hl : xs.length + m ≤ 140737488355328) (k : Nat) (hk : xs.length + m = k) (hk0 : 0 < k)
    (h : ∀ g c1 w1, Base.Own w1 base (.slice (some ⟨g, 0, none⟩) k c1) (xs ++ ys) → Below base w0 w1 → base ≤ g → k ≤ c1 → wpList Try.prog ops Q rest (a.put o.dst (.slice (some ⟨g, 0, none⟩) k c1)) w1) : wpList Try.prog ops Q (o :: rest) a W := by
  refine app_row (w0 := w0) base s x hgd ho v xs ys A m c hs hx HO HR HB hbase hl (fun v1 w1 h1 h2 _ => ?_)
  have hm : ys.length = m := HR.1
  obtain ⟨g, c1, rfl, hg, -, hc, -⟩ := own_form h1 (by rw [List.length_append]; omega)
  have e : (xs ++ ys).length = k := by rw [List.length_append]; omega
  rw [e] at h1 hc ⊢
  exact h g c1 w1 h1 h2 hg hc
end
theorem put_step (P bs : List UInt8) (k : Nat) (z : UInt8) (hk : k < 4) (hb : bs.length = 4) (hP : 8 ≤ P.length) (hz : bs.getD k 0 = z) :
    (P.take 4 ++ (bs.take k ++ P.drop (4 + k))).set (4 + k) z = P.take 4 ++ (bs.take (k + 1) ++ P.drop (4 + (k + 1))) := by
  have h1 : (P.take 4).length = 4 := by rw [List.length_take]; omega
  have h2 : (bs.take k).length = k := by rw [List.length_take]; omega
  rw [List.set_append, if_neg (by omega), h1, Nat.add_sub_cancel_left, List.set_append, if_neg (by omega), h2, Nat.sub_self, List.drop_eq_getElem_cons (show 4 + k < P.length by omega), List.set_cons_zero, take_snocD bs 0 k (by omega), hz]
  simp [Nat.add_assoc]
theorem _root_.Go.World.grownBy_set1 (W : World) (p : Addr) (v : Value) : W.grownBy (W.setCell p v) (some p.block) := ⟨rfl, rfl, rfl, (KeepsWalks.setCell W _ v).size, fun k _ hk => Below.heap_setCell _ _ _ k (fun e => hk (by rw [e]))⟩
end Go.Proofs.Ytkmeipblgdahoaa.Rc
namespace Go.Proofs.Ytkmeipblgdahoaa.Ck
open Go.RowKit Go.Proofs.YtkmeipblgdahoaaW.PrintWords Go.Proofs.YtkmeipblgdahoaaW.PrintMore Go.Proofs.Ytkmeipblgdahoaa.Base
set_option maxRecDepth 100000
set_option linter.unusedVariables false
set_option linter.unusedSimpArgs false
set_option maxHeartbeats 4000000 in
theorem rises_calls (A : Option Addr) (n c : Nat) (l : List Plc) (w : World) (h : plK.C w A n l) :
    Calls Try.prog 40 #[.slice A n c] w fun e w' => e = .returned (.bool (decide (Rises l))) ∧ Below w.heap.size w w' := by
  obtain ⟨hl, hm⟩ := C_len h
  have HL := Aside0.mk hl
  have HC := Aside0.mk h
  clear h hl
  go_enter Try.func40, Try.ntmps40
  go_wp2
  go_loopg [3] n (fun g1 v3 wr => ∃ i : Nat, v3 = .int .i64 (i : Int) ∧ 1 ≤ i ∧ i ≤ n + 1 ∧ Aside0 (g1 + i = n + 1) ∧ Aside0 (∀ j, j + 1 < i → j + 1 < n → Below2 (l.getD j plc0) (l.getD (j + 1) plc0)) ∧ Aside0 (Below w.heap.size w wr))
  case atStart => exact ⟨1, rfl, by omega, by omega, ⟨rfl⟩, ⟨fun j h1 h2 => by omega⟩, ⟨Below.refl _ _⟩⟩
  case round =>
    obtain ⟨i, rfl, hi1, hi, HK, HS, HB⟩ := hrel
    by_cases hlt : i < n
    · have hd0 : decide ((i : Int) < (n : Int)) = true := decide_eq_true (by omega)
      have hd0' : decide (i < n) = true := decide_eq_true hlt
      obtain ⟨j, hj⟩ : ∃ j : Nat, (i : Int) - 1 = (j : Int) := ⟨i - 1, by omega⟩
      obtain ⟨x, hx⟩ : ∃ x, l.getD j plc0 = x := ⟨_, rfl⟩
      obtain ⟨y, hy⟩ : ∃ y, l.getD i plc0 = y := ⟨_, rfl⟩
      obtain ⟨pa, rfl, -, -, -, e0, e1, e2, e3⟩ := pl_at (Kd.C_below HC.out HB.out) j (by omega) hx
      obtain ⟨pb, hpb, -, -, -, b0, b1, b2, b3⟩ := pl_at (Kd.C_below HC.out (below_alloc HB.out (.cells (plV x) 88))) i hlt hy
      injection hpb with hpb
      subst hpb
      have HXY := Aside0.mk (And.intro hx hy)
      have HIJ := Aside0.mk (show i = j + 1 by omega)
      obtain ⟨x1, x2, x3, x4⟩ := x
      obtain ⟨y1, y2, y3, y4⟩ := y
      dsimp only at e0 e1 e2 e3 b0 b1 b2 b3
      unfold plV at b0 b1 b2 b3
      dsimp only at b0 b1 b2 b3
      have hj0 : (0 : Int) ≤ (j : Int) := by omega
      have hj1 : (j : Int) < (n : Int) := by omega
      have hi0 : (0 : Int) ≤ (i : Int) := by omega
      have hin : (i : Int) < (n : Int) := by omega
      have HB2 := Aside0.mk (below_alloc (below_alloc HB.out (.cells #[.int .u32 (x1 : Int), .int .u64 (x2 : Int), .int .i64 x3, .int .i64 x4] 88)) (.cells #[.int .u32 (y1 : Int), .int .u64 (y2 : Int), .int .i64 y3, .int .i64 y4] 88))
      clear hx hy
      by_cases h1 : y1 < x1
      · have hg : decide ((y1 : Int) < (x1 : Int)) = true := decide_eq_true (by omega)
        have hg' : decide (y1 < x1) = true := decide_eq_true h1
        have HN := Aside0.mk (show ¬ Rises l from fun hr => by
          have := (rises_iff l).1 hr j (by rw [HL.out]; have := HIJ.out; omega)
          rw [← HIJ.out, HXY.out.1, HXY.out.2] at this
          unfold Below2 at this
          dsimp only at this
          omega)
        clear h1
        go_wp2
        go_ret
        exact ⟨by rw [decide_eq_false HN.out]; rfl, HB2.out⟩
      have hg : decide ((y1 : Int) < (x1 : Int)) = false := decide_eq_false (by omega)
      have hg' : decide (y1 < x1) = false := decide_eq_false h1
      by_cases h2 : x1 = y1
      · have he : ((x1 : Int) == (y1 : Int)) = true := by rw [beq_iff_eq]; omega
        have he' : decide ((x1 : Int) = (y1 : Int)) = true := decide_eq_true (by omega)
        by_cases h3 : y2 ≤ x2
        · have hq : decide ((y2 : Int) ≤ (x2 : Int)) = true := decide_eq_true (by omega)
          have hq' : decide (y2 ≤ x2) = true := decide_eq_true h3
          have HN := Aside0.mk (show ¬ Rises l from fun hr => by
            have := (rises_iff l).1 hr j (by rw [HL.out]; have := HIJ.out; omega)
            rw [← HIJ.out, HXY.out.1, HXY.out.2] at this
            unfold Below2 at this
            dsimp only at this
            omega)
          clear h1 h2 h3
          go_wp2
          go_ret
          exact ⟨by rw [decide_eq_false HN.out]; rfl, HB2.out⟩
        · have hq : decide ((y2 : Int) ≤ (x2 : Int)) = false := decide_eq_false (by omega)
          have hq' : decide (y2 ≤ x2) = false := decide_eq_false h3
          have HY := Aside0.mk (show Below2 (x1, x2, x3, x4) (y1, y2, y3, y4) from .inr ⟨h2, by dsimp only; omega⟩)
          clear h1 h2 h3
          go_wp2
          go_roundg (gk - 1)
          case measure => have := HK.out; omega
          case rel =>
            refine ⟨i + 1, by congr 1, by omega, by omega, ⟨by have := HK.out; omega⟩, ⟨fun k hk1 hk2 => ?_⟩, HB2⟩
            by_cases hk : k + 1 < i
            · exact HS.out k hk hk2
            · obtain rfl : k = j := by have := HIJ.out; omega
              rw [← HIJ.out, HXY.out.1, HXY.out.2]
              exact HY.out
      · have he : ((x1 : Int) == (y1 : Int)) = false := by rw [beq_eq_false_iff_ne]; omega
        have he' : decide ((x1 : Int) = (y1 : Int)) = false := decide_eq_false (by omega)
        have HY := Aside0.mk (show Below2 (x1, x2, x3, x4) (y1, y2, y3, y4) from .inl (by dsimp only; omega))
        clear h1 h2
        go_wp2
        go_roundg (gk - 1)
        case measure => have := HK.out; omega
        case rel =>
          refine ⟨i + 1, by congr 1, by omega, by omega, ⟨by have := HK.out; omega⟩, ⟨fun k hk1 hk2 => ?_⟩, HB2⟩
          by_cases hk : k + 1 < i
          · exact HS.out k hk hk2
          · obtain rfl : k = j := by have := HIJ.out; omega
            rw [← HIJ.out, HXY.out.1, HXY.out.2]
            exact HY.out
    · have hd0 : decide ((i : Int) < (n : Int)) = false := decide_eq_false (by omega)
      have hd0' : decide (i < n) = false := decide_eq_false hlt
      have HR := Aside0.mk (show Rises l from (rises_iff l).2 fun k hk => HS.out k (by have := HL.out; omega) (by have := HL.out; omega))
      clear hlt
      go_wp2
      go_ret
      exact ⟨by rw [decide_eq_true HR.out]; rfl, HB.out⟩
end Go.Proofs.Ytkmeipblgdahoaa.Ck
namespace Go.Proofs.Ytkmeipblgdahoaa.Ck
open Go.RowKit Go.Proofs.YtkmeipblgdahoaaW.PrintWords Go.Proofs.YtkmeipblgdahoaaW.PrintMore Go.Proofs.Ytkmeipblgdahoaa.Base Go.Proofs.Ytkmeipblgdahoaa.Rc Go.Proofs.Ytkmeipblgdahoaa.Shp
set_option maxRecDepth 100000
set_option linter.unusedVariables false
set_option linter.unusedSimpArgs false
def REncP (w : World) (z zb b r : Int) (q : Nat) (l : List Plc) (e : Ending) (w' : World) : Prop :=
  Below w.heap.size w w' ∧ ((∃ bs v, encC (decide (Rt z zb b r)) z zb b.toNat q l = .ok bs ∧ e = .returned (.tuple #[v, .int .i64 0]) ∧ Kd.N Dv.bytesK 39 w' w.heap.size (fun k => w.heap.size ≤ k ∧ k < w'.heap.size) v bs) ∨
    (∃ x : Int, encC (decide (Rt z zb b r)) z zb b.toNat q l = .error x ∧ (x = 140 ∨ x = 141) ∧ e = .returned (.tuple #[.slice none 0 0, .int .i64 x])))
/-- The shape's and the state's boxes. -/
def RB (w : World) (g : Nat) (z zb b r : Int) (q : Nat) (A : Option Addr) (n c : Nat) : Prop :=
  w.heap[g]? = some (.cells #[.int .i64 z, .int .i64 zb, .int .i64 b, .int .i64 r] 23 (0, 0)) ∧ w.heap[g + 1]? = some (.cells #[.int .u64 (q : Int), .slice A n c] 27 (0, 0))
theorem RB.below {w w' : World} {g : Nat} {z zb b r : Int} {q : Nat} {A : Option Addr} {n c : Nat} (h : RB w g z zb b r q A n c) (hb : Below w.heap.size w w') : RB w' g z zb b r q A n c := ⟨blk_old hb h.1, blk_old hb h.2⟩
theorem RB.cells {w : World} {g : Nat} {z zb b r : Int} {q : Nat} {A : Option Addr} {n c : Nat} (h : RB w g z zb b r q A n c) :
    w.cell? ⟨g, 0, none⟩ = some (.int .i64 z) ∧ w.cell? ⟨g, 1, none⟩ = some (.int .i64 zb) ∧ w.cell? ⟨g, 2, none⟩ = some (.int .i64 b) ∧ w.cell? ⟨g, 3, none⟩ = some (.int .i64 r) ∧ w.cell? ⟨g + 1, 0, none⟩ = some (.int .u64 (q : Int)) ∧ w.cell? ⟨g + 1, 1, none⟩ = some (.slice A n c) := by
  obtain ⟨h1, h2⟩ := h
  exact ⟨by simp [World.cell?, h1], by simp [World.cell?, h1], by simp [World.cell?, h1], by simp [World.cell?, h1], by simp [World.cell?, h2], by simp [World.cell?, h2]⟩
theorem plB_pack (x1 x2 a3 a4 : Nat) : pack [4, 8, 2, 2] [x1, x2, a3, a4] = plB (x1, x2, (a3 : Int), (a4 : Int)) := by
  unfold plB
  simp [pack, wd]
theorem blks_snoc {q : Nat} {l : List Plc} {n i : Nat} (hi : i < manyN l.length n) : (blks q l n).take (i + 1) = (blks q l n).take i ++ [cblk i (manyN l.length n) q ((l.drop (i * rmC n)).take (rmC n)) n] := by
  rw [Rc.take_snocD _ [] i (by rw [blks_len]; exact hi)]
  congr 2
  unfold blks
  rw [List.getD_eq_getElem?_getD, List.getElem?_map, List.getElem?_range hi]
  rfl
attribute [local go_sem] min2_mn min_two
set_option maxHeartbeats 4000000 in
theorem rcenc_calls (z zb b r : Int) (hz : IsI z) (hzb : IsI zb) (hb : IsI b) (hr : IsI r) (q : Nat) (hq : q < 18446744073709551616) (A : Option Addr) (n c : Nat) (l : List Plc) (hn : n ≤ 10000000) (hnc : n ≤ c) (w : World) (h : plK.C w A n l) (hok : ∀ x ∈ l, PlcOk x) :
    Calls Try.prog 11 #[.agg #[.int .i64 z, .int .i64 zb, .int .i64 b, .int .i64 r], .agg #[.int .u64 (q : Int), .slice A n c]] w (REncP w z zb b r q l) := by
  obtain ⟨hl, hm⟩ := C_len h
  have HL := Aside0.mk hl
  have HC := Aside0.mk h
  have HOK := Aside0.mk hok
  have HA := Aside0.mk (below_alloc (alloc_below w (.cells #[.int .i64 z, .int .i64 zb, .int .i64 b, .int .i64 r] 23)) (.cells #[.int .u64 (q : Int), .slice A n c] 27))
  have HB0 := Aside0.mk (show RB ((w.alloc (.cells #[.int .i64 z, .int .i64 zb, .int .i64 b, .int .i64 r] 23)).alloc (.cells #[.int .u64 (q : Int), .slice A n c] 27)) w.heap.size z zb b r q A n c from ⟨blk_past (blk_here rfl), blk_here (by simp)⟩)
  have HI := Aside0.mk (And.intro hz (And.intro hzb (And.intro hb hr)))
  obtain ⟨rt, hrt⟩ : ∃ rt, decide (Rt z zb b r) = rt := ⟨_, rfl⟩
  have HRT := Aside0.mk hrt
  clear h hl hok hz hzb hb hr hrt
  go_enter Try.func11, Try.ntmps11
  go_wp2_with fail
  obtain ⟨g, hg⟩ : ∃ g, w.heap.size = g := ⟨_, rfl⟩
  obtain ⟨W, hW⟩ : ∃ W, (w.alloc (.cells #[.int .i64 z, .int .i64 zb, .int .i64 b, .int .i64 r] 23)).alloc (.cells #[.int .u64 (q : Int), .slice A n c] 27) = W := ⟨_, rfl⟩
  rw [hW] at HA HB0 ⊢
  rw [hg] at HB0 ⊢
  have HG := Aside0.mk (Nat.le_of_eq hg)
  clear hW hg
  refine (ref_right_calls z zb b r HI.out.1 HI.out.2.1 HI.out.2.2.1 HI.out.2.2.2 _).mono ?_
  rintro e w1 ⟨rfl, hb1⟩
  rw [HRT.out]
  have HB1 := Aside0.mk hb1
  clear hb1
  cases rt with
  | false =>
    have HW1 := Aside0.mk (below_go HA.out HB1.out)
    go_wp2
    go_ret2
    exact ⟨HW1.out, .inr ⟨141, by unfold encC; rw [HRT.out, if_neg (fun h => by cases h.1)], .inr rfl, rfl⟩⟩
  | true =>
  obtain ⟨c0, c1, c2, c3, s0, s1⟩ := (HB0.out.below HB1.out).cells
  obtain ⟨mb, hmb⟩ : ∃ mb, decide (Rises l) = mb := ⟨_, rfl⟩
  have HMB := Aside0.mk hmb
  clear hmb
  go_wp2_with fail
  refine (rises_calls A n c l _ (Kd.C_below HC.out (below_go HA.out HB1.out))).mono ?_
  rintro e w2 ⟨rfl, hb2⟩
  rw [HMB.out]
  have HB2 := Aside0.mk (below_go HB1.out hb2)
  clear hb2 c0 c1 c2 c3 s0 s1
  cases mb with
  | false =>
    have HW2 := Aside0.mk (below_go HA.out HB2.out)
    go_wp2
    go_ret2
    exact ⟨HW2.out, .inr ⟨141, by unfold encC; rw [if_neg (fun h => by have := h.2.2; rw [decide_eq_false_iff_not] at HMB; exact HMB.out this)], .inr rfl, rfl⟩⟩
  | true =>
  have HRS := Aside0.mk (of_decide_eq_true HMB.out)
  have HRT2 := Aside0.mk (of_decide_eq_true HRT.out)
  go_wp2
  go_loopg [7] n (fun g1 v7 wr => ∃ i : Nat, v7 = .int .i64 (i : Int) ∧ i ≤ n ∧ Aside0 (g1 + i = n) ∧ Aside0 (∀ x ∈ l.take i, InIt z zb x) ∧ Aside0 (Below W.heap.size W wr))
  case atStart => exact ⟨0, rfl, Nat.zero_le _, ⟨rfl⟩, ⟨fun x hx => by simp at hx⟩, HB2⟩
  case round =>
    obtain ⟨i, rfl, hi, HK, HIN, HBW⟩ := hrel
    obtain ⟨c0, c1, c2, c3, s0, s1⟩ := (HB0.out.below HBW.out).cells
    by_cases hlt : i < n
    · have hd0 : decide ((i : Int) < (n : Int)) = true := decide_eq_true (by omega)
      have hd0' : decide (i < n) = true := decide_eq_true hlt
      obtain ⟨x, hx⟩ : ∃ x, l.getD i plc0 = x := ⟨_, rfl⟩
      obtain ⟨pa, rfl, -, -, -, e0, e1, e2, e3⟩ := pl_at (Kd.C_below HC.out (below_go HA.out HBW.out)) i hlt hx
      have HTK := Aside0.mk (show l.take (i + 1) = l.take i ++ [x] by rw [Rc.take_snocD l plc0 i (by rw [HL.out]; exact hlt), hx])
      have HXM := Aside0.mk (show x ∈ l by rw [← hx, List.getD_eq_getElem?_getD, List.getElem?_eq_getElem (by rw [HL.out]; exact hlt)]; exact List.getElem_mem _)
      obtain ⟨x1, x2, x3, x4⟩ := x
      dsimp only at e0 e1 e2 e3
      have e3' : wr.cell? ⟨(pa.add (i * 4)).block, (pa.add (i * 4)).off + 2 + 1, none⟩ = some (.int .i64 x4) := e3
      have hi0 : (0 : Int) ≤ (i : Int) := by omega
      have hin : (i : Int) < (n : Int) := by omega
      have c0a := pw_cell_below (alloc_below wr (.cells #[.int .i64 x3, .int .i64 x4] 59)) c0
      have c1a := pw_cell_below (alloc_below wr (.cells #[.int .i64 x3, .int .i64 x4] 59)) c1
      have HB3 := Aside0.mk (below_alloc HBW.out (.cells #[.int .i64 x3, .int .i64 x4] 59))
      clear hx
      by_cases hit : InIt z zb (x1, x2, x3, x4)
      case neg =>
        have HE := Aside0.mk (show encC (decide (Rt z zb b r)) z zb b.toNat q l = .error 141 by unfold encC; rw [if_neg (fun h => hit (h.2.1 _ HXM.out))])
        have HW3 := Aside0.mk (below_go HA.out HB3.out)
        by_cases a1 : x3 < 2
        · have d1 : decide (x3 < 2) = true := decide_eq_true a1
          clear hit a1
          go_wp2
          go_ret2
          exact ⟨HW3.out, .inr ⟨141, HE.out, .inr rfl, rfl⟩⟩
        have d1 : decide (x3 < 2) = false := decide_eq_false a1
        by_cases a2 : z ≤ x3
        · have d2 : decide (z ≤ x3) = true := decide_eq_true a2
          clear hit a1 a2
          go_wp2
          go_ret2
          exact ⟨HW3.out, .inr ⟨141, HE.out, .inr rfl, rfl⟩⟩
        have d2 : decide (z ≤ x3) = false := decide_eq_false a2
        by_cases a3 : x4 < 0
        · have d3 : decide (x4 < 0) = true := decide_eq_true a3
          clear hit a1 a2 a3
          go_wp2
          go_ret2
          exact ⟨HW3.out, .inr ⟨141, HE.out, .inr rfl, rfl⟩⟩
        have d3 : decide (x4 < 0) = false := decide_eq_false a3
        have a4 : zb ≤ x4 := by
          have h1 : ¬ (2 ≤ x3 ∧ x3 < z ∧ 0 ≤ x4 ∧ x4 < zb) := hit
          omega
        have d4 : decide (zb ≤ x4) = true := decide_eq_true a4
        clear hit a1 a2 a3 a4
        go_wp2
        go_ret2
        exact ⟨HW3.out, .inr ⟨141, HE.out, .inr rfl, rfl⟩⟩
      have hit' : 2 ≤ x3 ∧ x3 < z ∧ 0 ≤ x4 ∧ x4 < zb := hit
      have d1 : decide (x3 < 2) = false := decide_eq_false (by omega)
      have d2 : decide (z ≤ x3) = false := decide_eq_false (by omega)
      have d3 : decide (x4 < 0) = false := decide_eq_false (by omega)
      have d4 : decide (zb ≤ x4) = false := decide_eq_false (by omega)
      have HIT := Aside0.mk hit
      clear hit hit'
      go_wp2
      go_roundg (gk - 1)
      case measure => have := HK.out; omega
      case rel =>
        refine ⟨i + 1, by congr 1, by omega, ⟨by have := HK.out; omega⟩, ⟨fun y hy => ?_⟩, HB3⟩
        rw [HTK.out] at hy
        rcases List.mem_append.1 hy with hy | hy
        · exact HIN.out y hy
        · rw [List.mem_singleton.1 hy]; exact HIT.out
    · obtain rfl : n = i := by omega
      have hd0 : decide ((n : Int) < (n : Int)) = false := decide_eq_false (by omega)
      have hd0' : decide (n < n) = false := decide_eq_false (by omega)
      have HMP := Aside0.mk (show MayP z zb l from ⟨by have := HIN.out; rw [List.take_of_length_le (by rw [HL.out]; omega)] at this; exact this, HRS.out⟩)
      have hpw := HRT2.out.2.2.2.2.1
      obtain ⟨bn, rfl⟩ : ∃ bn : Nat, b = (bn : Int) := ⟨b.toNat, by have := pow_range hpw; omega⟩
      obtain ⟨rm0, hrm0⟩ : ∃ rm0 : Nat, rmC bn = rm0 := ⟨_, rfl⟩
      have hrm : rm (bn : Int) = (rm0 : Int) := by rw [rm_rmC, hrm0]
      have hrp : 0 < rm0 := by
        rw [← hrm0]
        unfold rmC
        unfold Shp.Pow at hpw
        rw [if_pos (by omega)]
        omega
      obtain ⟨r1, r2, r3, r4, r5⟩ := rmC_le bn (by rw [hrm0]; exact hrp)
      rw [hrm0] at r3 r4 r5
      have HRM := Aside0.mk hrm0
      have hw1 : IntKind.i64.wrap ((n : Int) + (rm0 : Int)) = (n : Int) + (rm0 : Int) := IntWalk.i64_in _ (by omega)
      have hw2 : IntKind.i64.wrap ((n : Int) + (rm0 : Int) - 1) = (n : Int) + (rm0 : Int) - 1 := IntWalk.i64_in _ (by omega)
      obtain ⟨mq, hmq⟩ : ∃ mq, (n + rm0 - 1) / rm0 = mq := ⟨_, rfl⟩
      have hmq2 : mq ≤ n + rm0 - 1 := by rw [← hmq]; exact Nat.div_le_self _ _
      have htd : ((n : Int) + (rm0 : Int) - 1).tdiv (rm0 : Int) = (mq : Int) := by
        rw [show (n : Int) + (rm0 : Int) - 1 = ((n + rm0 - 1 : Nat) : Int) by omega, Int.tdiv_eq_ediv_of_nonneg (by omega), ← hmq]
        exact (Int.natCast_ediv _ _).symm
      have hw3 : IntKind.i64.wrap (mq : Int) = (mq : Int) := IntWalk.i64_in _ (by omega)
      obtain ⟨many, hmany⟩ : ∃ many, manyN n bn = many := ⟨_, rfl⟩
      have hmm : many = max mq 1 := by rw [← hmany]; unfold manyN; rw [hrm0, hmq]
      have hrn : ¬ (rm0 : Int) = 0 := by omega
      have HMANY := Aside0.mk hmany
      have HMM := Aside0.mk hmm
      have HQM := Aside0.mk hmq
      have HFIT := Aside0.mk (HMP.out.fit HRT2.out.2.1 HRT2.out.2.2.2.1 HOK.out)
      clear hmany hmq hrm0 hmm hpw
      go_wp2_with fail
      refine (ref_room_calls (bn : Int) HI.out.2.2.1 _).mono ?_
      rintro e w3 ⟨rfl, hww⟩
      rw [← hww, hrm]
      clear hrm hww w3
      go_upto_if 77 with fail
      go_cut [10] from 20 (fun v10 wx => v10 = .int .i64 (many : Int) ∧ wx = wr)
      case first =>
        by_cases h0 : mq = 0
        · have hb0 : ((mq : Int) == 0) = true := by rw [h0]; rfl
          have HE := Aside0.mk (show many = 1 by rw [HMM.out, h0]; rfl)
          clear h0
          go_wp2_with fail
          go_meet
          exact ⟨by rw [HE.out]; rfl, rfl⟩
        · have hb0 : ((mq : Int) == 0) = false := by rw [beq_eq_false_iff_ne]; omega
          have HE := Aside0.mk (show many = mq by rw [HMM.out]; omega)
          clear h0
          go_wp2_with fail
          go_meet
          exact ⟨by rw [HE.out], rfl⟩
      obtain ⟨rfl, rfl⟩ := hcut
      clear htd hw1 hw2 hw3 hrn
      by_cases hlong : zb < (many : Int)
      · have hd1 : decide (zb < (many : Int)) = true := decide_eq_true hlong
        have HE := Aside0.mk (show encC (decide (Rt z zb (bn : Int) r)) z zb (bn : Int).toNat q l = .error 140 by
          unfold encC
          rw [if_pos ⟨HRT.out, HMP.out⟩, Int.toNat_natCast, HL.out, HMANY.out, if_neg (by omega)])
        have HW3 := Aside0.mk (below_go HA.out HBW.out)
        clear hlong
        go_wp2
        go_ret2
        exact ⟨HW3.out, .inr ⟨140, HE.out, .inl rfl, rfl⟩⟩
      have hd1 : decide (zb < (many : Int)) = false := decide_eq_false hlong
      have HE := Aside0.mk (show encC (decide (Rt z zb (bn : Int) r)) z zb (bn : Int).toNat q l = .ok (blks q l bn) by
        unfold encC
        rw [if_pos ⟨HRT.out, HMP.out⟩, Int.toNat_natCast, HL.out, HMANY.out, if_pos (by omega)])
      have hm4 : many ≤ 4096 := by have := HRT2.out.2.2.2.1; omega
      clear hlong
      go_wp2
      clear hd1 c0 c1 c2 c3 s0 s1
      obtain ⟨wo, rfl⟩ : ∃ wo : World, wo = wc := ⟨_, rfl⟩
      go_loopg [11, 12] many (fun g1 v11 v12 wr => ∃ i : Nat, v12 = .int .i64 (i : Int) ∧ i ≤ many ∧ Aside0 (g1 + i = many) ∧ Aside0 (Kd.N Dv.bytesK 39 wr W.heap.size (fun k => W.heap.size ≤ k ∧ k < wr.heap.size) v11 ((blks q l bn).take i)) ∧ Aside0 (Below W.heap.size W wr))
      case atStart => exact ⟨0, rfl, Nat.zero_le _, ⟨rfl⟩, ⟨by rw [List.take_zero]; exact Kd.N_nil _ _ _ _ _⟩, HBW⟩
      case round =>
        obtain ⟨i, rfl, hi, HK2, HN, HBr⟩ := hrel
        obtain ⟨Wr, rfl⟩ : ∃ Wr : World, Wr = wr := ⟨_, rfl⟩
        by_cases hlt : i < many
        case neg =>
          obtain rfl : many = i := by omega
          have hd0 : decide ((many : Int) < (many : Int)) = false := decide_eq_false (by omega)
          have hd0' : decide (many < many) = false := decide_eq_false (by omega)
          have HW3 := Aside0.mk (below_go HA.out HBr.out)
          have hN := HN.out
          rw [List.take_of_length_le (by rw [blks_len, HL.out, HMANY.out]; exact Nat.le_refl _)] at hN
          have HN9 := Aside0.mk (show Kd.N Dv.bytesK 39 Wr w.heap.size (fun k => w.heap.size ≤ k ∧ k < Wr.heap.size) u11 (blks q l bn) from Kd.N_mono (Kd.N_lower hN HA.out.size) (fun k hk => ⟨Nat.le_trans HA.out.size hk.1, hk.2⟩))
          clear hN hlt
          go_wp2
          go_ret2
          exact ⟨HW3.out, .inl ⟨_, _, HE.out, rfl, HN9.out⟩⟩
        have hd0 : decide ((i : Int) < (many : Int)) = true := decide_eq_true (by omega)
        have hd0' : decide (i < many) = true := decide_eq_true hlt
        obtain ⟨fr, hfr⟩ : ∃ fr, i * rm0 = fr := ⟨_, rfl⟩
        have hfn : fr ≤ n := by
          rw [← hfr]
          rcases Nat.eq_zero_or_pos i with h0 | h0
          · rw [h0, Nat.zero_mul]; exact Nat.zero_le _
          · have h1 : i + 1 ≤ (n + rm0 - 1) / rm0 := by rw [HQM.out]; have := HMM.out; omega
            have h2 := (Nat.le_div_iff_mul_le hrp).1 h1
            rw [Nat.add_mul, Nat.one_mul] at h2
            omega
        obtain ⟨pc, hpc⟩ : ∃ pc, (l.drop fr).take rm0 = pc := ⟨_, rfl⟩
        obtain ⟨cnt, hcnt⟩ : ∃ cnt, pc.length = cnt := ⟨_, rfl⟩
        have hcn : cnt = min rm0 (n - fr) := by rw [← hcnt, ← hpc, List.length_take, List.length_drop, HL.out]
        obtain ⟨te, hto⟩ : ∃ te, fr + cnt = te := ⟨_, rfl⟩
        have t1 : (i : Int) * (rm0 : Int) = (fr : Int) := by rw [← hfr]; exact (Int.natCast_mul _ _).symm
        have t2 : mn ((fr : Int) + (rm0 : Int)) (n : Int) = (te : Int) := by unfold mn; split <;> omega
        have t3 : (te : Int) - (fr : Int) = (cnt : Int) := by omega
        have HPC := Aside0.mk hpc
        have HCN := Aside0.mk hcnt
        have HFR := Aside0.mk hfr
        have hit2 : i < many := hlt
        obtain ⟨c0, c1, c2, c3, s0, s1⟩ := (HB0.out.below HBr.out).cells
        have s0a := pw_cell_below (alloc_below Wr (.cells #[.int .i64 4, .int .i64 4, .int .i64 4, .int .i64 4, .int .i64 8, .int .i64 2] 3)) s0
        have h16 : cnt ≤ rm0 ∧ te ≤ n := by omega
        clear hpc hcnt hfr hlt hcn
        go_wp2_with fail
        refine (rpack_lits Wr Wr [4, 4, 4, 4, 8, 2] [cmagic, 0, i, many, q, cnt] _ _ _ rfl _ _ _ _ rfl rfl rfl rfl rfl (by decide) rfl ?hv (by decide) (by simp) (Below.refl _ _)).mono ?_
        case hv =>
          intro x hx
          simp only [List.mem_cons, List.not_mem_nil, or_false] at hx
          rcases hx with rfl | rfl | rfl | rfl | rfl | rfl
          · decide
          · decide
          · omega
          · omega
          · exact hq
          · omega
        rintro e w4 ⟨v4, rfl, hO4, hb4, -⟩
        obtain ⟨hd, hhd⟩ : ∃ hd, pack [4, 4, 4, 4, 8, 2] [cmagic, 0, i, many, q, cnt] = hd := ⟨_, rfl⟩
        rw [hhd] at hO4
        have HHD := Aside0.mk (show hd = be 4 cmagic ++ (be 4 0 ++ (be 4 i ++ (be 4 many ++ (be 8 q ++ be 2 cnt)))) by rw [← hhd]; simp [pack, wd])
        have HHL := Aside0.mk (show hd.length = 26 by rw [HHD.out]; simp [be_len])
        have HO4 := Aside0.mk hO4
        have HB4 := Aside0.mk hb4
        have hkt : fr ≤ te := by omega
        clear hO4 hb4 hhd c0 c1 c2 c3 s0 s1 s0a t1 t2 t3 hd0 hd0'
        go_wp2
        go_loopg [15, 16] cnt (fun g1 v15 v16 wr => ∃ k : Nat, v16 = .int .i64 (k : Int) ∧ fr ≤ k ∧ k ≤ te ∧ Aside0 (g1 + k = te) ∧ Aside0 (Base.Own wr Wr.heap.size v15 (hd ++ plsB (pc.take (k - fr)))) ∧ Aside0 (Below Wr.heap.size Wr wr))
        case atStart => exact ⟨fr, rfl, Nat.le_refl _, hkt, ⟨by omega⟩, ⟨by rw [Nat.sub_self, List.take_zero]; simpa [plsB] using HO4.out⟩, HB4⟩
        case round =>
          obtain ⟨k, rfl, hkf, hkt2, HK3, HO, HBk⟩ := hrel
          obtain ⟨Wk, rfl⟩ : ∃ Wk : World, Wk = wr := ⟨_, rfl⟩
          by_cases hlt : k < te
          · have hd0 : decide ((k : Int) < (te : Int)) = true := decide_eq_true (by omega)
            have hd0' : decide (k < te) = true := decide_eq_true hlt
            obtain ⟨c0, c1, c2, c3, s0, s1⟩ := (HB0.out.below (below_go HBr.out HBk.out)).cells
            obtain ⟨x, hx⟩ : ∃ x, l.getD k plc0 = x := ⟨_, rfl⟩
            have hkn : k < n := by omega
            obtain ⟨pa, rfl, -, -, -, e0, e1, e2, e3⟩ := pl_at (Kd.C_below HC.out (below_go HA.out (below_go HBr.out HBk.out))) k hkn hx
            have hxm : x ∈ l := by rw [← hx, List.getD_eq_getElem?_getD, List.getElem?_eq_getElem (by rw [HL.out]; exact hkn)]; exact List.getElem_mem _
            have HTK := Aside0.mk (show pc.take (k + 1 - fr) = pc.take (k - fr) ++ [x] by
              rw [show k + 1 - fr = (k - fr) + 1 by omega, Rc.take_snocD pc plc0 (k - fr) (by rw [HCN.out]; omega)]
              congr 2
              rw [← HPC.out, ← hx, List.getD_eq_getElem?_getD, List.getD_eq_getElem?_getD, List.getElem?_take_of_lt (by omega), List.getElem?_drop, show fr + (k - fr) = k by omega])
            have hfit := HFIT.out x hxm
            have hin := HMP.out.1 x hxm
            obtain ⟨x1, x2, x3, x4⟩ := x
            obtain ⟨⟨k1, k2⟩, k3, k4, k5, k6⟩ := hfit
            dsimp only at e0 e1 e2 e3 k1 k2 k3 k4 k5 k6
            obtain ⟨a3, rfl⟩ : ∃ a : Nat, x3 = (a : Int) := ⟨x3.toNat, by omega⟩
            obtain ⟨a4, rfl⟩ : ∃ a : Nat, x4 = (a : Int) := ⟨x4.toNat, by omega⟩
            have k1' : (x1 : Int) < 4294967296 := by omega
            have k2' : (x2 : Int) < 18446744073709551616 := by omega
            have hi0 : (0 : Int) ≤ (k : Int) := by omega
            have hin' : (k : Int) < (n : Int) := by omega
            have HLT := Aside0.mk hlt
            clear hx hxm hin hlt
            go_wp2_with fail
            refine (rpack_lits Wr (Wk.alloc (.cells #[.int .u32 (x1 : Int), .int .u64 (x2 : Int), .int .i64 (a3 : Int), .int .i64 (a4 : Int)] 88)) [4, 8, 2, 2] [x1, x2, a3, a4] _ _ _ rfl _ _ _ _ (by simp) (by simp) rfl rfl rfl (by decide) rfl ?hv (by decide) (by simp) (below_alloc HBk.out _)).mono ?_
            case hv =>
              intro y hy
              simp only [List.mem_cons, List.not_mem_nil, or_false] at hy
              rcases hy with rfl | rfl | rfl | rfl <;> omega
            rintro e w5 ⟨v5, rfl, hO5, hb5', hb25⟩
            rw [plB_pack] at hO5
            have HO5 := Aside0.mk hO5
            have HB5 := Aside0.mk hb5'
            have hbw5 := below_go (alloc_below Wk (.cells #[.int .u32 (x1 : Int), .int .u64 (x2 : Int), .int .i64 (a3 : Int), .int .i64 (a4 : Int)] 88)) hb25
            obtain ⟨A5, n5, c5, rfl, -, hC5⟩ := HO5.out.reads
            have HC5 := Aside0.mk hC5
            have HOW := Aside0.mk (HO.out.below hbw5)
            have HPL := Aside0.mk (show (hd ++ plsB (pc.take (k - fr))).length + n5 ≤ 140737488355328 by
              have h1 := (C_len HC5.out).1
              rw [plB_len] at h1
              rw [List.length_append, HHL.out, plsB_len, List.length_take]
              omega)
            clear hC5 hO5 hb5' hb25 hbw5 e0 e1 e2 e3 c0 c1 c2 c3 s0 s1
            go_wp2_with (at_builtin; (refine app_row (w0 := Wr) Wr.heap.size (.tmp 121) (.tmp 137) rfl rfl _ (hd ++ plsB (pc.take (k - fr))) (plB (x1, x2, (a3 : Int), (a4 : Int))) A5 n5 c5 rfl rfl HOW.out HC5.out HB5.out HB5.out.size HPL.out ?_); intro v6 w6 hO6 hB6 _; (have HO6 := Aside0.mk hO6; have HB6 := Aside0.mk hB6; clear hO6 hB6))
            go_wp2
            go_roundg (te - (k + 1))
            case measure => have := HK3.out; have := HLT.out; omega
            case rel =>
              refine ⟨k + 1, by congr 1, by omega, by have := HLT.out; omega, ⟨by have := HK3.out; have := HLT.out; omega⟩, ⟨?_⟩, HB6⟩
              rw [HTK.out, plsB_snoc, ← List.append_assoc]
              exact HO6.out
          · obtain rfl : te = k := by omega
            have hd0 : decide ((te : Int) < (te : Int)) = false := decide_eq_false (by omega)
            have hd0' : decide (te < te) = false := decide_eq_false (by omega)
            obtain ⟨p, hp⟩ : ∃ p, hd ++ plsB pc = p := ⟨_, rfl⟩
            have HOp := Aside0.mk (show Base.Own Wk Wr.heap.size u15 p by have := HO.out; rw [List.take_of_length_le (by rw [HCN.out]; omega), hp] at this; exact this)
            have HP := Aside0.mk hp
            obtain ⟨lo, hlo⟩ : ∃ lo, 26 + 16 * cnt = lo := ⟨_, rfl⟩
            have HPL := Aside0.mk (show p.length = lo by rw [← hp, List.length_append, HHL.out, plsB_len, HCN.out, hlo])
            have hlb : lo + 1 ≤ bn := by omega
            have HLO := Aside0.mk hlo
            clear hp hlo hlt
            go_wp2
            clear hd0 hd0'
            go_loopg [15] (bn - 1 - lo) (fun g1 v15 wr => ∃ j : Nat, lo + j ≤ bn - 1 ∧ Aside0 (g1 + j = bn - 1 - lo) ∧ Aside0 (Base.Own wr Wr.heap.size v15 (p ++ List.replicate j 0)) ∧ Aside0 (Below Wr.heap.size Wr wr))
            case atStart => exact ⟨0, by omega, ⟨rfl⟩, ⟨by simpa using HOp.out⟩, HBk⟩
            case round =>
              obtain ⟨j, hj, HK4, HO2, HB2'⟩ := hrel
              obtain ⟨Wj, rfl⟩ : ∃ Wj : World, Wj = wr := ⟨_, rfl⟩
              obtain ⟨A7, n7, c7, rfl, -, hC7⟩ := HO2.out.reads
              have hn7 : n7 = lo + j := by have := (C_len hC7).1; rw [List.length_append, List.length_replicate, HPL.out] at this; omega
              subst hn7
              obtain ⟨c0, c1, c2, c3, s0, s1⟩ := (HB0.out.below (below_go HBr.out HB2'.out)).cells
              have HPJ := Aside0.mk (show (p ++ List.replicate j (0 : UInt8)).length + 1 ≤ 140737488355328 by rw [List.length_append, List.length_replicate, HPL.out]; omega)
              by_cases hjl : lo + j < bn - 1
              · have hd1 : decide (((lo + j : Nat) : Int) < (bn : Int) - 1) = true := decide_eq_true (by omega)
                have hd1' : decide ((lo : Int) + (j : Int) < (bn : Int) - 1) = true := decide_eq_true (by omega)
                have HLB := Aside0.mk (show byte.C (Wj.alloc (.cells #[.int .u8 0] 5)) (some ⟨Wj.heap.size, 0, none⟩) 1 [0] from C_lit rfl (by exact ⟨rfl, trivial⟩) rfl rfl (by simp))
                clear hC7
                go_wp2_with (at_builtin; (refine app_row (w0 := Wr) Wr.heap.size (.tmp 145) (.tmp 146) rfl rfl _ (p ++ List.replicate j 0) [0] _ _ _ rfl rfl (HO2.out.below (alloc_below _ _)) HLB.out (below_alloc HB2'.out _) (below_alloc HB2'.out _).size HPJ.out ?_); intro v2 w2 hO9 hB9 _; (have HO9 := Aside0.mk hO9; have HB9 := Aside0.mk hB9; clear hO9 hB9))
                go_wp2
                go_roundg (bn - 1 - lo - (j + 1))
                case measure => have := HK4.out; omega
                case rel => exact ⟨j + 1, by omega, ⟨by have := HK4.out; omega⟩, ⟨by rw [List.replicate_succ', ← List.append_assoc]; exact HO9.out⟩, HB9⟩
              · have hd1 : decide (((lo + j : Nat) : Int) < (bn : Int) - 1) = false := decide_eq_false (by omega)
                have hd1' : decide ((lo : Int) + (j : Int) < (bn : Int) - 1) = false := decide_eq_false (by omega)
                have HLB := Aside0.mk (show byte.C (Wj.alloc (.cells #[.int .u8 231] 5)) (some ⟨Wj.heap.size, 0, none⟩) 1 [231] from C_lit rfl (by exact ⟨rfl, trivial⟩) rfl rfl (by simp))
                obtain ⟨pr, hpr⟩ : ∃ pr, cpre i many q pc bn = pr := ⟨_, rfl⟩
                have HPQ := Aside0.mk (show (p ++ List.replicate j (0 : UInt8)) ++ [231] = pr by
                  have hk2 : bn - 27 - 16 * pc.length = j := by rw [HCN.out]; have := HLO.out; omega
                  rw [← hpr]
                  unfold cpre
                  rw [hk2, ← HP.out, HHD.out, HCN.out]
                  simp)
                have HPRE := Aside0.mk hpr
                have HPR := Aside0.mk (show pr.length = bn by rw [← hpr]; exact cpre_len _ _ _ _ _ (by rw [HCN.out]; have := HLO.out; omega))
                clear hC7 hpr
                go_wp2_with (at_builtin; (refine app_row2 (w0 := Wr) Wr.heap.size (.tmp 148) (.tmp 149) rfl rfl _ (p ++ List.replicate j 0) [231] _ _ _ rfl rfl (HO2.out.below (alloc_below _ _)) HLB.out (below_alloc HB2'.out _) (below_alloc HB2'.out _).size HPJ.out bn (by rw [List.length_append, List.length_replicate, HPL.out]; omega) (by omega) ?_); intro g7 k7 w2 hO9 hB9 hg7 hk7; (rw [HPQ.out] at hO9; have HO9 := Aside0.mk hO9; have HB9 := Aside0.mk hB9; have HG7 := Aside0.mk hg7; have HK7 := Aside0.mk hk7; clear hO9 hB9 hg7 hk7))
                clear hd1 hd1' c0 c1 c2 c3 s0 s1
                go_wp2_with fail
                refine (Crc.ref_sum_calls _ bn k7 pr _ (Kd.C_below (own_C HO9.out) (alloc_below _ _))).mono ?_
                rintro e w4' ⟨rfl, hww⟩
                rw [← hww]
                clear hww w4'
                obtain ⟨sm, hsm⟩ : ∃ sm, Crc.sum (Crc.nat pr) = sm := ⟨_, rfl⟩
                have hsml : (sm : Int) < 4294967296 := by
                  have : Crc.sum (Crc.nat pr) < 4294967296 := sum_lt _
                  omega
                rw [hsm]
                have HSM := Aside0.mk hsm
                have hwr : IntKind.u64.wrap (sm : Int) = (sm : Int) := wrap_u64_in (by omega) (by omega)
                clear hsm
                go_wp2_with fail
                refine (rpack_lits Wr w2 [4] [sm] _ _ _ rfl _ _ _ _ rfl (by simp) rfl rfl rfl (by decide) rfl ?hv (by decide) (by simp) HB9.out).mono ?_
                case hv =>
                  intro y hy
                  rw [List.mem_singleton.1 hy]
                  omega
                rintro e w5 ⟨v5, rfl, hO5, hb5, hb25⟩
                obtain ⟨bs, hbs⟩ : ∃ bs, pack [4] [sm] = bs := ⟨_, rfl⟩
                rw [hbs] at hO5
                have HBS := Aside0.mk (show bs = be 4 sm by rw [← hbs]; simp [pack, wd])
                have HBL := Aside0.mk (show bs.length = 4 by rw [HBS.out, be_len])
                obtain ⟨ga, ka, rfl, hga, hga2, hka, -⟩ := own_form hO5 (by rw [HBL.out]; omega)
                rw [HBL.out] at hO5 hka ⊢
                have HO5 := Aside0.mk hO5
                have HB5 := Aside0.mk hb5
                have HOP := Aside0.mk (HO9.out.below hb25)
                have HGA := Aside0.mk (show g7 < w2.heap.size ∧ w2.heap.size ≤ ga from ⟨Kd.R_lt HO9.out g7 rfl, hga⟩)
                clear hO5 hb5 hb25 hbs hga hga2 hwr
                go_wp2
                go_loopg [19] 4 (fun g1 v19 wr => ∃ k : Nat, v19 = .int .i64 (k : Int) ∧ k ≤ 4 ∧ Aside0 (g1 + k = 4) ∧ Aside0 (Base.Own wr Wr.heap.size (.slice (some ⟨g7, 0, none⟩) bn k7) (pr.take 4 ++ (bs.take k ++ pr.drop (4 + k)))) ∧ Aside0 (Base.Own wr w2.heap.size (.slice (some ⟨ga, 0, none⟩) 4 ka) bs) ∧ Aside0 (Below Wr.heap.size Wr wr))
                case atStart => exact ⟨0, rfl, by omega, ⟨rfl⟩, ⟨by simpa using HOP.out⟩, HO5, HB5⟩
                case round =>
                  obtain ⟨k, rfl, hk, HK5, HO6, HO7, HB6⟩ := hrel
                  obtain ⟨Ws, rfl⟩ : ∃ Ws : World, Ws = wr := ⟨_, rfl⟩
                  by_cases hk4 : k < 4
                  · have hd1 : decide ((k : Int) < 4) = true := decide_eq_true (by omega)
                    have hd1' : decide (k < 4) = true := decide_eq_true hk4
                    obtain ⟨z', hz'⟩ : ∃ z, bs.getD k 0 = z := ⟨_, rfl⟩
                    have f0 : Ws.cell? ⟨ga, k, none⟩ = some (.int .u8 (z'.toNat : Int)) := by
                      obtain ⟨ad, hA, hcl⟩ := byte_at (own_C HO7.out) k hk4
                      injection hA with hA
                      subst hA
                      rw [add_plain, hz'] at hcl
                      exact hcl
                    obtain ⟨g', n', c', he, -, -, e0, z0, hO8⟩ := HO6.out.store (4 + k) (by have := HPR.out; have := HBL.out; simp only [List.length_append, List.length_take, List.length_drop]; omega) z'
                    simp only [Value.slice.injEq, Option.some.injEq, Addr.mk.injEq, and_true] at he
                    obtain ⟨rfl, -, -⟩ := he
                    have HO8 := Aside0.mk hO8
                    have HO78 := Aside0.mk (show Base.Own (Ws.setCell ⟨g7, 4 + k, none⟩ (.int .u8 (z'.toNat : Int))) w2.heap.size (.slice (some ⟨ga, 0, none⟩) 4 ka) bs from Kd.R_grown1 HO7.out rfl (World.grownBy_set1 Ws ⟨g7, 4 + k, none⟩ _) (by simp [Value.ownBlock]; have := HGA.out; omega))
                    have HST := Aside0.mk (put_step pr bs k z' hk4 HBL.out (by rw [HPR.out]; omega) hz')
                    have i1 : (0 : Int) ≤ 4 + (k : Int) := by omega
                    have i2 : 4 + (k : Int) < (bn : Int) := by omega
                    clear hz' hO8
                    go_wp2
                    go_roundg (4 - (k + 1))
                    case measure => have := HK5.out; omega
                    case rel => exact ⟨k + 1, by congr 1, by omega, ⟨by have := HK5.out; omega⟩, ⟨by rw [← HST.out]; exact HO8.out⟩, HO78, ⟨HB6.out.setCell (show Wr.heap.size ≤ g7 from HG7.out) _⟩⟩
                  · obtain rfl : k = 4 := by omega
                    have hd1 : decide (((4 : Nat) : Int) < 4) = false := decide_eq_false (by omega)
                    have HFIN := Aside0.mk (show Base.Own Ws Wr.heap.size (.slice (some ⟨g7, 0, none⟩) bn k7) (cblk i many q pc bn) by
                      have h9 := HO6.out
                      rw [List.take_of_length_le (l := bs) (by rw [HBL.out]; omega), HBS.out] at h9
                      unfold cblk put4
                      rw [HPRE.out, HSM.out]
                      exact h9)
                    have HNs := Aside0.mk (Kd.N_below HN.out HB6.out)
                    have HNl := Aside0.mk (show ((blks q l bn).take i).length ≤ 100000 by rw [List.length_take, blks_len, HL.out, HMANY.out]; omega)
                    clear hk hk4
                    go_wp2_with (at_builtin; (refine Dv.app_blk W.heap.size _ (fun k => some k = (Value.slice (some ⟨g7, 0, none⟩) bn k7).ownBlock) (.tmp 169) (.tmp 171) rfl rfl _ ((blks q l bn).take i) (cblk i many q pc bn) _ bn k7 (Dv.own_FK HFIN.out) (fun k hk e => (by have h1 := Kd.N_lt HN.out k e.symm; have h2 := Kd.R_base HFIN.out k hk.symm; omega)) rfl (by simp [Act.eval]) HNs.out (Nat.le_trans HBr.out.size HB6.out.size) HNl.out ?_); intro v9 w9 hN9 hg9)
                    have HN9 := Aside0.mk hN9
                    have HG9 := Aside0.mk hg9
                    clear hN9 hg9
                    go_wp2
                    have hba : Below W.heap.size W Ws := below_go HBr.out HB6.out
                    have hb9 : Below W.heap.size W w9 := ⟨HG9.out.os.trans hba.os, HG9.out.tape.trans hba.tape, HG9.out.output.trans hba.output, Nat.le_trans hba.size HG9.out.size, fun k hk => (HG9.out.block k (Nat.lt_of_lt_of_le hk hba.size) (fun e => by have := Kd.N_base HN.out k e.symm; omega)).trans (hba.block k hk)⟩
                    have hN10 : Kd.N Dv.bytesK 39 w9 W.heap.size (fun k => W.heap.size ≤ k ∧ k < w9.heap.size) v9 ((blks q l bn).take (i + 1)) := by
                      rw [blks_snoc (by rw [HL.out, HMANY.out]; exact hit2), HL.out, HMANY.out, HRM.out, HFR.out, HPC.out]
                      refine Kd.N_mono (Kd.N_bound HN9.out) (fun k hk => ⟨?_, hk.2⟩)
                      rcases hk.1 with h1 | h1 | h1
                      · exact h1.1
                      · exact Nat.le_trans HBr.out.size (Kd.R_base HFIN.out k h1.symm)
                      · exact Nat.le_trans HBr.out.size (Nat.le_trans HB6.out.size h1)
                    have HN10 := Aside0.mk hN10
                    have HB10 := Aside0.mk hb9
                    clear hN10 hb9 hba
                    go_roundg (many - (i + 1))
                    case measure => have := HK2.out; omega
                    case rel => exact ⟨i + 1, by congr 1, by omega, ⟨by have := HK2.out; omega⟩, HN10, HB10⟩
end Go.Proofs.Ytkmeipblgdahoaa.Ck
namespace Go.Proofs.Ytkmeipblgdahoaa.Dv
open Go.RowKit Go.Proofs.YtkmeipblgdahoaaW.PrintWords Go.Proofs.YtkmeipblgdahoaaW.PrintMore Go.Proofs.Ytkmeipblgdahoaa.Base Go.Proofs.Ytkmeipblgdahoaa.Shp
set_option maxRecDepth 100000
set_option linter.unusedVariables false
set_option linter.unusedSimpArgs false
set_option maxHeartbeats 1000000 in
theorem rshape_calls (rb base : Nat) (ok : Nat → Prop) (z zb b r : Int) (zs : List Zn) (v : Value) (w : World) (h : RDv w rb base ok z zb b r zs v) :
    Calls Try.prog 59 #[.pointer (some ⟨rb, 0, none⟩)] w fun e w' => e = .returned (.agg #[.int .i64 z, .int .i64 zb, .int .i64 b, .int .i64 r]) ∧ Below w.heap.size w w' := by
  obtain ⟨k0, k1, k2, k3, -⟩ := h.cells
  have k0 := pw_cell_below (alloc_below w (.cells #[.int .i64 0, .int .i64 0, .int .i64 0, .int .i64 0] 23)) k0
  have k1 := pw_cell_below (alloc_below w (.cells #[.int .i64 0, .int .i64 0, .int .i64 0, .int .i64 0] 23)) k1
  have k2 := pw_cell_below (alloc_below w (.cells #[.int .i64 0, .int .i64 0, .int .i64 0, .int .i64 0] 23)) k2
  have k3 := pw_cell_below (alloc_below w (.cells #[.int .i64 0, .int .i64 0, .int .i64 0, .int .i64 0] 23)) k3
  have HA := Aside0.mk (alloc_below w (.cells #[.int .i64 z, .int .i64 zb, .int .i64 b, .int .i64 r] 23))
  clear h
  go_enter Try.func59, Try.ntmps59
  go_wp2
  refine bodyPost_ret (by simp [results, Try.results59, go_sem, *]; rfl) rfl ?_
  exact ⟨rfl, HA.out⟩
end Go.Proofs.Ytkmeipblgdahoaa.Dv
namespace Go.Proofs.Ytkmeipblgdahoaa.Ck
open Go.RowKit Go.Proofs.YtkmeipblgdahoaaW.PrintWords Go.Proofs.YtkmeipblgdahoaaW.PrintMore Go.Proofs.Ytkmeipblgdahoaa.Base Go.Proofs.Ytkmeipblgdahoaa.Shp
open Go.Proofs.Ytkmeipblgdahoaa.Dv (RDv Zn Chg hasB hasB_true rfluF rshape_calls rreset_calls rappend_calls rflush_calls)
set_option maxRecDepth 100000
set_option linter.unusedVariables false
set_option linter.unusedSimpArgs false
def RSavZ (z : Int) (zbn bn : Nat) (r : Int) (zs : List Zn) (slot : Int) (q : Nat) (l : List Plc) (e : Ending) (zs' : List Zn) : Prop :=
  (¬ (0 ≤ slot ∧ slot < 2) ∧ e = .returned (.int .i64 1) ∧ zs' = zs) ∨
  ((0 ≤ slot ∧ slot < 2) ∧ ∃ x : Int, encC (decide (Rt z zbn bn r)) z zbn bn q l = .error x ∧ (x = 140 ∨ x = 141) ∧ e = .returned (.int .i64 x) ∧ zs' = zs) ∨
  ((0 ≤ slot ∧ slot < 2) ∧ ∃ bs, encC (decide (Rt z zbn bn r)) z zbn bn q l = .ok bs ∧ e = .returned (.int .i64 0) ∧ zs' = savZ zs slot.toNat bs)
theorem renc_ok {z zb b r : Int} {q : Nat} {l : List Plc} {bs : List (List UInt8)} (hen : encC (decide (Rt z zb b r)) z zb b.toNat q l = .ok bs) (hz : IsI z) (hzb : IsI zb) (hb : IsI b) (hr : IsI r) (hq : q < 18446744073709551616) (A : Option Addr) (n c : Nat) (hn : n ≤ 10000000) (hnc : n ≤ c) (w : World) (h : plK.C w A n l) :
    Calls Try.prog 11 #[.agg #[.int .i64 z, .int .i64 zb, .int .i64 b, .int .i64 r], .agg #[.int .u64 (q : Int), .slice A n c]] w fun e w' => Below w.heap.size w w' ∧ ∃ Ab nb cb, e = .returned (.tuple #[.slice Ab nb cb, .int .i64 0]) ∧ Kd.N Dv.bytesK 39 w' w.heap.size (fun k => w.heap.size ≤ k ∧ k < w'.heap.size) (.slice Ab nb cb) bs := by
  refine (rcenc_calls z zb b r hz hzb hb hr q hq A n c l hn hnc w h (plc_ok h)).mono ?_
  rintro e w' ⟨hb', ⟨bs', v, he, rfl, hN⟩ | ⟨x, he, -⟩⟩
  · rw [hen] at he
    injection he with he
    subst he
    obtain ⟨Ab, nb, cb, rfl, -, -⟩ := N_open hN
    exact ⟨hb', _, _, _, rfl, hN⟩
  · rw [hen] at he; cases he
theorem renc_err {z zb b r : Int} {q : Nat} {l : List Plc} {x : Int} (hen : encC (decide (Rt z zb b r)) z zb b.toNat q l = .error x) (hz : IsI z) (hzb : IsI zb) (hb : IsI b) (hr : IsI r) (hq : q < 18446744073709551616) (A : Option Addr) (n c : Nat) (hn : n ≤ 10000000) (hnc : n ≤ c) (w : World) (h : plK.C w A n l) :
    Calls Try.prog 11 #[.agg #[.int .i64 z, .int .i64 zb, .int .i64 b, .int .i64 r], .agg #[.int .u64 (q : Int), .slice A n c]] w fun e w' => e = .returned (.tuple #[.slice none 0 0, .int .i64 x]) ∧ Below w.heap.size w w' := by
  refine (rcenc_calls z zb b r hz hzb hb hr q hq A n c l hn hnc w h (plc_ok h)).mono ?_
  rintro e w' ⟨hb', ⟨bs', v, he, -⟩ | ⟨y, he, -, rfl⟩⟩
  · rw [hen] at he; cases he
  · rw [hen] at he
    injection he with he
    subst he
    exact ⟨rfl, hb'⟩
set_option maxHeartbeats 4000000 in
theorem rcsave_calls (rb B : Nat) (R : Nat → Prop) (z r : Int) (zbn bn : Nat) (hrt : Rt z zbn bn r) (hr : IsI r) (zs : List Zn) (v : Value) (slot : Int) (hs : IsI slot) (q : Nat) (hq : q < 18446744073709551616) (A : Option Addr) (n c : Nat) (l : List Plc) (hn : n ≤ 10000000) (hnc : n ≤ c)
    (w : World) (hD : RDv w rb B R z zbn bn r zs v) (h : plK.C w A n l) (hDl : ∀ k, R k → k < w.heap.size) (hpl : 2 ≤ zs.length) (hsz : ∀ p ∈ zs, p.1.length ≤ 5000) :
    Calls Try.prog 30 #[.pointer (some ⟨rb, 0, none⟩), .int .i64 slot, .agg #[.int .u64 (q : Int), .slice A n c]] w
      fun e w' => ∃ zs', RSavZ z zbn bn r zs slot q l e zs' ∧ RDv w' rb B (fun k => R k ∨ w.heap.size ≤ k) z zbn bn r zs' v ∧ Chg w w' (fun k => R k ∨ w.heap.size ≤ k) := by
  have HD := Aside0.mk hD
  have HC := Aside0.mk h
  have HDL := Aside0.mk hDl
  have HSZ := Aside0.mk hsz
  have HRT := Aside0.mk hrt
  have HR := Aside0.mk hr
  have HA := Aside0.mk (alloc_below w (.cells #[.int .u64 (q : Int), .slice A n c] 27))
  have HDW := Aside0.mk (show RDv w rb B (fun k => R k ∨ w.heap.size ≤ k) z zbn bn r zs v from hD.mono (fun k hk _ => .inl hk))
  clear hD h hDl hsz hrt hr
  obtain ⟨hs1, hs2⟩ := hs
  by_cases hsl : 0 ≤ slot ∧ slot < 2
  case neg =>
    have HSL := Aside0.mk hsl
    have e0 : (slot != 0) = true := by rw [bne_iff_ne]; omega
    have e1 : (slot != 1) = true := by rw [bne_iff_ne]; omega
    clear hsl
    go_enter Try.func30, Try.ntmps30
    go_wp2
    go_ret
    exact ⟨zs, .inl ⟨HSL.out, rfl, rfl⟩, HDW.out.below HA.out, Chg.of_below HA.out _⟩
  have HSL := Aside0.mk hsl
  obtain ⟨k, rfl⟩ : ∃ k : Nat, slot = (k : Int) := ⟨slot.toNat, by omega⟩
  have hk2 : k < 2 := by omega
  have hgate : (((k : Int) != 0) = false ∧ ((k : Int) == 0) = true) ∨ (((k : Int) != 0) = true ∧ ((k : Int) != 1) = false) := by
    rcases Nat.lt_or_ge k 1 with h1 | h1
    · obtain rfl : k = 0 := by omega
      exact .inl ⟨rfl, rfl⟩
    · obtain rfl : k = 1 := by omega
      exact .inr ⟨rfl, rfl⟩
  have HGATE := Aside0.mk hgate
  clear hsl hgate
  go_enter Try.func30, Try.ntmps30
  go_upto_region 1 with fail
  obtain ⟨g, hg⟩ : ∃ g, w.heap.size = g := ⟨_, rfl⟩
  have b0 : (w.alloc (.cells #[.int .u64 (q : Int), .slice A n c] 27)).heap[w.heap.size]? = some (.cells #[.int .u64 (q : Int), .slice A n c] 27 (0, 0)) := blk_here rfl
  obtain ⟨W, hW⟩ : ∃ W, w.alloc (.cells #[.int .u64 (q : Int), .slice A n c] 27) = W := ⟨_, rfl⟩
  rw [hW] at HA b0 ⊢
  rw [hg] at b0 ⊢
  have HG := Aside0.mk hg
  have HB00 := Aside0.mk b0
  clear hW hg b0
  go_cut [15] from 10 (fun v15 wx => v15 = .bool false ∧ wx = W)
  case first =>
    rcases HGATE.out with ⟨e0, e1⟩ | ⟨e0, e1⟩
    · go_wp2
      go_meet
      exact ⟨rfl, rfl⟩
    · go_wp2
      go_meet
      exact ⟨rfl, rfl⟩
  obtain ⟨rfl, hcut⟩ := hcut
  obtain ⟨s0, s1, -, -⟩ := st_cells (by rfl) HB00.out
  rw [← hcut] at HA s0 s1
  have HDD := Aside0.mk (HD.out.below (below_drew HA.out))
  have HBD := Aside0.mk (below_drew HA.out)
  have hzz : IsI z ∧ IsI (zbn : Int) ∧ IsI (bn : Int) := by
    obtain ⟨a1, a2, a3, a4, a5, -, -⟩ := HRT.out
    have := pow_range a5
    exact ⟨⟨by omega, by omega⟩, ⟨by omega, by omega⟩, ⟨by omega, by omega⟩⟩
  have HZZ := Aside0.mk hzz
  clear hzz hcut
  go_wp2
  cases hen : encC (decide (Rt z zbn (bn : Int) r)) z zbn (bn : Int).toNat q l with
  | error x =>
    have HEN := Aside0.mk hen
    have hx0 : (x != 0) = true := by rw [bne_iff_ne]; rcases enc_err hen with rfl | rfl <;> decide
    clear hen
    go_region_held3 (fun w' => w'.cell? ⟨g, 0, none⟩ = some (.int .u64 (q : Int)) ∧ w'.cell? ⟨g, 1, none⟩ = some (.slice A n c))
      (first | exact ⟨s0, s1⟩ | exact ⟨pw_cell_below (Below.trans (below_drew (Below.refl _ _)) hb8) s0, pw_cell_below (Below.trans (below_drew (Below.refl _ _)) hb8) s1⟩ | exact ⟨pw_cell_below (Below.trans (below_drew (Below.refl _ _)) (below_go hb8 hb9)) s0, pw_cell_below (Below.trans (below_drew (Below.refl _ _)) (below_go hb8 hb9)) s1⟩)
      (first
        | (go_at_call 59; (with_reducible refine (rshape_calls rb B R z zbn (bn : Int) r zs v _ HDD.out).mono ?_); rintro e w8 ⟨rfl, hb8⟩)
        | (go_at_call 11; (with_reducible refine (renc_err HEN.out HZZ.out.1 HZZ.out.2.1 HZZ.out.2.2 HR.out hq A n c hn hnc _ (Kd.C_below HC.out (below_go HBD.out hb8))).mono ?_); rintro e w9 ⟨rfl, hb9⟩))
    have HB9 := Aside0.mk (below_go HBD.out (below_go hb8 hb9))
    clear hb8 hb9
    go_wp2
    go_ret
    exact ⟨zs, .inr (.inl ⟨HSL.out, x, HEN.out, enc_err HEN.out, rfl, rfl⟩), HDW.out.below HB9.out, Chg.of_below HB9.out _⟩
  | ok bs =>
    have HEN := Aside0.mk hen
    clear hen
    go_region_held3 (fun w' => w'.cell? ⟨g, 0, none⟩ = some (.int .u64 (q : Int)) ∧ w'.cell? ⟨g, 1, none⟩ = some (.slice A n c))
      (first | exact ⟨s0, s1⟩ | exact ⟨pw_cell_below (Below.trans (below_drew (Below.refl _ _)) hb8) s0, pw_cell_below (Below.trans (below_drew (Below.refl _ _)) hb8) s1⟩ | exact ⟨pw_cell_below (Below.trans (below_drew (Below.refl _ _)) (below_go hb8 hb9)) s0, pw_cell_below (Below.trans (below_drew (Below.refl _ _)) (below_go hb8 hb9)) s1⟩)
      (first
        | (go_at_call 59; (with_reducible refine (rshape_calls rb B R z zbn (bn : Int) r zs v _ HDD.out).mono ?_); rintro e w8 ⟨rfl, hb8⟩)
        | (go_at_call 11; (with_reducible refine (renc_ok HEN.out HZZ.out.1 HZZ.out.2.1 HZZ.out.2.2 HR.out hq A n c hn hnc _ (Kd.C_below HC.out (below_go HBD.out hb8))).mono ?_); rintro e w9 ⟨hb9, Ab, nb, cb, rfl, hN9⟩))
    obtain ⟨hbl, hmany, -, hmay⟩ := enc_ok HEN.out
    rw [Int.toNat_natCast] at hbl
    have HBL := Aside0.mk (show ∀ x ∈ bs, x.length = bn by rw [hbl]; exact fun x hx => blks_mem (rmC_pos HRT.out.2.2.2.2.1) hx)
    have HMANY := Aside0.mk hmany
    have hw9 := below_go HBD.out (below_go hb8 hb9)
    have HB9 := Aside0.mk hw9
    have hw8 : w.heap.size ≤ w8.heap.size := (below_go HBD.out hb8).size
    have HN9 := Aside0.mk hN9
    have hnb : nb = bs.length := (Kd.N_reads' hN9).1
    have HNB := Aside0.mk hnb
    have hnb4 : nb ≤ 4096 := by have h2 := HRT.out.2.2.2.1; omega
    have HD9 := Aside0.mk (HD.out.below hw9)
    have HW8 := Aside0.mk hw8
    have HHB := Aside0.mk (hasB_true (n := zs.length) (i := (k : Int)) (by omega) (by omega))
    clear hb8 hb9 hbl hmany hmay hw9 hN9 hnb hw8 s0 s1
    go_wp2_with fail
    refine (rreset_calls rb B R z zbn (bn : Int) r zs v (k : Int) ⟨hs1, hs2⟩ _ HD9.out).mono ?_
    rintro e wa ⟨zs1, hps1, hDa, hca⟩
    rcases hps1 with ⟨ha1, -, -⟩ | ⟨-, rfl, rfl⟩
    · rw [HHB.out] at ha1; cases ha1
    have HDa := Aside0.mk (show RDv wa rb B (fun j => R j ∨ w9.heap.size ≤ j) z zbn bn r (zs.set k (([] : List (List UInt8)), 0)) v by
      have := hDa
      rw [Int.toNat_natCast] at this
      exact this.mono (fun j hj _ => .inl hj))
    have HCa := Aside0.mk (show Chg w9 wa (fun j => R j ∨ w9.heap.size ≤ j) from (Chg.refl w9 _).trans hca (fun j hj => .inl (.inl hj)))
    clear hDa hca
    go_wp2
    go_loopg [9] nb (fun g1 v9 wr => ∃ i : Nat, v9 = .int .i64 (i : Int) ∧ i ≤ nb ∧ Aside0 (g1 + i = nb) ∧ Aside0 (RDv wr rb B (fun j => R j ∨ w9.heap.size ≤ j) z zbn bn r (zs.set k (bs.take i, 0)) v) ∧ Aside0 (Chg w9 wr (fun j => R j ∨ w9.heap.size ≤ j)))
    case atStart => exact ⟨0, rfl, Nat.zero_le _, ⟨rfl⟩, HDa, HCa⟩
    case round =>
      obtain ⟨i, rfl, hi, HK, HDr, HCr⟩ := hrel
      by_cases hlt : i < nb
      · have hdd : decide ((i : Int) < (nb : Int)) = true := decide_eq_true (by omega)
        have hdd' : decide (i < nb) = true := decide_eq_true hlt
        have hi0 : (0 : Int) ≤ (i : Int) := by omega
        have hi1 : (i : Int) < (nb : Int) := by omega
        have hNr := Kd.N_kept HN9.out HCr.out.kept (fun j hj hs => by have h1 := hj.1; have h2 := hj.2; have h3 := HW8.out; rcases hs with hs | hs; have := HDL.out j hs; omega; omega)
        obtain ⟨pa, A0, c0, rfl, e0, hk0, hC0⟩ := bytes_at (by have := (Kd.N_reads' hNr).2.2; rwa [← HNB.out] at this) i hlt
        obtain ⟨x, hx⟩ : ∃ x, bs.getD i [] = x := ⟨_, rfl⟩
        rw [hx] at e0 hk0 hC0
        have hil : i < bs.length := by rw [← HNB.out]; exact hlt
        have hxl : x.length = bn := HBL.out x (by rw [← hx, List.getD_eq_getElem?_getD, List.getElem?_eq_getElem hil]; exact List.getElem_mem _)
        rw [hxl] at e0 hk0 hC0
        have HXL := Aside0.mk hxl
        have HTK := Aside0.mk (show bs.take (i + 1) = bs.take i ++ [x] by rw [Rc.take_snocD bs [] i hil, hx])
        have HC0 := Aside0.mk hC0
        have HIL := Aside0.mk hil
        have HTL := Aside0.mk (show (bs.take i).length = i by rw [List.length_take, Nat.min_eq_left (Nat.le_of_lt hil)])
        have hbn4 : bn ≤ 4096 := by have h3 := pow_range HRT.out.2.2.2.2.1; omega
        clear hNr hx hC0 hk0 hil hxl
        go_wp2_with fail
        refine (rappend_calls rb B (fun j => R j ∨ w9.heap.size ≤ j) z zbn (bn : Int) r (zs.set k (bs.take i, 0)) v (k : Int) ⟨hs1, hs2⟩ A0 bn c0 x (by omega) _ HDr.out (fun j hj => .inr (Nat.le_trans HCr.out.kept.1 hj)) HC0.out (fun p hp => by
          rcases List.mem_or_eq_of_mem_set hp with h1 | h1
          · exact HSZ.out p h1
          · rw [h1]; show (bs.take i).length ≤ _; rw [HTL.out]; omega)).mono ?_
        rintro e wb ⟨zs2, hps2, hDb, hcb⟩
        have hset : (zs.set k (bs.take i, (0 : Int))).getD k ([], 0) = (bs.take i, 0) := by
          rw [List.getD_eq_getElem?_getD, List.getElem?_set_self (by omega)]
          rfl
        have hlen2 : (zs.set k (bs.take i, (0 : Int))).length = zs.length := List.length_set
        rcases hps2 with ⟨ha, -, -⟩ | ⟨-, -, ha, -, -⟩ | ⟨-, -, -, he, hp2⟩
        · rw [hlen2] at ha
          rcases ha with ha | ha
          · rw [HHB.out] at ha; cases ha
          · rw [HXL.out] at ha; exact absurd rfl ha
        · rw [Int.toNat_natCast, hset] at ha
          dsimp only at ha
          rw [HTL.out] at ha
          have h1 := HMANY.out
          have h2 := HIL.out
          omega
        · rw [Int.toNat_natCast, hset] at hp2
          dsimp only at hp2
          rw [← HTK.out, List.set_set] at hp2
          subst hp2
          unfold Dv.raddrV at he
          subst he
          have HDb := Aside0.mk hDb
          have HCb := Aside0.mk (HCr.out.trans hcb (fun j hj => .inl hj))
          clear hDb hcb hset hlen2 e0
          go_wp2
          go_roundg (gk - 1)
          case measure => have := HK.out; omega
          case rel => exact ⟨i + 1, by congr 1, by omega, ⟨by have := HK.out; omega⟩, HDb, HCb⟩
      · obtain rfl : nb = i := by omega
        have hdd : decide ((nb : Int) < (nb : Int)) = false := decide_eq_false (by omega)
        have HALL := Aside0.mk (show bs.take nb = bs by rw [List.take_of_length_le (by rw [← HNB.out]; exact Nat.le_refl _)])
        go_wp2_with fail
        refine (rflush_calls rb B (fun j => R j ∨ w9.heap.size ≤ j) z zbn (bn : Int) r (zs.set k (bs.take nb, 0)) v _ HDr.out).mono ?_
        rintro e wf ⟨rfl, hDf, hcf⟩
        have HDf := Aside0.mk hDf
        have HCf := Aside0.mk (HCr.out.trans hcf (fun j hj => .inl hj))
        clear hDf hcf
        go_wp2
        go_ret
        refine ⟨_, .inr (.inr ⟨HSL.out, bs, HEN.out, rfl, ?_⟩), HDf.out.mono (fun j hj _ => hj.imp id (fun h1 => Nat.le_trans HB9.out.size h1)), (Chg.of_below HB9.out _).trans HCf.out (fun j hj => hj.elim (fun h1 => .inl (.inl h1)) (fun h1 => .inr (Nat.le_trans HB9.out.size h1)))⟩
        unfold savZ
        rw [HALL.out, Int.toNat_natCast]
end Go.Proofs.Ytkmeipblgdahoaa.Ck
namespace Go.Proofs.Ytkmeipblgdahoaa.Ck
open Go.RowKit Go.Proofs.YtkmeipblgdahoaaW.PrintWords Go.Proofs.YtkmeipblgdahoaaW.PrintMore Go.Proofs.Ytkmeipblgdahoaa.Base Go.Proofs.Ytkmeipblgdahoaa.Rc Go.Proofs.Ytkmeipblgdahoaa.Shp
set_option maxRecDepth 100000
set_option linter.unusedVariables false
set_option linter.unusedSimpArgs false
/-- What the document's Decode answers. -/
def RDcP (w : World) (r : Option (Nat × List Plc)) (e : Ending) (w' : World) : Prop :=
  Below w.heap.size w w' ∧ ((∃ q ps v, r = some (q, ps) ∧ e = .returned (.tuple #[.agg #[.int .u64 (q : Int), v], .int .i64 0]) ∧ OwnP w' w.heap.size v ps) ∨ (r = none ∧ e = .returned (.tuple #[.agg #[.int .u64 0, .slice none 0 0], .int .i64 141])))
/-- The shape's box, the result's, the state's; the places' row. -/
structure RQ (w W : World) (g : Nat) (z zb b r : Int) (q : Nat) (vo : Value) (ps : List Plc) : Prop where
  bel : Below w.heap.size w W
  shp : W.heap[g]? = some (.cells #[.int .i64 z, .int .i64 zb, .int .i64 b, .int .i64 r] 23 (0, 0))
  res : W.heap[g + 1]? = some (.cells #[.int .u64 0, .slice none 0 0] 27 (0, 0))
  st : W.heap[g + 1 + 1]? = some (.cells #[.int .u64 (q : Int), vo] 27 (0, 0))
  row : OwnP W w.heap.size vo ps
section
variable {w W W' : World} {g : Nat} {z zb b r : Int} {q q' : Nat} {vo v1 vr vh : Value} {ps ps' : List Plc} {rr : List UInt8} {hs : List Nat}
theorem RQ.below (h : RQ w W g z zb b r q vo ps) (hb : Below W.heap.size W W') : RQ w W' g z zb b r q vo ps :=
  ⟨below_go h.bel hb, blk_old hb h.shp, blk_old hb h.res, blk_old hb h.st, Kd.R_below h.row hb⟩
theorem RQ.cells (h : RQ w W g z zb b r q vo ps) : W.cell? ⟨g, 0, none⟩ = some (.int .i64 z) ∧ W.cell? ⟨g, 1, none⟩ = some (.int .i64 zb) ∧ W.cell? ⟨g, 2, none⟩ = some (.int .i64 b) ∧ W.cell? ⟨g, 3, none⟩ = some (.int .i64 r) ∧
    W.cell? ⟨g + 1 + 1, 0, none⟩ = some (.int .u64 (q : Int)) ∧ W.cell? ⟨g + 1 + 1, 1, none⟩ = some vo ∧ W.frozen? ⟨g + 1 + 1, 0, none⟩ = false ∧ W.frozen? ⟨g + 1 + 1, 1, none⟩ = false := by
  have h1 := h.shp
  have h2 := h.st
  exact ⟨by simp [World.cell?, h1], by simp [World.cell?, h1], by simp [World.cell?, h1], by simp [World.cell?, h1], by simp [World.cell?, h2], by simp [World.cell?, h2], by simp [World.frozen?, h2], by simp [World.frozen?, h2]⟩
theorem RQ.rs (h : RQ w W g z zb b r q vo ps) : W.cell? ⟨g + 1, 0, none⟩ = some (.int .u64 0) ∧ W.cell? ⟨g + 1, 1, none⟩ = some (.slice none 0 0) ∧ W.frozen? ⟨g + 1, 0, none⟩ = false ∧ W.frozen? ⟨g + 1, 1, none⟩ = false := by
  have h1 := h.res
  exact ⟨by simp [World.cell?, h1], by simp [World.cell?, h1], by simp [World.frozen?, h1], by simp [World.frozen?, h1]⟩
/-- The number is laid. -/
theorem RQ.num (h : RQ w W g z zb b r q vo ps) (hg : w.heap.size ≤ g) (q' : Nat) : RQ w (W.setCell ⟨g + 1 + 1, 0, none⟩ (.int .u64 (q' : Int))) g z zb b r q' vo ps :=
  ⟨h.bel.setCell (by show w.heap.size ≤ g + 1 + 1; omega) _, (Below.heap_setCell _ ⟨g + 1 + 1, 0, none⟩ _ g (by simp; omega)).trans h.shp, (Below.heap_setCell _ ⟨g + 1 + 1, 0, none⟩ _ (g + 1) (by simp)).trans h.res, blk_set h.st 0 _, Kd.R_set h.row h.st plE_ne 0 _⟩
/-- The places are laid. -/
theorem RQ.pls (h : RQ w W g z zb b r q vo ps) (hg : w.heap.size ≤ g) (hr : OwnP W' w.heap.size v1 ps') (hgr : W.grownBy W' vo.ownBlock) : W'.cell? ⟨g + 1 + 1, 1, none⟩ = some vo ∧ W'.frozen? ⟨g + 1 + 1, 1, none⟩ = false ∧ RQ w (W'.setCell ⟨g + 1 + 1, 1, none⟩ v1) g z zb b r q v1 ps' := by
  have n0 := Kd.R_ne h.row h.shp (by decide)
  have n1 := Kd.R_ne h.row h.res (by decide)
  have n2 := Kd.R_ne h.row h.st (by decide)
  have b0 : W'.heap[g]? = _ := (hgr.block g (Array.getElem?_eq_some_iff.1 h.shp).1 n0).trans h.shp
  have b1 : W'.heap[g + 1]? = _ := (hgr.block (g + 1) (Array.getElem?_eq_some_iff.1 h.res).1 n1).trans h.res
  have b2 : W'.heap[g + 1 + 1]? = _ := (hgr.block (g + 1 + 1) (Array.getElem?_eq_some_iff.1 h.st).1 n2).trans h.st
  refine ⟨by simp [World.cell?, b2], by simp [World.frozen?, b2], ?_, ?_, ?_, ?_, ?_⟩
  · exact (h.bel.grown hgr h.bel.size (fun k hk => Kd.R_base h.row k hk)).setCell (by show w.heap.size ≤ g + 1 + 1; omega) _
  · exact (Below.heap_setCell W' ⟨g + 1 + 1, 1, none⟩ v1 g (by simp; omega)).trans b0
  · exact (Below.heap_setCell W' ⟨g + 1 + 1, 1, none⟩ v1 (g + 1) (by simp)).trans b1
  · exact blk_set b2 1 v1
  · exact Kd.R_set hr b2 plE_ne 1 v1
/-- Nothing is laid into the result. -/
theorem RQ.nil (h : RQ w W g z zb b r q vo ps) (hg : w.heap.size ≤ g) :
    Below w.heap.size w ((W.setCell ⟨g + 1, 0, none⟩ (.int .u64 0)).setCell ⟨g + 1, 1, none⟩ (.slice none 0 0)) ∧ ((W.setCell ⟨g + 1, 0, none⟩ (.int .u64 0)).setCell ⟨g + 1, 1, none⟩ (.slice none 0 0)).cell? ⟨g + 1, 0, none⟩ = some (.int .u64 0) ∧
      ((W.setCell ⟨g + 1, 0, none⟩ (.int .u64 0)).setCell ⟨g + 1, 1, none⟩ (.slice none 0 0)).cell? ⟨g + 1, 1, none⟩ = some (.slice none 0 0) := by
  have b1 := blk_set h.res 0 (.int .u64 0)
  have b2 := blk_set b1 1 (.slice none 0 0)
  exact ⟨(h.bel.setCell (by show w.heap.size ≤ g + 1; omega) _).setCell (by show w.heap.size ≤ g + 1; omega) _, by simp [World.cell?, b2], by simp [World.cell?, b2]⟩
/-- The state is laid into the result. -/
theorem RQ.fin (h : RQ w W g z zb b r q vo ps) (hg : w.heap.size ≤ g) : OwnP ((W.setCell ⟨g + 1, 0, none⟩ (.int .u64 (q : Int))).setCell ⟨g + 1, 1, none⟩ vo) w.heap.size vo ps ∧ Below w.heap.size w ((W.setCell ⟨g + 1, 0, none⟩ (.int .u64 (q : Int))).setCell ⟨g + 1, 1, none⟩ vo) ∧
    ((W.setCell ⟨g + 1, 0, none⟩ (.int .u64 (q : Int))).setCell ⟨g + 1, 1, none⟩ vo).cell? ⟨g + 1, 0, none⟩ = some (.int .u64 (q : Int)) ∧ ((W.setCell ⟨g + 1, 0, none⟩ (.int .u64 (q : Int))).setCell ⟨g + 1, 1, none⟩ vo).cell? ⟨g + 1, 1, none⟩ = some vo := by
  have b1 := blk_set h.res 0 (.int .u64 (q : Int))
  have b2 := blk_set b1 1 vo
  exact ⟨Kd.R_set (Kd.R_set h.row h.res plE_ne 0 _) b1 plE_ne 1 vo, (h.bel.setCell (by show w.heap.size ≤ g + 1; omega) _).setCell (by show w.heap.size ≤ g + 1; omega) _, by simp [World.cell?, b2], by simp [World.cell?, b2]⟩
end
/-- .. and the rest of a block, and its head's numbers. -/
structure RQ2 (w W : World) (g : Nat) (z zb b r : Int) (q : Nat) (vo : Value) (ps : List Plc) (vr : Value) (rr : List UInt8) (vh : Value) (hs : List Nat) : Prop where
  rq : RQ w W g z zb b r q vo ps
  rest : Base.Own W w.heap.size vr rr
  hdr : OwnU W w.heap.size vh hs
section
variable {w W W' : World} {g : Nat} {z zb b r : Int} {q q' : Nat} {vo v1 vr vr' vh : Value} {ps ps' : List Plc} {rr rr' : List UInt8} {hs : List Nat}
theorem RQ2.below (h : RQ2 w W g z zb b r q vo ps vr rr vh hs) (hb : Below W.heap.size W W') : RQ2 w W' g z zb b r q vo ps vr rr vh hs := ⟨h.rq.below hb, h.rest.below hb, Kd.R_below h.hdr hb⟩
theorem RQ2.cut (h : RQ2 w W g z zb b r q vo ps vr rr vh hs) (hr : Base.Own W w.heap.size vr' rr') : RQ2 w W g z zb b r q vo ps vr' rr' vh hs := ⟨h.rq, hr, h.hdr⟩
theorem RQ2.num (h : RQ2 w W g z zb b r q vo ps vr rr vh hs) (hg : w.heap.size ≤ g) (q' : Nat) : RQ2 w (W.setCell ⟨g + 1 + 1, 0, none⟩ (.int .u64 (q' : Int))) g z zb b r q' vo ps vr rr vh hs :=
  ⟨h.rq.num hg q', Kd.R_set h.rest h.rq.st (by intro q hq; rw [List.mem_singleton.1 hq]; decide) 0 _, Kd.R_set h.hdr h.rq.st (by intro q hq; rw [List.mem_singleton.1 hq]; decide) 0 _⟩
theorem RQ2.pls (h : RQ2 w W g z zb b r q vo ps vr rr vh hs) (hg : w.heap.size ≤ g) (hr : OwnP W' w.heap.size v1 ps') (hgr : W.grownBy W' vo.ownBlock) :
    W'.cell? ⟨g + 1 + 1, 1, none⟩ = some vo ∧ W'.frozen? ⟨g + 1 + 1, 1, none⟩ = false ∧ RQ2 w (W'.setCell ⟨g + 1 + 1, 1, none⟩ v1) g z zb b r q v1 ps' vr rr vh hs := by
  obtain ⟨h1, h2, h3⟩ := h.rq.pls hg hr hgr
  have n2 := Kd.R_ne h.rq.row h.rq.st (by decide)
  have b2 : W'.heap[g + 1 + 1]? = _ := (hgr.block (g + 1 + 1) (Array.getElem?_eq_some_iff.1 h.rq.st).1 n2).trans h.rq.st
  have hO : Base.Own W' w.heap.size vr rr := Kd.R_over h.rest h.rq.row (by intro q hq; rw [List.mem_singleton.1 hq]; decide) hgr
  have hU : OwnU W' w.heap.size vh hs := Kd.R_over h.hdr h.rq.row (by intro q hq; rw [List.mem_singleton.1 hq]; decide) hgr
  exact ⟨h1, h2, h3, Kd.R_set hO b2 (by intro q hq; rw [List.mem_singleton.1 hq]; decide) 1 v1, Kd.R_set hU b2 (by intro q hq; rw [List.mem_singleton.1 hq]; decide) 1 v1⟩
end
def C4 (w : World) (g x1 x2 x3 x4 : Nat) : Prop := w.cell? ⟨g, 0, none⟩ = some (.int .u64 (x1 : Int)) ∧ w.cell? ⟨g, 1, none⟩ = some (.int .u64 (x2 : Int)) ∧ w.cell? ⟨g, 2, none⟩ = some (.int .u64 (x3 : Int)) ∧ w.cell? ⟨g, 3, none⟩ = some (.int .u64 (x4 : Int))
theorem C4.below {w w1 : World} {g x1 x2 x3 x4 : Nat} (h : C4 w g x1 x2 x3 x4) (hb : Below w.heap.size w w1) : C4 w1 g x1 x2 x3 x4 := ⟨pw_cell_below hb h.1, pw_cell_below hb h.2.1, pw_cell_below hb h.2.2.1, pw_cell_below hb h.2.2.2⟩
theorem C4.grown {w w1 : World} {g x1 x2 x3 x4 : Nat} {row : Option Nat} (h : C4 w g x1 x2 x3 x4) (hb : w.grownBy w1 row) (hn : some g ≠ row) : C4 w1 g x1 x2 x3 x4 := ⟨grown_cell hb hn h.1, grown_cell hb hn h.2.1, grown_cell hb hn h.2.2.1, grown_cell hb hn h.2.2.2⟩
theorem C4.set {w : World} {g x1 x2 x3 x4 : Nat} {p : Addr} {u : Value} (h : C4 w g x1 x2 x3 x4) (hn : g ≠ p.block) : C4 (w.setCell p u) g x1 x2 x3 x4 := h.grown (World.grownBy_set1 w p u) (by simp; exact hn)
theorem take_head_none (b : List UInt8) (h : b.length < 26) : take b [4, 4, 4, 4, 8, 2] = none := take_none (by simpa [wd] using h)
theorem take_plc_none (b : List UInt8) (h : b.length < 16) : take b [4, 8, 2, 2] = none := take_none (by simpa [wd] using h)
theorem places_short {b : List UInt8} (h : b.length < 26 + 16 * ctC b ∨ b.length < 26) : places b = none := by unfold places; rw [if_pos h]
theorem places_long {b : List UInt8} (h : 26 + 16 * ctC b ≤ b.length) : places b = some (seqC b, plsOf (ctC b) (b.drop 26)) := by unfold places; rw [if_neg (by omega)]
end Go.Proofs.Ytkmeipblgdahoaa.Ck
namespace Go.Proofs.Ytkmeipblgdahoaa.Ck
open Go.RowKit Go.Proofs.YtkmeipblgdahoaaW.PrintWords Go.Proofs.YtkmeipblgdahoaaW.PrintMore Go.Proofs.Ytkmeipblgdahoaa.Base Go.Proofs.Ytkmeipblgdahoaa.Rc Go.Proofs.Ytkmeipblgdahoaa.Shp
set_option maxRecDepth 100000
set_option linter.unusedVariables false
set_option linter.unusedSimpArgs false
set_option maxHeartbeats 4000000 in
theorem rcdec_calls (z zb b r : Int) (hz : IsI z) (hzb : IsI zb) (hb : IsI b) (hr : IsI r) (A : Option Addr) (n c : Nat) (l : List (List UInt8)) (w : World) (h : Dv.bytesK.C w A n l) (hn : n ≤ 40) (hlen : ∀ x ∈ l, x.length ≤ 5000) :
    Calls Try.prog 18 #[.agg #[.int .i64 z, .int .i64 zb, .int .i64 b, .int .i64 r], .slice A n c] w (RDcP w (decC (decide (Rt z zb b r)) z zb b.toNat l)) := by
  obtain ⟨hl, hm⟩ := C_len h
  have HL := Aside0.mk hl
  have HC := Aside0.mk h
  have HLEN := Aside0.mk hlen
  have HI := Aside0.mk (And.intro hz (And.intro hzb (And.intro hb hr)))
  have HB0 := Aside0.mk (show RQ w (((w.alloc (.cells #[.int .i64 z, .int .i64 zb, .int .i64 b, .int .i64 r] 23)).alloc (.cells #[.int .u64 0, .slice none 0 0] 27)).alloc (.cells #[.int .u64 0, .slice none 0 0] 27)) w.heap.size z zb b r 0 (.slice none 0 0) [] from
    ⟨below_alloc (below_alloc (alloc_below w _) _) _, blk_past (blk_past (blk_here rfl)), blk_past (blk_here (by simp)), blk_here (by simp), Kd.R_nil _ _ _ _ _⟩)
  clear h hl hlen hz hzb hb hr
  go_enter Try.func18, Try.ntmps18
  go_wp2
  obtain ⟨g, hg⟩ : ∃ g, w.heap.size = g := ⟨_, rfl⟩
  obtain ⟨W, hW⟩ : ∃ W, ((w.alloc (.cells #[.int .i64 z, .int .i64 zb, .int .i64 b, .int .i64 r] 23)).alloc (.cells #[.int .u64 0, .slice none 0 0] 27)).alloc (.cells #[.int .u64 0, .slice none 0 0] 27) = W := ⟨_, rfl⟩
  rw [hW] at HB0 ⊢
  rw [hg] at HB0 ⊢
  have HG := Aside0.mk (Nat.le_of_eq hg)
  clear hW hg
  go_loopg [7] n (fun g1 v7 wr => ∃ (i q : Nat) (vo : Value) (ps : List Plc), v7 = .int .i64 (i : Int) ∧ i ≤ n ∧ Aside0 (g1 + i = n) ∧ Aside0 (said (l.take i) (0, []) = some (q, ps)) ∧ Aside0 (ps.length ≤ 400 * i) ∧ Aside0 (q < 18446744073709551616) ∧ Aside0 (RQ w wr g z zb b r q vo ps))
  case atStart => exact ⟨0, 0, _, [], rfl, Nat.zero_le _, ⟨rfl⟩, ⟨rfl⟩, ⟨by simp⟩, ⟨by omega⟩, HB0⟩
  case round =>
    obtain ⟨i, q, vo, ps, rfl, hi, HK, HS, HPN, HQ, HR⟩ := hrel
    obtain ⟨Wr, rfl⟩ : ∃ Wr : World, Wr = wr := ⟨_, rfl⟩
    by_cases hlt : i < n
    · have hd0 : decide ((i : Int) < (n : Int)) = true := decide_eq_true (by omega)
      have hd0' : decide (i < n) = true := decide_eq_true hlt
      have hi0 : (0 : Int) ≤ (i : Int) := by omega
      have hin : (i : Int) < (n : Int) := by omega
      have hil : i < l.length := by rw [HL.out]; exact hlt
      obtain ⟨x, hx⟩ : ∃ x, l.getD i [] = x := ⟨_, rfl⟩
      obtain ⟨pa, A0, c0, rfl, e0, hk0, hC0⟩ := bytes_at (Kd.C_below HC.out HR.out.bel) i hlt
      rw [hx] at e0 hk0 hC0
      obtain ⟨xn, hxn⟩ : ∃ xn, x.length = xn := ⟨_, rfl⟩
      have hx5 : xn ≤ 5000 := by rw [← hxn, ← hx, List.getD_eq_getElem?_getD, List.getElem?_eq_getElem hil]; exact HLEN.out _ (List.getElem_mem _)
      rw [hxn] at e0 hk0 hC0
      have HX := Aside0.mk (And.intro hil (And.intro hx hxn))
      have HC0 := Aside0.mk hC0
      clear hil hx hxn hC0
      go_wp2_with fail
      refine (rtake_callsU A0 xn c0 x _ 6 6 [4, 4, 4, 4, 8, 2] _ (Kd.C_below HC0.out (alloc_below _ _)) hk0 (by omega) (wid_lit Wr [4, 4, 4, 4, 8, 2] _ rfl (by decide) (by decide)) (by omega)).mono ?_
      by_cases h26 : xn < 26
      · rw [take_head_none x (by rw [HX.out.2.2]; exact h26)]
        have HNO := Aside0.mk (show said l (0, []) = none from said_none HX.out.1 HX.out.2.1 HS.out (places_short (.inr (by rw [HX.out.2.2]; exact h26))))
        rintro e w1 ⟨hb1, rfl⟩
        have HR1 := Aside0.mk (HR.out.below (below_go (alloc_below Wr _) hb1))
        clear hb1 h26 e0
        have HNIL := Aside0.mk (HR1.out.nil HG.out)
        obtain ⟨s0, s1, z0, z1⟩ := HR1.out.rs
        go_wp2
        clear s0 s1 z0 z1
        obtain ⟨hB9, q0, q1⟩ := HNIL.out
        have HD := Aside0.mk (show decC (decide (Rt z zb b r)) z zb b.toNat l = none by unfold decC; rw [HNO.out])
        refine bodyPost_ret (v := .tuple #[.agg #[.int .u64 0, .slice none 0 0], .int .i64 141]) (by simp [results, Try.results18, go_sem, q0, q1]) rfl ⟨hB9, .inr ⟨HD.out, rfl⟩⟩
      rw [take_headC x (by rw [HX.out.2.2]; omega)]
      rintro e w3 ⟨hb3, vl, vr, rfl, hU, hO⟩
      obtain ⟨gl, cl, rfl, hgl, hglt, hcell⟩ := ownU_cells hU (by simp)
      have l4 := hcell 4 (by simp)
      have l5 := hcell 5 (by simp)
      simp only [List.getD_cons_zero, List.getD_cons_succ, List.length_cons, List.length_nil] at l4 l5 hU ⊢
      obtain ⟨sq, hsq⟩ : ∃ y, seqC x = y := ⟨_, rfl⟩
      obtain ⟨ct, hct⟩ : ∃ y, ctC x = y := ⟨_, rfl⟩
      rw [hsq, hct] at hU
      rw [hsq] at l4
      rw [hct] at l5
      have hct16 : ct < 65536 := by rw [← hct]; exact un2_lt _
      have hlow : w.heap.size ≤ Wr.heap.size := HR.out.bel.size
      obtain ⟨hs, hhs⟩ : ∃ hs, [un (x.take 4), un ((x.drop 4).take 4), un ((x.drop 8).take 4), un ((x.drop 12).take 4), sq, ct] = hs := ⟨_, rfl⟩
      rw [hhs] at hU
      have HHS := Aside0.mk hhs
      have HSQ := Aside0.mk (And.intro hsq hct)
      have HR3 := Aside0.mk (show RQ2 w w3 g z zb b r q vo ps vr (x.drop 26) (.slice (some ⟨gl, 0, none⟩) 6 cl) hs from
        ⟨HR.out.below (below_go (alloc_below Wr _) hb3), Kd.R_lower hO (by simp; omega), Kd.R_lower hU (by simp; omega)⟩)
      obtain ⟨s0, s1, s2, s3, s4, s5, f4, f5⟩ := HR3.out.rq.cells
      have HRN := Aside0.mk (HR3.out.num HG.out sq)
      clear hb3 hU hO hcell hgl hglt hsq hct hhs hlow e0 s0 s1 s2 s3
      go_wp2
      clear l4 l5 s4 s5 f4 f5 hd0 hd0'
      obtain ⟨W4, hW4⟩ : ∃ W4, w3.setCell ⟨g + 1 + 1, 0, none⟩ (.int .u64 (sq : Int)) = W4 := ⟨_, rfl⟩
      rw [hW4] at HRN ⊢
      clear hW4
      go_loopg [9, 11] ct (fun g1 v9 v11 wr => ∃ (j : Nat) (vo : Value), v11 = .int .u64 (j : Int) ∧ j ≤ ct ∧ 26 + 16 * j ≤ xn ∧ Aside0 (g1 + j = ct) ∧ Aside0 (RQ2 w wr g z zb b r sq vo (ps ++ plsOf j (x.drop 26)) v9 (x.drop (26 + 16 * j)) (.slice (some ⟨gl, 0, none⟩) 6 cl) hs))
      case atStart => exact ⟨0, vo, rfl, by omega, by omega, ⟨rfl⟩, ⟨by simpa [plsOf] using HRN.out⟩⟩
      case round =>
        obtain ⟨j, vo, rfl, hj, hjx, HK2, HRj⟩ := hrel
        obtain ⟨Wj, rfl⟩ : ∃ Wj : World, Wj = wr := ⟨_, rfl⟩
        obtain ⟨_, _, he3, -, -, hcl3⟩ := ownU_cells HRj.out.hdr (by rw [← HHS.out]; simp)
        simp only [Value.slice.injEq, Option.some.injEq, Addr.mk.injEq, and_true] at he3
        obtain ⟨rfl, -, -⟩ := he3
        have l5 : Wj.cell? ⟨gl, 5, none⟩ = some (.int .u64 (ct : Int)) := by
          have := hcl3 5 (by rw [← HHS.out]; simp)
          rw [← HHS.out] at this
          simpa using this
        clear hcl3
        by_cases hlt : j < ct
        · have hd0 : decide ((j : Int) < (ct : Int)) = true := decide_eq_true (by omega)
          have hd0' : decide (j < ct) = true := decide_eq_true hlt
          obtain ⟨rr, hrr⟩ : ∃ rr, x.drop (26 + 16 * j) = rr := ⟨_, rfl⟩
          rw [hrr] at HRj
          obtain ⟨A5, n5, c5, rfl, hrc, hrC⟩ := HRj.out.rest.reads
          have hn5 : n5 = xn - (26 + 16 * j) := by have := (C_len hrC).1; rw [← hrr, List.length_drop, HX.out.2.2] at this; omega
          have HRR := Aside0.mk hrr
          have HRC := Aside0.mk hrC
          have HN5 := Aside0.mk (show rr.length = n5 from (C_len hrC).1)
          have hn55 : n5 ≤ 5000 := by omega
          have HLT := Aside0.mk (And.intro hlt hn5)
          clear hrr hrC hn5
          go_wp2_with fail
          refine (rtake_callsU A5 n5 c5 rr _ 4 4 [4, 8, 2, 2] _ (Kd.C_below HRC.out (alloc_below _ _)) hrc (by omega) (wid_lit Wj [4, 8, 2, 2] _ rfl (by decide) (by decide)) (by omega)).mono ?_
          by_cases h16 : n5 < 16
          · rw [take_plc_none rr (by rw [HN5.out]; exact h16)]
            have HNO := Aside0.mk (show said l (0, []) = none from said_none HX.out.1 HX.out.2.1 HS.out (places_short (.inl (by rw [HX.out.2.2, HSQ.out.2]; have := HLT.out; omega))))
            rintro e w5 ⟨hb5, rfl⟩
            have HR5 := Aside0.mk (HRj.out.rq.below (below_go (alloc_below Wj _) hb5))
            clear hb5 h16 l5 hlt
            have HNIL := Aside0.mk (HR5.out.nil HG.out)
            obtain ⟨s0, s1, z0, z1⟩ := HR5.out.rs
            go_wp2
            clear s0 s1 z0 z1
            obtain ⟨hB9, q0, q1⟩ := HNIL.out
            have HD := Aside0.mk (show decC (decide (Rt z zb b r)) z zb b.toNat l = none by unfold decC; rw [HNO.out])
            refine bodyPost_ret (v := .tuple #[.agg #[.int .u64 0, .slice none 0 0], .int .i64 141]) (by simp [results, Try.results18, go_sem, q0, q1]) rfl ⟨hB9, .inr ⟨HD.out, rfl⟩⟩
          rw [take_plc rr (by rw [HN5.out]; omega)]
          have HPLT := Aside0.mk (show plAt rr = (un (rr.take 4), un ((rr.drop 4).take 8), (un ((rr.drop 12).take 2) : Int), (un ((rr.drop 14).take 2) : Int)) from rfl)
          obtain ⟨x1, hx1⟩ : ∃ y, un (rr.take 4) = y := ⟨_, rfl⟩
          obtain ⟨x2, hx2⟩ : ∃ y, un ((rr.drop 4).take 8) = y := ⟨_, rfl⟩
          obtain ⟨x3, hx3⟩ : ∃ y, un ((rr.drop 12).take 2) = y := ⟨_, rfl⟩
          obtain ⟨x4, hx4⟩ : ∃ y, un ((rr.drop 14).take 2) = y := ⟨_, rfl⟩
          have k1 : x1 < 4294967296 := by rw [← hx1]; exact un4_lt _
          have k2 : x2 < 18446744073709551616 := by rw [← hx2]; exact un8_lt _
          have k3 : x3 < 65536 := by rw [← hx3]; exact un2_lt _
          have k4 : x4 < 65536 := by rw [← hx4]; exact un2_lt _
          rw [hx1, hx2, hx3, hx4] at HPLT ⊢
          rintro e w7 ⟨hb7, vl7, vr7, rfl, hU7, hO7⟩
          obtain ⟨gv, cv, rfl, hgv, hgvt, hcell⟩ := ownU_cells hU7 (by simp)
          have l0 := hcell 0 (by simp)
          have l1 := hcell 1 (by simp)
          have l2 := hcell 2 (by simp)
          have l3 := hcell 3 (by simp)
          simp only [List.getD_cons_zero, List.getD_cons_succ, List.length_cons, List.length_nil] at l0 l1 l2 l3 hU7 ⊢
          have hb7w : Below Wj.heap.size Wj w7 := below_go (alloc_below Wj (.cells #[.int .i64 4, .int .i64 8, .int .i64 2, .int .i64 2] 3)) hb7
          have HR7 := Aside0.mk ((HRj.out.below hb7w).cut (show Base.Own w7 w.heap.size vr7 (rr.drop 16) from Kd.R_lower hO7 (by have := HRj.out.rq.bel.size; simp; omega)))
          have HV7 := Aside0.mk (show OwnU w7 Wj.heap.size (.slice (some ⟨gv, 0, none⟩) 4 cv) [x1, x2, x3, x4] from Kd.R_lower hU7 (by simp))
          have hw1 : IntKind.u32.wrap (x1 : Int) = (x1 : Int) := wrap_u32_in (by omega) (by omega)
          have hw3 : IntKind.i64.wrap (x3 : Int) = (x3 : Int) := IntWalk.i64_in _ (by omega)
          have hw4 : IntKind.i64.wrap (x4 : Int) = (x4 : Int) := IntWalk.i64_in _ (by omega)
          have HII := Aside0.mk (show (ps ++ plsOf j (x.drop 26)).length ≤ 100000 by rw [List.length_append, plsOf_len]; have := HPN.out; omega)
          have HXO := Aside0.mk (show PlcOk (x1, x2, (x3 : Int), (x4 : Int)) ∧ I64 (x3 : Int) ∧ I64 (x4 : Int) from ⟨⟨k1, k2⟩, ⟨by omega, by omega⟩, ⟨by omega, by omega⟩⟩)
          clear hb7 hb7w hU7 hO7 hcell hgv hgvt hx1 hx2 hx3 hx4 l5
          obtain ⟨Ai, ni, ci, rfl⟩ : ∃ Ai ni ci, vo = .slice Ai ni ci := by obtain ⟨Ai, ci, hv⟩ := Kd.R_slice HRj.out.rq.row; exact ⟨Ai, _, ci, hv⟩
          have HS5 := Aside0.mk (And.intro l0 (And.intro l1 (And.intro l2 l3)))
          obtain ⟨cvv, hcvv⟩ := Kd.R_typed HV7.out gv rfl
          have HSEP := Aside0.mk (show some gv ≠ (Value.slice Ai ni ci).ownBlock from Kd.R_ne HR7.out.rq.row hcvv (by decide))
          have HGG := Aside0.mk (show gv ≠ g + 1 + 1 by have h1 := HR7.out.rq.st; intro e; rw [e] at hcvv; rw [hcvv] at h1; injection h1 with h1; injection h1 with _ h1; exact absurd h1 (by decide))
          clear hcvv l0 l1 l2 l3 hlt hd0 hd0'
          go_wp2
          refine wp_region_held_drew (S := fun w' => w'.cell? ⟨gv, 0, none⟩ = some (.int .u64 (x1 : Int)) ∧ w'.cell? ⟨gv, 1, none⟩ = some (.int .u64 (x2 : Int)) ∧ w'.cell? ⟨gv, 2, none⟩ = some (.int .u64 (x3 : Int)) ∧ w'.cell? ⟨gv, 3, none⟩ = some (.int .u64 (x4 : Int))) (by kernel_rfl) HS5.out (fun hHeld => ?_)
          obtain ⟨X, hX⟩ : ∃ X, w7.drew = X := ⟨_, rfl⟩
          have hbX : Below w7.heap.size w7 X := by rw [← hX]; exact below_drew (Below.refl _ _)
          have HRX := Aside0.mk (HR7.out.below hbX)
          have HSX := Aside0.mk (show C4 X gv x1 x2 x3 x4 from (show C4 w7 gv x1 x2 x3 x4 from HS5.out).below hbX)
          have f1 := HRX.out.rq.cells.2.2.2.2.2.1
          rw [hX] at hHeld ⊢
          clear hX hbX
          refine wpAnyH_take (i := 0) (oi := { dst := some 59, op := Op.fieldAddr 27 (Operand.tmp 6) 1, type := 0, pos := "ref.go:90", after := #[], guard := none }) (v := ?_) rfl (by kernel_rfl) (by kernel_rfl) (by kernel_rfl) (fun _ _ _ h => h) (Or.inl ⟨by rfl, ?_⟩) (by assumption) ?_
          rotate_left
          · (intro w hSw; (try dsimp only at hSw); go_simp; (try with_reducible rfl))
          (try simp only [Act.put, List.setIfInBounds_toArray, List.set_cons_zero, List.set_cons_succ])
          refine wpAnyH_take (i := 2) (oi := { dst := some 61, op := Op.move (Operand.tmp 12), type := 92, pos := "ref.go:90", after := #[], guard := none }) (v := ?_) rfl (by kernel_rfl) (by kernel_rfl) (by kernel_rfl) (fun _ _ _ h => h) (Or.inl ⟨by rfl, ?_⟩) (by assumption) ?_
          rotate_left
          · (intro w hSw; (try dsimp only at hSw); go_simp; (try with_reducible rfl))
          (try simp only [Act.put, List.setIfInBounds_toArray, List.set_cons_zero, List.set_cons_succ])
          refine wpAnyH_take (i := 3) (oi := { dst := some 62, op := Op.indexAddr 92 (Operand.tmp 61) (Operand.const (Value.int IntKind.i64 0)), type := 0, pos := "ref.go:90", after := #[{ on := 2, ground := Ground.data }], guard := none }) (v := ?_) rfl (by kernel_rfl) (by kernel_rfl) (by kernel_rfl) (fun _ _ _ h => h) (Or.inl ⟨by rfl, ?_⟩) (by assumption) ?_
          rotate_left
          · (intro w hSw; (try dsimp only at hSw); go_simp; (try with_reducible rfl))
          (try simp only [Act.put, List.setIfInBounds_toArray, List.set_cons_zero, List.set_cons_succ])
          refine wpAnyH_take (i := 4) (oi := { dst := some 63, op := Op.load 24 (Operand.tmp 62), type := 24, pos := "ref.go:90", after := #[{ on := 3, ground := Ground.data }], guard := none }) (v := ?_) rfl (by kernel_rfl) (by kernel_rfl) (by kernel_rfl) (fun _ _ _ h => h) (Or.inl ⟨by rfl, ?_⟩) (by assumption) ?_
          rotate_left
          · (intro w hSw; (try dsimp only at hSw); go_simp; (try with_reducible rfl))
          (try simp only [Act.put, List.setIfInBounds_toArray, List.set_cons_zero, List.set_cons_succ])
          refine wpAnyH_take (i := 5) (oi := { dst := some 64, op := Op.convert 24 86 (Operand.tmp 63), type := 86, pos := "ref.go:90", after := #[{ on := 4, ground := Ground.data }], guard := none }) (v := ?_) rfl (by kernel_rfl) (by kernel_rfl) (by kernel_rfl) (fun _ _ _ h => h) (Or.inl ⟨by rfl, ?_⟩) (by assumption) ?_
          rotate_left
          · (intro w hSw; (try dsimp only at hSw); go_simp; (try with_reducible rfl))
          (try simp only [Act.put, List.setIfInBounds_toArray, List.set_cons_zero, List.set_cons_succ])
          refine wpAnyH_take (i := 6) (oi := { dst := some 65, op := Op.move (Operand.tmp 12), type := 92, pos := "ref.go:90", after := #[], guard := none }) (v := ?_) rfl (by kernel_rfl) (by kernel_rfl) (by kernel_rfl) (fun _ _ _ h => h) (Or.inl ⟨by rfl, ?_⟩) (by assumption) ?_
          rotate_left
          · (intro w hSw; (try dsimp only at hSw); go_simp; (try with_reducible rfl))
          (try simp only [Act.put, List.setIfInBounds_toArray, List.set_cons_zero, List.set_cons_succ])
          refine wpAnyH_take (i := 7) (oi := { dst := some 66, op := Op.indexAddr 92 (Operand.tmp 65) (Operand.const (Value.int IntKind.i64 1)), type := 0, pos := "ref.go:90", after := #[{ on := 6, ground := Ground.data }], guard := none }) (v := ?_) rfl (by kernel_rfl) (by kernel_rfl) (by kernel_rfl) (fun _ _ _ h => h) (Or.inl ⟨by rfl, ?_⟩) (by assumption) ?_
          rotate_left
          · (intro w hSw; (try dsimp only at hSw); go_simp; (try with_reducible rfl))
          (try simp only [Act.put, List.setIfInBounds_toArray, List.set_cons_zero, List.set_cons_succ])
          refine wpAnyH_take (i := 8) (oi := { dst := some 67, op := Op.load 24 (Operand.tmp 66), type := 24, pos := "ref.go:90", after := #[{ on := 7, ground := Ground.data }], guard := none }) (v := ?_) rfl (by kernel_rfl) (by kernel_rfl) (by kernel_rfl) (fun _ _ _ h => h) (Or.inl ⟨by rfl, ?_⟩) (by assumption) ?_
          rotate_left
          · (intro w hSw; (try dsimp only at hSw); go_simp; (try with_reducible rfl))
          (try simp only [Act.put, List.setIfInBounds_toArray, List.set_cons_zero, List.set_cons_succ])
          refine wpAnyH_take (i := 9) (oi := { dst := some 68, op := Op.move (Operand.tmp 12), type := 92, pos := "ref.go:90", after := #[], guard := none }) (v := ?_) rfl (by kernel_rfl) (by kernel_rfl) (by kernel_rfl) (fun _ _ _ h => h) (Or.inl ⟨by rfl, ?_⟩) (by assumption) ?_
          rotate_left
          · (intro w hSw; (try dsimp only at hSw); go_simp; (try with_reducible rfl))
          (try simp only [Act.put, List.setIfInBounds_toArray, List.set_cons_zero, List.set_cons_succ])
          refine wpAnyH_take (i := 10) (oi := { dst := some 69, op := Op.indexAddr 92 (Operand.tmp 68) (Operand.const (Value.int IntKind.i64 2)), type := 0, pos := "ref.go:90", after := #[{ on := 9, ground := Ground.data }], guard := none }) (v := ?_) rfl (by kernel_rfl) (by kernel_rfl) (by kernel_rfl) (fun _ _ _ h => h) (Or.inl ⟨by rfl, ?_⟩) (by assumption) ?_
          rotate_left
          · (intro w hSw; (try dsimp only at hSw); go_simp; (try with_reducible rfl))
          (try simp only [Act.put, List.setIfInBounds_toArray, List.set_cons_zero, List.set_cons_succ])
          refine wpAnyH_take (i := 11) (oi := { dst := some 70, op := Op.load 24 (Operand.tmp 69), type := 24, pos := "ref.go:90", after := #[{ on := 10, ground := Ground.data }], guard := none }) (v := ?_) rfl (by kernel_rfl) (by kernel_rfl) (by kernel_rfl) (fun _ _ _ h => h) (Or.inl ⟨by rfl, ?_⟩) (by assumption) ?_
          rotate_left
          · (intro w hSw; (try dsimp only at hSw); go_simp; (try with_reducible rfl))
          (try simp only [Act.put, List.setIfInBounds_toArray, List.set_cons_zero, List.set_cons_succ])
          refine wpAnyH_take (i := 12) (oi := { dst := some 71, op := Op.convert 24 3 (Operand.tmp 70), type := 3, pos := "ref.go:90", after := #[{ on := 11, ground := Ground.data }], guard := none }) (v := ?_) rfl (by kernel_rfl) (by kernel_rfl) (by kernel_rfl) (fun _ _ _ h => h) (Or.inl ⟨by rfl, ?_⟩) (by assumption) ?_
          rotate_left
          · (intro w hSw; (try dsimp only at hSw); go_simp; (try with_reducible rfl))
          (try simp only [Act.put, List.setIfInBounds_toArray, List.set_cons_zero, List.set_cons_succ])
          refine wpAnyH_take (i := 13) (oi := { dst := some 72, op := Op.move (Operand.tmp 12), type := 92, pos := "ref.go:90", after := #[], guard := none }) (v := ?_) rfl (by kernel_rfl) (by kernel_rfl) (by kernel_rfl) (fun _ _ _ h => h) (Or.inl ⟨by rfl, ?_⟩) (by assumption) ?_
          rotate_left
          · (intro w hSw; (try dsimp only at hSw); go_simp; (try with_reducible rfl))
          (try simp only [Act.put, List.setIfInBounds_toArray, List.set_cons_zero, List.set_cons_succ])
          refine wpAnyH_take (i := 14) (oi := { dst := some 73, op := Op.indexAddr 92 (Operand.tmp 72) (Operand.const (Value.int IntKind.i64 3)), type := 0, pos := "ref.go:90", after := #[{ on := 13, ground := Ground.data }], guard := none }) (v := ?_) rfl (by kernel_rfl) (by kernel_rfl) (by kernel_rfl) (fun _ _ _ h => h) (Or.inl ⟨by rfl, ?_⟩) (by assumption) ?_
          rotate_left
          · (intro w hSw; (try dsimp only at hSw); go_simp; (try with_reducible rfl))
          (try simp only [Act.put, List.setIfInBounds_toArray, List.set_cons_zero, List.set_cons_succ])
          refine wpAnyH_take (i := 15) (oi := { dst := some 74, op := Op.load 24 (Operand.tmp 73), type := 24, pos := "ref.go:90", after := #[{ on := 14, ground := Ground.data }], guard := none }) (v := ?_) rfl (by kernel_rfl) (by kernel_rfl) (by kernel_rfl) (fun _ _ _ h => h) (Or.inl ⟨by rfl, ?_⟩) (by assumption) ?_
          rotate_left
          · (intro w hSw; (try dsimp only at hSw); go_simp; (try with_reducible rfl))
          (try simp only [Act.put, List.setIfInBounds_toArray, List.set_cons_zero, List.set_cons_succ])
          refine wpAnyH_take (i := 16) (oi := { dst := some 75, op := Op.convert 24 3 (Operand.tmp 74), type := 3, pos := "ref.go:90", after := #[{ on := 15, ground := Ground.data }], guard := none }) (v := ?_) rfl (by kernel_rfl) (by kernel_rfl) (by kernel_rfl) (fun _ _ _ h => h) (Or.inl ⟨by rfl, ?_⟩) (by assumption) ?_
          rotate_left
          · (intro w hSw; (try dsimp only at hSw); go_simp; (try with_reducible rfl))
          (try simp only [Act.put, List.setIfInBounds_toArray, List.set_cons_zero, List.set_cons_succ])
          refine wpAnyH_take (i := 17) (oi := { dst := some 76, op := Op.build 59 #[(0, Operand.tmp 71), (1, Operand.tmp 75)], type := 59, pos := "ref.go:90", after := #[{ on := 12, ground := Ground.data }, { on := 16, ground := Ground.data }], guard := none }) (v := ?_) rfl (by kernel_rfl) (by kernel_rfl) (by kernel_rfl) (fun _ _ _ h => h) (Or.inl ⟨by rfl, ?_⟩) (by assumption) ?_
          rotate_left
          · (intro w hSw; (try dsimp only at hSw); go_simp; (try with_reducible rfl))
          (try simp only [Act.put, List.setIfInBounds_toArray, List.set_cons_zero, List.set_cons_succ])
          refine wpAnyH_take (i := 18) (oi := { dst := some 77, op := Op.build 88 #[(0, Operand.tmp 64), (1, Operand.tmp 67), (2, Operand.tmp 76)], type := 88, pos := "ref.go:90", after := #[{ on := 5, ground := Ground.data }, { on := 8, ground := Ground.data }, { on := 17, ground := Ground.data }], guard := none }) (v := ?_) rfl (by kernel_rfl) (by kernel_rfl) (by kernel_rfl) (fun _ _ _ h => h) (Or.inl ⟨by rfl, ?_⟩) (by assumption) ?_
          rotate_left
          · (intro w hSw; (try dsimp only at hSw); go_simp; (try with_reducible rfl))
          (try simp only [Act.put, List.setIfInBounds_toArray, List.set_cons_zero, List.set_cons_succ])
          refine wpAnyH_ready (rs := [1, 19]) (by kernel_rfl) (by simp) ?_
          refine (AllReadyH.cons (o := { dst := some 60, op := Op.load 25 (Operand.tmp 59), type := 25, pos := "ref.go:90", after := #[{ on := 0, ground := Ground.data }], guard := none }) rfl (fun K hK => ?_) (AllReadyH.cons (o := { dst := some 78, op := Op.buildSlice 25 1 #[(0, Operand.tmp 77)], type := 25, pos := "ref.go:90", after := #[{ on := 18, ground := Ground.data }], guard := none }) rfl (fun K hK => ?_) AllReadyH.nil))
          · go_simp
            refine hK.out _ _ ?_ (fun hHeld => ?_)
            · exact HSX.out
            clear hK K
            (try simp only [Act.put, List.setIfInBounds_toArray, List.set_cons_zero, List.set_cons_succ])
            refine wpAnyH_ready (rs := [19]) (by kernel_rfl) (by simp) ?_
            refine (AllReadyH.cons (o := { dst := some 78, op := Op.buildSlice 25 1 #[(0, Operand.tmp 77)], type := 25, pos := "ref.go:90", after := #[{ on := 18, ground := Ground.data }], guard := none }) rfl (fun K hK => ?_) AllReadyH.nil)
            go_simp
            refine hK.out _ _ ?_ (fun hHeld => ?_)
            · exact (HSX.out.below (alloc_below _ _))
            clear hK K
            (try simp only [Act.put, List.setIfInBounds_toArray, List.set_cons_zero, List.set_cons_succ])
            refine wpAnyH_ready (rs := [20]) (by kernel_rfl) (by simp) ?_
            refine (AllReadyH.cons (o := { dst := some 79, op := Op.call { callee := Callee.builtin Builtin.append, args := #[Operand.tmp 60, Operand.tmp 78], argTypes := #[25, 25] }, type := 25, pos := "ref.go:90", after := #[{ on := 1, ground := Ground.data }, { on := 19, ground := Ground.data }], guard := none }) rfl (fun K hK => ?_) AllReadyH.nil)
            refine app_plc_step w.heap.size (.tmp 60) (.tmp 78) (by rfl) rfl (.slice Ai ni ci) (ps ++ plsOf j (x.drop 26)) (x1, x2, (x3 : Int), (x4 : Int)) HXO.out.1 HXO.out.2.1 HXO.out.2.2 rfl (by simp [Act.eval]) HRX.out.rq.row HRX.out.rq.bel.size HII.out ?_
            intro v9 w9 hI9 hg9
            obtain ⟨A9, c9, rfl⟩ := Kd.R_slice hI9
            obtain ⟨e1, z1, hR9⟩ := HRX.out.pls HG.out hI9 hg9
            have HR9 := Aside0.mk hR9
            have HS9 := Aside0.mk (HSX.out.grown hg9 HSEP.out)
            clear hI9 hg9 hR9
            refine hK.out _ _ ?_ (fun hHeld => ?_)
            · exact HS9.out
            clear hK K
            (try simp only [Act.put, List.setIfInBounds_toArray, List.set_cons_zero, List.set_cons_succ])
            refine wpAnyH_take (i := 21) (oi := { dst := some 80, op := Op.fieldAddr 27 (Operand.tmp 6) 1, type := 0, pos := "ref.go:90", after := #[{ on := 0, ground := Ground.phase }, { on := 1, ground := Ground.phase }, { on := 2, ground := Ground.phase }, { on := 3, ground := Ground.phase }, { on := 4, ground := Ground.phase }, { on := 5, ground := Ground.phase }, { on := 6, ground := Ground.phase }, { on := 7, ground := Ground.phase }, { on := 8, ground := Ground.phase }, { on := 9, ground := Ground.phase }, { on := 10, ground := Ground.phase }, { on := 11, ground := Ground.phase }, { on := 12, ground := Ground.phase }, { on := 13, ground := Ground.phase }, { on := 14, ground := Ground.phase }, { on := 15, ground := Ground.phase }, { on := 16, ground := Ground.phase }, { on := 17, ground := Ground.phase }, { on := 18, ground := Ground.phase }, { on := 19, ground := Ground.phase }, { on := 20, ground := Ground.phase }], guard := none }) (v := ?_) rfl (by kernel_rfl) (by kernel_rfl) (by kernel_rfl) (fun _ _ _ h => h) (Or.inl ⟨by rfl, ?_⟩) (by assumption) ?_
            rotate_left
            · (intro w hSw; (try dsimp only at hSw); go_simp; (try with_reducible rfl))
            (try simp only [Act.put, List.setIfInBounds_toArray, List.set_cons_zero, List.set_cons_succ])
            refine wpAnyH_ready (rs := [22]) (by kernel_rfl) (by simp) ?_
            refine (AllReadyH.cons (o := { dst := none, op := Op.store 25 (Operand.tmp 80) (Operand.tmp 79), type := 0, pos := "ref.go:90", after := #[{ on := 21, ground := Ground.data }, { on := 20, ground := Ground.data }, { on := 20, ground := Ground.chain }, { on := 0, ground := Ground.phase }, { on := 1, ground := Ground.phase }, { on := 2, ground := Ground.phase }, { on := 3, ground := Ground.phase }, { on := 4, ground := Ground.phase }, { on := 5, ground := Ground.phase }, { on := 6, ground := Ground.phase }, { on := 7, ground := Ground.phase }, { on := 8, ground := Ground.phase }, { on := 9, ground := Ground.phase }, { on := 10, ground := Ground.phase }, { on := 11, ground := Ground.phase }, { on := 12, ground := Ground.phase }, { on := 13, ground := Ground.phase }, { on := 14, ground := Ground.phase }, { on := 15, ground := Ground.phase }, { on := 16, ground := Ground.phase }, { on := 17, ground := Ground.phase }, { on := 18, ground := Ground.phase }, { on := 19, ground := Ground.phase }, { on := 20, ground := Ground.phase }], guard := none }) rfl (fun K hK => ?_) AllReadyH.nil)
            go_simp
            refine hK.out _ _ ?_ (fun hHeld => ?_)
            · exact (HS9.out.set HGG.out)
            clear hK K
            (try simp only [Act.put, List.setIfInBounds_toArray, List.set_cons_zero, List.set_cons_succ])
            refine wpAnyH_done (by kernel_rfl) ?_ _
            go_wp2
            go_roundg (ct - (j + 1))
            case measure => have := HK2.out; have := HLT.out; omega
            case rel =>
              have e1 : ps ++ plsOf (j + 1) (x.drop 26) = (ps ++ plsOf j (x.drop 26)) ++ [(x1, x2, (x3 : Int), (x4 : Int))] := by rw [plsOf_snoc, List.drop_drop, HRR.out, HPLT.out, List.append_assoc]
              have e2 : x.drop (26 + 16 * (j + 1)) = rr.drop 16 := by rw [← HRR.out, List.drop_drop, show 26 + 16 * j + 16 = 26 + 16 * (j + 1) from by omega]
              refine ⟨j + 1, .slice A9 ((ps ++ plsOf j (x.drop 26)).length + 1) c9, by congr 1, by have := HLT.out; omega, by have := HLT.out; omega, ⟨by have := HK2.out; have := HLT.out; omega⟩, ⟨?_⟩⟩
              rw [e1, e2]
              have h12 := HR9.out
              simp only [List.length_append, List.length_cons, List.length_nil, Nat.zero_add] at h12 ⊢
              exact h12
          · go_simp
            refine hK.out _ _ ?_ (fun hHeld => ?_)
            · exact (HSX.out.below (alloc_below _ _))
            clear hK K
            (try simp only [Act.put, List.setIfInBounds_toArray, List.set_cons_zero, List.set_cons_succ])
            have f1 := pw_cell_below (alloc_below X (.cells #[.int .u32 (x1 : Int), .int .u64 (x2 : Int), .int .i64 (x3 : Int), .int .i64 (x4 : Int)] 88)) f1
            refine wpAnyH_ready (rs := [1]) (by kernel_rfl) (by simp) ?_
            refine (AllReadyH.cons (o := { dst := some 60, op := Op.load 25 (Operand.tmp 59), type := 25, pos := "ref.go:90", after := #[{ on := 0, ground := Ground.data }], guard := none }) rfl (fun K hK => ?_) AllReadyH.nil)
            go_simp
            refine hK.out _ _ ?_ (fun hHeld => ?_)
            · exact (HSX.out.below (alloc_below _ _))
            clear hK K
            (try simp only [Act.put, List.setIfInBounds_toArray, List.set_cons_zero, List.set_cons_succ])
            refine wpAnyH_ready (rs := [20]) (by kernel_rfl) (by simp) ?_
            refine (AllReadyH.cons (o := { dst := some 79, op := Op.call { callee := Callee.builtin Builtin.append, args := #[Operand.tmp 60, Operand.tmp 78], argTypes := #[25, 25] }, type := 25, pos := "ref.go:90", after := #[{ on := 1, ground := Ground.data }, { on := 19, ground := Ground.data }], guard := none }) rfl (fun K hK => ?_) AllReadyH.nil)
            refine app_plc_step w.heap.size (.tmp 60) (.tmp 78) (by rfl) rfl (.slice Ai ni ci) (ps ++ plsOf j (x.drop 26)) (x1, x2, (x3 : Int), (x4 : Int)) HXO.out.1 HXO.out.2.1 HXO.out.2.2 rfl (by simp [Act.eval]) HRX.out.rq.row HRX.out.rq.bel.size HII.out ?_
            intro v9 w9 hI9 hg9
            obtain ⟨A9, c9, rfl⟩ := Kd.R_slice hI9
            obtain ⟨e1, z1, hR9⟩ := HRX.out.pls HG.out hI9 hg9
            have HR9 := Aside0.mk hR9
            have HS9 := Aside0.mk (HSX.out.grown hg9 HSEP.out)
            clear hI9 hg9 hR9
            refine hK.out _ _ ?_ (fun hHeld => ?_)
            · exact HS9.out
            clear hK K
            (try simp only [Act.put, List.setIfInBounds_toArray, List.set_cons_zero, List.set_cons_succ])
            refine wpAnyH_take (i := 21) (oi := { dst := some 80, op := Op.fieldAddr 27 (Operand.tmp 6) 1, type := 0, pos := "ref.go:90", after := #[{ on := 0, ground := Ground.phase }, { on := 1, ground := Ground.phase }, { on := 2, ground := Ground.phase }, { on := 3, ground := Ground.phase }, { on := 4, ground := Ground.phase }, { on := 5, ground := Ground.phase }, { on := 6, ground := Ground.phase }, { on := 7, ground := Ground.phase }, { on := 8, ground := Ground.phase }, { on := 9, ground := Ground.phase }, { on := 10, ground := Ground.phase }, { on := 11, ground := Ground.phase }, { on := 12, ground := Ground.phase }, { on := 13, ground := Ground.phase }, { on := 14, ground := Ground.phase }, { on := 15, ground := Ground.phase }, { on := 16, ground := Ground.phase }, { on := 17, ground := Ground.phase }, { on := 18, ground := Ground.phase }, { on := 19, ground := Ground.phase }, { on := 20, ground := Ground.phase }], guard := none }) (v := ?_) rfl (by kernel_rfl) (by kernel_rfl) (by kernel_rfl) (fun _ _ _ h => h) (Or.inl ⟨by rfl, ?_⟩) (by assumption) ?_
            rotate_left
            · (intro w hSw; (try dsimp only at hSw); go_simp; (try with_reducible rfl))
            (try simp only [Act.put, List.setIfInBounds_toArray, List.set_cons_zero, List.set_cons_succ])
            refine wpAnyH_ready (rs := [22]) (by kernel_rfl) (by simp) ?_
            refine (AllReadyH.cons (o := { dst := none, op := Op.store 25 (Operand.tmp 80) (Operand.tmp 79), type := 0, pos := "ref.go:90", after := #[{ on := 21, ground := Ground.data }, { on := 20, ground := Ground.data }, { on := 20, ground := Ground.chain }, { on := 0, ground := Ground.phase }, { on := 1, ground := Ground.phase }, { on := 2, ground := Ground.phase }, { on := 3, ground := Ground.phase }, { on := 4, ground := Ground.phase }, { on := 5, ground := Ground.phase }, { on := 6, ground := Ground.phase }, { on := 7, ground := Ground.phase }, { on := 8, ground := Ground.phase }, { on := 9, ground := Ground.phase }, { on := 10, ground := Ground.phase }, { on := 11, ground := Ground.phase }, { on := 12, ground := Ground.phase }, { on := 13, ground := Ground.phase }, { on := 14, ground := Ground.phase }, { on := 15, ground := Ground.phase }, { on := 16, ground := Ground.phase }, { on := 17, ground := Ground.phase }, { on := 18, ground := Ground.phase }, { on := 19, ground := Ground.phase }, { on := 20, ground := Ground.phase }], guard := none }) rfl (fun K hK => ?_) AllReadyH.nil)
            go_simp
            refine hK.out _ _ ?_ (fun hHeld => ?_)
            · exact (HS9.out.set HGG.out)
            clear hK K
            (try simp only [Act.put, List.setIfInBounds_toArray, List.set_cons_zero, List.set_cons_succ])
            refine wpAnyH_done (by kernel_rfl) ?_ _
            go_wp2
            go_roundg (ct - (j + 1))
            case measure => have := HK2.out; have := HLT.out; omega
            case rel =>
              have e1 : ps ++ plsOf (j + 1) (x.drop 26) = (ps ++ plsOf j (x.drop 26)) ++ [(x1, x2, (x3 : Int), (x4 : Int))] := by rw [plsOf_snoc, List.drop_drop, HRR.out, HPLT.out, List.append_assoc]
              have e2 : x.drop (26 + 16 * (j + 1)) = rr.drop 16 := by rw [← HRR.out, List.drop_drop, show 26 + 16 * j + 16 = 26 + 16 * (j + 1) from by omega]
              refine ⟨j + 1, .slice A9 ((ps ++ plsOf j (x.drop 26)).length + 1) c9, by congr 1, by have := HLT.out; omega, by have := HLT.out; omega, ⟨by have := HK2.out; have := HLT.out; omega⟩, ⟨?_⟩⟩
              rw [e1, e2]
              have h12 := HR9.out
              simp only [List.length_append, List.length_cons, List.length_nil, Nat.zero_add] at h12 ⊢
              exact h12
        · obtain rfl : ct = j := by omega
          have hd0 : decide ((ct : Int) < (ct : Int)) = false := decide_eq_false (by omega)
          have hd0' : decide (ct < ct) = false := decide_eq_false (by omega)
          have HPL := Aside0.mk (show places x = some (sq, plsOf ct (x.drop 26)) by rw [places_long (by rw [HSQ.out.2, HX.out.2.2]; omega), HSQ.out.1, HSQ.out.2])
          have hlt2 : i < n := by have := HX.out.1; rw [HL.out] at this; exact this
          have hct5 : ct ≤ 400 := by omega
          go_wp2
          go_roundg (n - (i + 1))
          case measure => have := HK.out; omega
          case rel => exact ⟨i + 1, sq, vo, ps ++ plsOf ct (x.drop 26), by congr 1, by omega, ⟨by have := HK.out; omega⟩, ⟨said_next HX.out.1 HX.out.2.1 HS.out HPL.out⟩, ⟨by rw [List.length_append, plsOf_len]; have := HPN.out; omega⟩, ⟨by rw [← HSQ.out.1]; exact un8_lt _⟩, ⟨HRj.out.rq⟩⟩
    · obtain rfl : n = i := by omega
      have hd0 : decide ((n : Int) < (n : Int)) = false := decide_eq_false (by omega)
      have hd0' : decide (n < n) = false := decide_eq_false (by omega)
      have HSA := Aside0.mk (show said l (0, []) = some (q, ps) by have := HS.out; rwa [List.take_of_length_le (by rw [HL.out]; exact Nat.le_refl _)] at this)
      obtain ⟨Ai, ni, ci, rfl⟩ : ∃ Ai ni ci, vo = .slice Ai ni ci := by obtain ⟨Ai, ci, hv⟩ := Kd.R_slice HR.out.row; exact ⟨Ai, _, ci, hv⟩
      have hrd := Kd.R_reads' HR.out.row
      have HCI := Aside0.mk (show plK.C Wr Ai ni ps by rw [hrd.1]; exact hrd.2.2)
      have HNI := Aside0.mk (show ni ≤ 10000000 ∧ ni ≤ ci from ⟨by rw [hrd.1]; have := HPN.out; omega, hrd.2.1⟩)
      obtain ⟨s0, s1, s2, s3, s4, s5, f4, f5⟩ := HR.out.cells
      clear hrd
      go_wp2_with fail
      refine (rcenc_calls z zb b r HI.out.1 HI.out.2.1 HI.out.2.2.1 HI.out.2.2.2 q HQ.out Ai ni ci ps HNI.out.1 HNI.out.2 _ HCI.out (plc_ok HCI.out)).mono ?_
      rintro e w9 ⟨hb9, ⟨bs, v9, hen, rfl, hN⟩ | ⟨y, hen, hy, rfl⟩⟩
      case inr =>
        have HR9 := Aside0.mk (HR.out.below hb9)
        have HD := Aside0.mk (show decC (decide (Rt z zb b r)) z zb b.toNat l = none by unfold decC; rw [HSA.out]; dsimp only; rw [hen])
        have hy0 : (y != 0) = true := by rw [bne_iff_ne]; omega
        clear hb9 hen hy s0 s1 s2 s3 s4 s5 f4 f5 hd0 hd0'
        have HNIL := Aside0.mk (HR9.out.nil HG.out)
        obtain ⟨s0, s1, z0, z1⟩ := HR9.out.rs
        go_wp2
        clear s0 s1 z0 z1
        obtain ⟨hB9, q0, q1⟩ := HNIL.out
        refine bodyPost_ret (v := .tuple #[.agg #[.int .u64 0, .slice none 0 0], .int .i64 141]) (by simp [results, Try.results18, go_sem, q0, q1]) rfl ⟨hB9, .inr ⟨HD.out, rfl⟩⟩
      have HR9 := Aside0.mk (HR.out.below hb9)
      have HD := Aside0.mk (show decC (decide (Rt z zb b r)) z zb b.toNat l = if bs = l then some (q, ps) else none by unfold decC; rw [HSA.out]; dsimp only; rw [hen])
      obtain ⟨Ab, nb, cb, rfl, -, hCb⟩ := N_open hN
      have HNB := Aside0.mk (C_len hCb).1
      have HCB := Aside0.mk hCb
      have HC9 := Aside0.mk (Kd.C_below HC.out HR9.out.bel)
      clear hb9 hen hN hCb s0 s1 s2 s3 s4 s5 f4 f5 hd0 hd0'
      by_cases hnb : nb = n
      case neg =>
        have hx1 : ((nb : Int) != (n : Int)) = true := by rw [bne_iff_ne]; omega
        have HDN := Aside0.mk (show decC (decide (Rt z zb b r)) z zb b.toNat l = none by rw [HD.out, if_neg (fun h => hnb (by rw [← HNB.out, ← HL.out, h]))])
        clear hnb
        have HNIL := Aside0.mk (HR9.out.nil HG.out)
        obtain ⟨s0, s1, z0, z1⟩ := HR9.out.rs
        go_wp2
        clear s0 s1 z0 z1
        obtain ⟨hB9, q0, q1⟩ := HNIL.out
        refine bodyPost_ret (v := .tuple #[.agg #[.int .u64 0, .slice none 0 0], .int .i64 141]) (by simp [results, Try.results18, go_sem, q0, q1]) rfl ⟨hB9, .inr ⟨HDN.out, rfl⟩⟩
      subst hnb
      have hx1 : ((nb : Int) != (nb : Int)) = false := by rw [bne_eq_false_iff_eq]
      go_wp2
      clear hx1
      go_loopg [17] nb (fun g1 v17 wr => ∃ i m : Nat, v17 = .int .i64 (i : Int) ∧ i ≤ nb ∧ Aside0 (g1 + i = nb) ∧ Aside0 (bs.take i = l.take i) ∧ wr = w9.drewN m)
      case atStart => exact ⟨0, 0, rfl, by omega, ⟨rfl⟩, ⟨rfl⟩, rfl⟩
      case round =>
        obtain ⟨i, m, rfl, hi, HK3, HS3, rfl⟩ := hrel
        have HRm := Aside0.mk (HR9.out.below (pw_below_drewN (Below.refl _ _) m))
        by_cases hlt : i < nb
        · obtain ⟨pa, A0, c0, rfl, e0, hk0, hC0⟩ := bytes_at HCB.out i hlt
          obtain ⟨pb, B0, d0, rfl, f0, hj0, hD0⟩ := bytes_at HC9.out i hlt
          obtain ⟨x, hx⟩ : ∃ x, bs.getD i [] = x := ⟨_, rfl⟩
          obtain ⟨y, hy⟩ : ∃ y, l.getD i [] = y := ⟨_, rfl⟩
          rw [hx] at e0 hk0 hC0
          rw [hy] at f0 hj0 hD0
          have HX := Aside0.mk hx
          have HY := Aside0.mk hy
          have g1 := fun k : Nat => Dv.conv_bytes (w9.drewN k) A0 x.length c0 x (Kd.C_below hC0 (pw_below_drewN (Below.refl _ _) k))
          have g2 := fun k : Nat => Dv.conv_bytes (w9.drewN k) B0 y.length d0 y (Kd.C_below hD0 (pw_below_drewN (Below.refl _ _) k))
          have hlt' : (i : Int) < (nb : Int) := by omega
          have hd0 : decide ((i : Int) < (nb : Int)) = true := decide_eq_true hlt'
          clear hx hy hC0 hD0
          by_cases hxy : x = y
          · subst hxy
            go_wp2
            go_quiet (fail)
            go_wp2
            go_roundg (nb - (i + 1))
            case measure => have := HK3.out; omega
            case rel => exact ⟨i + 1, _, by congr 1, by omega, ⟨by have := HK3.out; omega⟩, ⟨Dv.take_same [] (by rw [HNB.out]; exact hlt) (by rw [HL.out]; exact hlt) HS3.out (by rw [HX.out, HY.out])⟩, rfl⟩
          · have hxb : (x == y) = false := by simpa using hxy
            have HDN := Aside0.mk (show decC (decide (Rt z zb b r)) z zb b.toNat l = none by rw [HD.out, if_neg (Dv.ne_at (xs := bs) (ys := l) (i := i) [] (by rw [HX.out, HY.out]; exact hxy))])
            clear hxy
            go_wp2
            go_quiet (fail)
            have HRq := Aside0.mk (HR9.out.below (pw_below_drewN (Below.refl _ _) (m + nq)))
            clear g1 g2 e0 f0
            have HNIL := Aside0.mk (HRq.out.nil HG.out)
            obtain ⟨s0, s1, z0, z1⟩ := HR9.out.rs
            go_wp2
            clear s0 s1 z0 z1
            obtain ⟨hB9, q0, q1⟩ := HNIL.out
            refine bodyPost_ret (v := .tuple #[.agg #[.int .u64 0, .slice none 0 0], .int .i64 141]) (by simp [results, Try.results18, go_sem, q0, q1]) rfl ⟨hB9, .inr ⟨HDN.out, rfl⟩⟩
        · obtain rfl : nb = i := by omega
          have hd0 : decide ((nb : Int) < (nb : Int)) = false := decide_eq_false (by omega)
          have HEQ := Aside0.mk (show bs = l by
            have e := HS3.out
            rwa [List.take_of_length_le (by rw [HNB.out]; exact Nat.le_refl _), List.take_of_length_le (by rw [HL.out]; exact Nat.le_refl _)] at e)
          have HDS := Aside0.mk (show decC (decide (Rt z zb b r)) z zb b.toNat l = some (q, ps) by rw [HD.out, if_pos HEQ.out])
          obtain ⟨s0, s1, z0, z1⟩ := HR9.out.rs
          obtain ⟨-, -, -, -, s4, s5, -, -⟩ := HR9.out.cells
          have HFI := Aside0.mk (HRm.out.fin HG.out)
          clear hlt
          go_wp2
          obtain ⟨hI, hB9, q0, q1⟩ := HFI.out
          have HI9 := Aside0.mk hI
          have HB10 := Aside0.mk hB9
          clear hI hB9 s0 s1 s4 s5 z0 z1
          refine bodyPost_ret (v := .tuple #[.agg #[.int .u64 (q : Int), .slice Ai ni ci], .int .i64 0]) (by simp [results, Try.results18, go_sem, q0, q1]) rfl ⟨HB10.out, .inl ⟨q, ps, .slice Ai ni ci, HDS.out, rfl, HI9.out⟩⟩
end Go.Proofs.Ytkmeipblgdahoaa.Ck
namespace Go.Proofs.Ytkmeipblgdahoaa.Ck
open Go.RowKit Go.Proofs.YtkmeipblgdahoaaW.PrintWords Go.Proofs.YtkmeipblgdahoaaW.PrintMore Go.Proofs.Ytkmeipblgdahoaa.Base Go.Proofs.Ytkmeipblgdahoaa.Shp
open Go.Proofs.Ytkmeipblgdahoaa.Dv (RDv Zn hasB hasB_true ZInv rshape_calls rat_calls rread_calls)
set_option maxRecDepth 100000
set_option linter.unusedVariables false
set_option linter.unusedSimpArgs false
abbrev Bst := Option ((Nat × List Plc) × Nat)
/-- A slot more is looked at. -/
def upd (o : Bst) (d : Option (Nat × List Plc)) (k : Nat) : Bst := match d with
  | none => o
  | some a => match o with
    | none => some (a, k)
    | some (b, s) => if b.1 < a.1 then some (a, k) else some (b, s)
theorem load_upd (a b : Option (Nat × List Plc)) : loadC a b = upd (upd none a 0) b 1 := by cases a <;> cases b <;> rfl
def bv (o : Bst) : Int := match o with | none => -1 | some x => (x.2 : Int)
def bq (o : Bst) : Nat := match o with | none => 0 | some x => x.1.1
def bl (o : Bst) : List Plc := match o with | none => [] | some x => x.1.2
def RLodP (w : World) (r : Bst) (e : Ending) (w' : World) : Prop :=
  Below w.heap.size w w' ∧ ((∃ q ps v s, r = some ((q, ps), s) ∧ s < 2 ∧ e = .returned (.tuple #[.agg #[.int .u64 (q : Int), v], .int .i64 ((s : Nat) : Int), .int .i64 0]) ∧ OwnP w' w.heap.size v ps) ∨
    (r = none ∧ e = .returned (.tuple #[.agg #[.int .u64 0, .slice none 0 0], .int .i64 0, .int .i64 142])))
/-- The result's box, the best one's. -/
structure RL (w W : World) (g : Nat) (o : Bst) (vo : Value) : Prop where
  bel : Below w.heap.size w W
  res : W.heap[g]? = some (.cells #[.int .u64 0, .slice none 0 0] 27 (0, 0))
  box : W.heap[g + 1]? = some (.cells #[.int .u64 (bq o : Int), vo] 27 (0, 0))
  row : OwnP W w.heap.size vo (bl o)
section
variable {w W W' : World} {g : Nat} {o o' : Bst} {vo v1 : Value}
theorem RL.below (h : RL w W g o vo) (hb : Below W.heap.size W W') : RL w W' g o vo := ⟨below_go h.bel hb, Rc.blk_old hb h.res, Rc.blk_old hb h.box, Kd.R_below h.row hb⟩
/-- Another one is the best. -/
theorem RL.put (h : RL w W g o vo) (hg : w.heap.size ≤ g) (hr : OwnP W w.heap.size v1 (bl o')) : RL w ((W.setCell ⟨g + 1, 0, none⟩ (.int .u64 (bq o' : Int))).setCell ⟨g + 1, 1, none⟩ v1) g o' v1 := by
  have b1 := blk_set h.box 0 (.int .u64 (bq o' : Int))
  have b2 := blk_set b1 1 v1
  exact ⟨(h.bel.setCell (by show w.heap.size ≤ g + 1; omega) _).setCell (by show w.heap.size ≤ g + 1; omega) _,
    (Below.heap_setCell _ ⟨g + 1, 1, none⟩ _ g (by simp)).trans ((Below.heap_setCell _ ⟨g + 1, 0, none⟩ _ g (by simp)).trans h.res), b2, Kd.R_set (Kd.R_set hr h.box plE_ne 0 _) b1 plE_ne 1 v1⟩
theorem RL.cells (h : RL w W g o vo) : W.cell? ⟨g, 0, none⟩ = some (.int .u64 0) ∧ W.cell? ⟨g, 1, none⟩ = some (.slice none 0 0) ∧ W.frozen? ⟨g, 0, none⟩ = false ∧ W.frozen? ⟨g, 1, none⟩ = false ∧
    W.cell? ⟨g + 1, 0, none⟩ = some (.int .u64 (bq o : Int)) ∧ W.cell? ⟨g + 1, 1, none⟩ = some vo ∧ W.frozen? ⟨g + 1, 0, none⟩ = false ∧ W.frozen? ⟨g + 1, 1, none⟩ = false := by
  have h1 := h.res
  have h2 := h.box
  exact ⟨by simp [World.cell?, h1], by simp [World.cell?, h1], by simp [World.frozen?, h1], by simp [World.frozen?, h1], by simp [World.cell?, h2], by simp [World.cell?, h2], by simp [World.frozen?, h2], by simp [World.frozen?, h2]⟩
/-- The best is laid into the result. -/
theorem RL.fin (h : RL w W g o vo) (hg : w.heap.size ≤ g) (q : Nat) (v : Value) : Below w.heap.size w ((W.setCell ⟨g, 0, none⟩ (.int .u64 (q : Int))).setCell ⟨g, 1, none⟩ v) ∧
    ((W.setCell ⟨g, 0, none⟩ (.int .u64 (q : Int))).setCell ⟨g, 1, none⟩ v).cell? ⟨g, 0, none⟩ = some (.int .u64 (q : Int)) ∧ ((W.setCell ⟨g, 0, none⟩ (.int .u64 (q : Int))).setCell ⟨g, 1, none⟩ v).cell? ⟨g, 1, none⟩ = some v ∧
    OwnP ((W.setCell ⟨g, 0, none⟩ (.int .u64 (q : Int))).setCell ⟨g, 1, none⟩ v) w.heap.size vo (bl o) := by
  have b1 := blk_set h.res 0 (.int .u64 (q : Int))
  have b2 := blk_set b1 1 v
  exact ⟨(h.bel.setCell (by show w.heap.size ≤ g; omega) _).setCell (by show w.heap.size ≤ g; omega) _, by simp [World.cell?, b2], by simp [World.cell?, b2], Kd.R_set (Kd.R_set h.row h.res plE_ne 0 _) b1 plE_ne 1 v⟩
end
def lst (da db : Option (Nat × List Plc)) : Nat → Bst
  | 0 => none
  | 1 => upd none da 0
  | _ => upd (upd none da 0) db 1
set_option maxHeartbeats 4000000 in
theorem rcload_calls (rb B : Nat) (R : Nat → Prop) (z r : Int) (zbn bn : Nat) (hrt : Rt z zbn bn r) (hr : IsI r) (zs : List Zn) (v : Value) (h2 : 2 ≤ zs.length)
    (w : World) (hD : RDv w rb B R z zbn bn r zs v) (hz : ZInv bn zbn zs) (hc : ∀ k, k < 2 → (zs.getD k ([], 0)).1.length ≤ 40) :
    Calls Try.prog 29 #[.pointer (some ⟨rb, 0, none⟩)] w (RLodP w (loadC (decC (decide (Rt z zbn bn r)) z zbn bn (zs.getD 0 ([], 0)).1) (decC (decide (Rt z zbn bn r)) z zbn bn (zs.getD 1 ([], 0)).1))) := by
  have HD := Aside0.mk hD
  have HZ := Aside0.mk hz
  have HRT := Aside0.mk hrt
  have HR := Aside0.mk hr
  have HCN := Aside0.mk hc
  have H2 := Aside0.mk h2
  have hbn : 64 ≤ bn ∧ bn ≤ 4096 := by have h3 := pow_range hrt.2.2.2.2.1; omega
  have HBN := Aside0.mk hbn
  have HSM := Aside0.mk (show ∀ p ∈ zs, ∀ x ∈ p.1, x.length ≤ 100000000 from fun p hp x hx => by have := (hz p hp).2.2 x hx; omega)
  have HZZ := Aside0.mk (show IsI z ∧ IsI (zbn : Int) ∧ IsI (bn : Int) by
    obtain ⟨a1, a2, a3, a4, a5, -, -⟩ := hrt
    exact ⟨⟨by omega, by omega⟩, ⟨by omega, by omega⟩, ⟨by omega, by omega⟩⟩)
  obtain ⟨da, hda⟩ : ∃ da, decC (decide (Rt z zbn bn r)) z zbn bn (zs.getD 0 ([], 0)).1 = da := ⟨_, rfl⟩
  obtain ⟨db, hdb⟩ : ∃ db, decC (decide (Rt z zbn bn r)) z zbn bn (zs.getD 1 ([], 0)).1 = db := ⟨_, rfl⟩
  have HDK := Aside0.mk (show ∀ k, k < 2 → upd (lst da db k) (decC (decide (Rt z zbn bn r)) z zbn bn (zs.getD k ([], 0)).1) k = lst da db (k + 1) by
    intro k hk
    match k, hk with
    | 0, _ => rw [hda]; rfl
    | 1, _ => rw [hdb]; rfl)
  rw [hda, hdb, load_upd]
  have HRL := Aside0.mk (show RL w ((w.alloc (.cells #[.int .u64 0, .slice none 0 0] 27)).alloc (.cells #[.int .u64 0, .slice none 0 0] 27)) w.heap.size none (.slice none 0 0) from
    ⟨below_alloc (alloc_below w _) _, blk_past (blk_here rfl), blk_here (by simp), Kd.R_nil _ _ _ _ _⟩)
  clear hD hz hrt hr hc hda hdb h2 hbn
  go_enter Try.func29, Try.ntmps29
  go_wp2
  obtain ⟨g, hg⟩ : ∃ g, w.heap.size = g := ⟨_, rfl⟩
  obtain ⟨W, hW⟩ : ∃ W, (w.alloc (.cells #[.int .u64 0, .slice none 0 0] 27)).alloc (.cells #[.int .u64 0, .slice none 0 0] 27) = W := ⟨_, rfl⟩
  rw [hW] at HRL ⊢
  rw [hg] at HRL ⊢
  have HG := Aside0.mk hg
  clear hW hg
  go_loopg [5, 7] 2 (fun g1 v5 v7 wr => ∃ (s : Nat) (o : Bst) (vo : Value), v5 = .int .i64 (bv o) ∧ v7 = .int .i64 (s : Int) ∧ s ≤ 2 ∧ Aside0 (g1 + s = 2) ∧ Aside0 (o = lst da db s) ∧ Aside0 (∀ x k, o = some (x, k) → k < 2) ∧ Aside0 (RL w wr g o vo))
  case atStart => exact ⟨0, none, _, rfl, rfl, by omega, ⟨rfl⟩, ⟨rfl⟩, ⟨fun x k h => by cases h⟩, HRL⟩
  case round =>
    obtain ⟨s, o, vo, rfl, rfl, hs2, HK, HO, HOL, HRr⟩ := hrel
    obtain ⟨Wr, rfl⟩ : ∃ Wr : World, Wr = wr := ⟨_, rfl⟩
    obtain ⟨bo, hbo⟩ : ∃ x, bv o = x := ⟨_, rfl⟩
    obtain ⟨qo, hqo⟩ : ∃ x, bq o = x := ⟨_, rfl⟩
    rw [hbo]
    by_cases hlt : s < 2
    · have hd0 : decide ((s : Int) < 2) = true := decide_eq_true (by omega)
      have hd0' : decide (s < 2) = true := decide_eq_true hlt
      have HSI := Aside0.mk (show IsI (s : Int) from ⟨by omega, by omega⟩)
      have HHB := Aside0.mk (hasB_true (n := zs.length) (i := (s : Int)) (by omega) (by have := H2.out; omega))
      obtain ⟨zk, hzk⟩ : ∃ zk, zs.getD s ([], 0) = zk := ⟨_, rfl⟩
      obtain ⟨hz1, hz2, hz3⟩ := (HZ.out.get (show s < zs.length by have := H2.out; omega))
      have hcn := HCN.out s hlt
      rw [hzk] at hz1 hz2 hz3 hcn
      have HZK := Aside0.mk hzk
      have HZ3 := Aside0.mk hz3
      obtain ⟨n, hn⟩ : ∃ n, zk.1.length = n := ⟨_, rfl⟩
      rw [hn] at hcn
      have HN := Aside0.mk hn
      have HDr := Aside0.mk (HD.out.below HRr.out.bel)
      clear hz1 hz2 hz3 hzk hn hs2
      go_wp2_with fail
      refine (rat_calls rb B R z zbn bn r zs v (s : Int) HSI.out _ HDr.out).mono ?_
      rintro e w1 ⟨⟨ha, -⟩ | ⟨-, rfl⟩, hb1⟩
      · rw [HHB.out] at ha; cases ha
      rw [Int.toNat_natCast, HZK.out, HN.out]
      have HR1 := Aside0.mk (HRr.out.below hb1)
      clear hb1
      go_wp2
      go_loopg [10, 11] n (fun g2 v10 v11 wi => ∃ i : Nat, v11 = .int .i64 (i : Int) ∧ i ≤ n ∧ Aside0 (g2 + i = n) ∧ Aside0 (Kd.N Dv.bytesK 39 wi w1.heap.size (fun j => w1.heap.size ≤ j) v10 (zk.1.take i)) ∧ Aside0 (Below w1.heap.size w1 wi))
      case atStart => exact ⟨0, rfl, Nat.zero_le _, ⟨rfl⟩, ⟨Kd.N_nil _ _ _ _ _⟩, ⟨Below.refl _ _⟩⟩
      case round =>
        obtain ⟨i, rfl, hi, HK2, HNr, HBr⟩ := hrel
        obtain ⟨Ao, no, co, rfl, -, -⟩ := N_open HNr.out
        by_cases hlt2 : i < n
        · have hd1 : decide ((i : Int) < (n : Int)) = true := decide_eq_true (by omega)
          have hd1' : decide (i < n) = true := decide_eq_true hlt2
          have HDi := Aside0.mk (HD.out.below (below_go HR1.out.bel HBr.out))
          go_wp2_with fail
          refine (rread_calls rb B R z zbn bn r zs v (s : Int) (i : Int) HSI.out ⟨by omega, by omega⟩ _ HDi.out HSM.out).mono ?_
          rintro e w5 ⟨⟨u, er, bs, rfl, hrd, hO⟩, hb5⟩
          rcases hrd with ⟨ha, -, -⟩ | ⟨-, ha, -, -⟩ | ⟨-, -, rfl, hbs⟩
          · rw [HHB.out] at ha; cases ha
          · rw [Int.toNat_natCast, HZK.out, HN.out] at ha
            omega
          simp only [Int.toNat_natCast] at hbs
          rw [HZK.out] at hbs
          subst hbs
          obtain ⟨A5, n5, c5, rfl, -, -⟩ := Base.Own.reads hO
          have HO5 := Aside0.mk hO
          have HB5 := Aside0.mk hb5
          have HN5 := Aside0.mk (Kd.N_below HNr.out hb5)
          have HTK := Aside0.mk (Rc.take_snocD zk.1 [] i (by rw [HN.out]; exact hlt2))
          clear hO hb5
          go_wp2_with (at_builtin; (refine Dv.app_blk w1.heap.size (fun j => w1.heap.size ≤ j) (fun j => some j = (Value.slice A5 n5 c5).ownBlock) (.tmp 39) (.tmp 41) rfl rfl (.slice Ao no co) (zk.1.take i) (zk.1.getD i []) A5 n5 c5 (Dv.own_FK HO5.out) (fun j hj e => by have h1 := Kd.N_lt HNr.out j e.symm; have h2 := Kd.R_base HO5.out j hj.symm; omega) rfl (by simp [Act.eval]) HN5.out (Nat.le_trans HBr.out.size HB5.out.size) (by rw [List.length_take]; omega) ?_); intro v6 w6 hN6 hg6; (have HN6 := Aside0.mk (Kd.N_mono hN6 (fun j hj => by rcases hj with h1 | h1 | h1; exact h1; exact Nat.le_trans HBr.out.size (Kd.R_base HO5.out j h1.symm); exact Nat.le_trans (Nat.le_trans HBr.out.size HB5.out.size) h1)); have HB6 := Aside0.mk ((below_go HBr.out HB5.out).grown hg6 (Nat.le_trans HBr.out.size HB5.out.size) (fun j hj => Kd.N_base HNr.out j hj)); clear hN6 hg6))
          go_wp2
          go_roundg (n - i - 1)
          case measure => have := HK2.out; omega
          case rel => exact ⟨i + 1, by congr 1, by omega, ⟨by have := HK2.out; omega⟩, ⟨by rw [HTK.out]; exact HN6.out⟩, HB6⟩
        · obtain rfl : i = n := by omega
          have hd1 : decide ((i : Int) < (i : Int)) = false := decide_eq_false (by omega)
          have hd1' : decide (i < i) = false := decide_eq_false (by omega)
          have HDi := Aside0.mk (HD.out.below (below_go HR1.out.bel HBr.out))
          have hall : zk.1.take i = zk.1 := by rw [List.take_of_length_le (by rw [HN.out]; exact Nat.le_refl _)]
          have HNA := Aside0.mk (show Dv.bytesK.C wr Ao no zk.1 by have h1 := Kd.N_reads' HNr.out; rw [hall] at h1; rw [h1.1]; exact h1.2.2)
          clear hall hlt2 hi
          go_wp2_with fail
          refine (rshape_calls rb B R z zbn (bn : Int) r zs v _ HDi.out).mono ?_
          rintro e w5 ⟨rfl, hb5⟩
          have HB5 := Aside0.mk hb5
          have hno : no ≤ 40 := by have h1 := (C_len HNA.out).1; have h2 := HN.out; omega
          have HUP := Aside0.mk (show upd o (decC (decide (Rt z zbn bn r)) z zbn bn zk.1) s = lst da db (s + 1) by have h1 := HDK.out s hlt; rw [HZK.out, ← HO.out] at h1; exact h1)
          have hg0 : w.heap.size ≤ g := Nat.le_of_eq HG.out
          have HGL := Aside0.mk hg0
          have HS2 := Aside0.mk hlt
          have hs2 := HS2.out
          clear hb5 hg0 hd1 hd1' hd0 hd0' hlt
          go_wp2_with fail
          refine (rcdec_calls z zbn (bn : Int) r HZZ.out.1 HZZ.out.2.1 HZZ.out.2.2 HR.out Ao no co zk.1 _ (Kd.C_below HNA.out HB5.out) hno (fun x hx => by rw [HZ3.out x hx]; have := HBN.out; omega)).mono ?_
          rw [Int.toNat_natCast]
          rintro e w6 ⟨hb6, ⟨q, ps, v', hde, rfl, hP⟩ | ⟨hde, rfl⟩⟩
          · have hup := HUP.out
            rw [hde] at hup
            have HUP2 := Aside0.mk hup
            obtain ⟨Ap, np, cp, rfl⟩ : ∃ Ap np cp, v' = .slice Ap np cp := by obtain ⟨Ap, cp, hv⟩ := Kd.R_slice hP; exact ⟨Ap, _, cp, hv⟩
            have hb16 : Below w1.heap.size w1 w6 := below_go HBr.out (below_go HB5.out hb6)
            have hR6 := HR1.out.below hb16
            have hP6 : OwnP w6 w.heap.size (.slice Ap np cp) ps := Kd.R_lower hP (by have h1 := HR1.out.bel.size; have h2 := HBr.out.size; have h3 := HB5.out.size; omega)
            obtain ⟨W7, hW7⟩ : ∃ W7, w6.alloc (.cells #[.int .u64 (q : Int), .slice Ap np cp] 27) = W7 := ⟨_, rfl⟩
            have hb7 : Below w6.heap.size w6 W7 := by rw [← hW7]; exact alloc_below _ _
            have hs7 : W7.heap[w6.heap.size]? = some (.cells #[.int .u64 (q : Int), .slice Ap np cp] 27 (0, 0)) := by rw [← hW7]; exact blk_here rfl
            have HR7 := Aside0.mk (hR6.below hb7)
            have HP7 := Aside0.mk (show OwnP W7 w.heap.size (.slice Ap np cp) ps from Kd.R_below hP6 hb7)
            obtain ⟨a0, a1, -, -⟩ := st_cells (by rfl) hs7
            obtain ⟨-, -, -, -, b0, b1, z0, z1⟩ := HR7.out.cells
            have HW7 := Aside0.mk hW7
            have HBO := Aside0.mk hbo
            have HQO := Aside0.mk hqo
            rw [hqo] at b0
            clear hP hb6 hb16 hR6 hP6 hb7 hs7 hup hde hbo hqo hW7
            rw [← HW7.out] at a0 a1 b0 b1 z0 z1
            by_cases hput : bo < 0 ∨ (¬ bo < 0 ∧ qo < q)
            · have HPUT := Aside0.mk (HR7.out.put (o' := some ((q, ps), s)) HGL.out HP7.out)
              have HNEW := Aside0.mk (show some ((q, ps), s) = lst da db (s + 1) by
                rw [← HUP2.out]
                cases o with
                | none => rfl
                | some x =>
                  obtain ⟨b, s0⟩ := x
                  have e1 : (s0 : Int) = bo := HBO.out
                  have e2 : b.1 = qo := HQO.out
                  show _ = if b.1 < q then _ else _
                  rw [if_pos (by omega)])
              have HOL2 := Aside0.mk (show ∀ x k, some ((q, ps), s) = some (x, k) → k < 2 from fun x k h => by cases h; exact HS2.out)
              rcases hput with hneg | ⟨hpos, hlt⟩
              · have hd : decide (bo < 0) = true := decide_eq_true hneg
                clear hneg
                go_wp2
                rw [HW7.out]
                go_roundg (2 - s - 1)
                case measure => have := HK.out; have := HS2.out; omega
                case rel => exact ⟨s + 1, some ((q, ps), s), _, rfl, by congr 1, by have := HS2.out; omega, ⟨by have := HK.out; have := HS2.out; omega⟩, HNEW, HOL2, HPUT⟩
              · have hd : decide (bo < 0) = false := decide_eq_false hpos
                have hd2 : decide ((qo : Int) < (q : Int)) = true := decide_eq_true (by omega)
                have hd2' : decide (qo < q) = true := decide_eq_true hlt
                clear hpos hlt
                go_wp2
                rw [HW7.out]
                go_roundg (2 - s - 1)
                case measure => have := HK.out; have := HS2.out; omega
                case rel => exact ⟨s + 1, some ((q, ps), s), _, rfl, by congr 1, by have := HS2.out; omega, ⟨by have := HK.out; have := HS2.out; omega⟩, HNEW, HOL2, HPUT⟩
            · have hpos : ¬ bo < 0 := fun h => hput (.inl h)
              have hge : ¬ qo < q := fun h => hput (.inr ⟨hpos, h⟩)
              have hd : decide (bo < 0) = false := decide_eq_false hpos
              have hd2 : decide ((qo : Int) < (q : Int)) = false := decide_eq_false (by omega)
              have hd2' : decide (qo < q) = false := decide_eq_false hge
              have HNEW := Aside0.mk (show o = lst da db (s + 1) by
                rw [← HUP2.out]
                cases o with
                | none => exact absurd (show bo < 0 by rw [← HBO.out]; decide) hpos
                | some x =>
                  obtain ⟨b, s0⟩ := x
                  have e2 : b.1 = qo := HQO.out
                  show _ = if b.1 < q then _ else _
                  rw [if_neg (by omega)])
              clear hput hpos hge
              go_wp2
              rw [HW7.out]
              go_roundg (2 - s - 1)
              case measure => have := HK.out; have := HS2.out; omega
              case rel => exact ⟨s + 1, o, vo, by rw [HBO.out], by congr 1, by have := HS2.out; omega, ⟨by have := HK.out; have := HS2.out; omega⟩, HNEW, HOL, HR7⟩
          · have hup := HUP.out
            rw [hde] at hup
            have HNEW := Aside0.mk (show o = lst da db (s + 1) from hup)
            have HR7 := Aside0.mk ((HR1.out.below (below_go HBr.out (below_go HB5.out hb6))).below (alloc_below w6 (.cells #[.int .u64 0, .slice none 0 0] 27)))
            have HBO := Aside0.mk hbo
            clear hb6 hde hup hbo hqo
            go_wp2
            go_roundg (2 - s - 1)
            case measure => have := HK.out; have := HS2.out; omega
            case rel => exact ⟨s + 1, o, vo, by rw [HBO.out], by congr 1, by have := HS2.out; omega, ⟨by have := HK.out; have := HS2.out; omega⟩, HNEW, HOL, HR7⟩
    · obtain rfl : s = 2 := by omega
      have hd0 : decide (((2 : Nat) : Int) < 2) = false := decide_eq_false (by omega)
      have hd0' : decide (2 < 2) = false := decide_eq_false (by omega)
      obtain ⟨r0, r1, z0, z1, b0, b1, -, -⟩ := HRr.out.cells
      rw [hqo] at b0
      have HGL := Aside0.mk (Nat.le_of_eq HG.out)
      cases o with
      | none =>
        obtain rfl : (-1 : Int) = bo := hbo
        have hl := HO.out
        have HL := Aside0.mk (show upd (upd none da 0) db 1 = none from hl.symm)
        have HFIN := Aside0.mk (show ∃ W9, (Wr.setCell ⟨g, 0, none⟩ (.int .u64 0)).setCell ⟨g, 1, none⟩ (.slice none 0 0) = W9 ∧ Below w.heap.size w W9 ∧ W9.cell? ⟨g, 0, none⟩ = some (.int .u64 0) ∧ W9.cell? ⟨g, 1, none⟩ = some (.slice none 0 0) from
          have h := HRr.out.fin HGL.out 0 (.slice none 0 0)
          ⟨_, rfl, h.1, h.2.1, h.2.2.1⟩)
        clear hl b0 b1
        go_wp2
        clear r0 r1 z0 z1
        obtain ⟨W9, h9, hB9, q0, q1⟩ := HFIN.out
        rw [h9]
        clear h9
        refine bodyPost_ret (v := .tuple #[.agg #[.int .u64 0, .slice none 0 0], .int .i64 0, .int .i64 142]) (by simp [results, Try.results29, go_sem, q0, q1]) rfl ?_
        exact ⟨hB9, .inr ⟨HL.out, rfl⟩⟩
      | some x =>
        obtain ⟨⟨q, ps⟩, s0⟩ := x
        obtain rfl : (s0 : Int) = bo := hbo
        obtain rfl : q = qo := hqo
        have hl := HO.out
        have hs0 : s0 < 2 := HOL.out _ _ rfl
        have HL := Aside0.mk (show upd (upd none da 0) db 1 = some ((q, ps), s0) from hl.symm)
        have hd1 : decide ((s0 : Int) < 0) = false := decide_eq_false (by omega)
        obtain ⟨Ap, np, cp, rfl⟩ : ∃ Ap np cp, vo = .slice Ap np cp := by obtain ⟨Ap, cp, hv⟩ := Kd.R_slice HRr.out.row; exact ⟨Ap, _, cp, hv⟩
        have HFIN := Aside0.mk (show ∃ W9, (Wr.setCell ⟨g, 0, none⟩ (.int .u64 (q : Int))).setCell ⟨g, 1, none⟩ (.slice Ap np cp) = W9 ∧ Below w.heap.size w W9 ∧ W9.cell? ⟨g, 0, none⟩ = some (.int .u64 (q : Int)) ∧ W9.cell? ⟨g, 1, none⟩ = some (.slice Ap np cp) ∧ OwnP W9 w.heap.size (.slice Ap np cp) ps from
          have h := HRr.out.fin HGL.out q (.slice Ap np cp)
          ⟨_, rfl, h.1, h.2.1, h.2.2.1, h.2.2.2⟩)
        clear hl
        go_wp2
        clear r0 r1 z0 z1 b0 b1
        obtain ⟨W9, h9, hB9, q0, q1, hP9⟩ := HFIN.out
        rw [h9]
        clear h9
        refine bodyPost_ret (v := .tuple #[.agg #[.int .u64 (q : Int), .slice Ap np cp], .int .i64 (s0 : Int), .int .i64 0]) (by simp [results, Try.results29, go_sem, q0, q1]) rfl ?_
        exact ⟨hB9, .inl ⟨q, ps, _, s0, HL.out, hs0, rfl, hP9⟩⟩
end Go.Proofs.Ytkmeipblgdahoaa.Ck
namespace Go.Proofs.Ytkmeipblgdahoaa.Ck
open Go.RowKit Go.Proofs.YtkmeipblgdahoaaW.PrintWords Go.Proofs.YtkmeipblgdahoaaW.PrintMore Go.Proofs.Ytkmeipblgdahoaa.Base Go.Proofs.Ytkmeipblgdahoaa.Shp
open Go.Proofs.Ytkmeipblgdahoaa.Dv (Zn Chg Dev RDv Two zoneK open_gen open_nil ropen_gen ropen_nil FitZ ZInv flat)
set_option maxRecDepth 100000
set_option linter.unusedVariables false
set_option linter.unusedSimpArgs false
def Good (z r : Int) (zb b : Int) (n : Nat) (zs : List Zn) : Prop := Rt z zb b r ∧ (n : Int) = z ∧ ∀ p ∈ zs, FitZ zb b p
theorem open_ok {z r zb b : Int} {n : Nat} {zs : List Zn} (hg : Good z r zb b n zs) (hI : IsI z ∧ IsI zb ∧ IsI b ∧ IsI r) (A : Option Addr) (c : Nat) (w : World) (hC : zoneK.C w A n zs) :
    Calls Try.prog 34 #[.agg #[.int .i64 z, .int .i64 zb, .int .i64 b, .int .i64 r], .slice A n c] w
      fun e w' => ∃ xb v, e = .returned (.pointer (some ⟨xb, 0, none⟩)) ∧ Dev w' xb w.heap.size (fun k => w.heap.size ≤ k ∧ k < w'.heap.size) z zb b r (zs.map flat) v ∧ w.heap.size ≤ xb ∧ Below w.heap.size w w' := by
  obtain ⟨hrt, rfl, hf⟩ := hg
  obtain ⟨bn, rfl⟩ : ∃ bn : Nat, b = (bn : Int) := ⟨b.toNat, by have := pow_range hrt.2.2.2.2.1; omega⟩
  obtain ⟨zbn, rfl⟩ : ∃ zbn : Nat, zb = (zbn : Int) := ⟨zb.toNat, by have := hrt.2.2.1; omega⟩
  have hbn := pow_range hrt.2.2.2.2.1
  have hzb := hrt.2.2.2.1
  refine (open_gen n zbn bn r hrt hI (by omega) (by omega) (by omega) A n c zs (C_len hC).1 w hC).mono ?_
  rintro e w' ⟨⟨-, xb, v, rfl, hD, hxb⟩ | ⟨hn, -⟩, hb⟩
  · exact ⟨xb, v, rfl, hD.tight (fun k h1 _ h3 => ⟨h1, h3⟩), hxb, hb⟩
  · exact absurd hf hn
theorem open_no {z r zb b : Int} {n : Nat} {zs : List Zn} (hg : ¬ Good z r zb b n zs) (hI : IsI z ∧ IsI zb ∧ IsI b ∧ IsI r) (A : Option Addr) (c : Nat) (w : World) (hC : zoneK.C w A n zs) :
    Calls Try.prog 34 #[.agg #[.int .i64 z, .int .i64 zb, .int .i64 b, .int .i64 r], .slice A n c] w
      fun e w' => e = .returned (.pointer none) ∧ Below w.heap.size w w' := by
  by_cases hrt : Rt z zb b r
  case neg => exact open_nil z zb b r hI A n c (.inl hrt) w
  by_cases hn : (n : Int) = z
  case neg => exact open_nil z zb b r hI A n c (.inr hn) w
  subst hn
  obtain ⟨bn, rfl⟩ : ∃ bn : Nat, b = (bn : Int) := ⟨b.toNat, by have := pow_range hrt.2.2.2.2.1; omega⟩
  obtain ⟨zbn, rfl⟩ : ∃ zbn : Nat, zb = (zbn : Int) := ⟨zb.toNat, by have := hrt.2.2.1; omega⟩
  have hbn := pow_range hrt.2.2.2.2.1
  have hzb := hrt.2.2.2.1
  refine (open_gen n zbn bn r hrt hI (by omega) (by omega) (by omega) A n c zs (C_len hC).1 w hC).mono ?_
  rintro e w' ⟨⟨hf, -⟩ | ⟨-, rfl⟩, hb⟩
  · exact absurd ⟨hrt, rfl, hf⟩ hg
  · exact ⟨rfl, hb⟩
theorem ropen_ok {z r zb b : Int} {n : Nat} {zs : List Zn} (hg : Good z r zb b n zs) (hI : IsI z ∧ IsI zb ∧ IsI b ∧ IsI r) (A : Option Addr) (c : Nat) (w : World) (hC : zoneK.C w A n zs) :
    Calls Try.prog 56 #[.agg #[.int .i64 z, .int .i64 zb, .int .i64 b, .int .i64 r], .slice A n c] w
      fun e w' => ∃ rb v, e = .returned (.pointer (some ⟨rb, 0, none⟩)) ∧ RDv w' rb w.heap.size (fun k => w.heap.size ≤ k) z zb b r zs v ∧ w.heap.size ≤ rb ∧ Below w.heap.size w w' := by
  obtain ⟨hrt, rfl, hf⟩ := hg
  obtain ⟨bn, rfl⟩ : ∃ bn : Nat, b = (bn : Int) := ⟨b.toNat, by have := pow_range hrt.2.2.2.2.1; omega⟩
  obtain ⟨zbn, rfl⟩ : ∃ zbn : Nat, zb = (zbn : Int) := ⟨zb.toNat, by have := hrt.2.2.1; omega⟩
  have hbn := pow_range hrt.2.2.2.2.1
  have hzb := hrt.2.2.2.1
  have hzn := hrt.2.1
  refine (ropen_gen n zbn bn r hrt hI (by omega) (by omega) (by omega) (by omega) A n c zs (C_len hC).1 w hC).mono ?_
  rintro e w' ⟨⟨-, rb, v, rfl, hD, hxb⟩ | ⟨hn, -⟩, hb⟩
  · exact ⟨rb, v, rfl, hD, hxb, hb⟩
  · exact absurd hf hn
theorem ropen_no {z r zb b : Int} {n : Nat} {zs : List Zn} (hg : ¬ Good z r zb b n zs) (hI : IsI z ∧ IsI zb ∧ IsI b ∧ IsI r) (A : Option Addr) (c : Nat) (w : World) (hC : zoneK.C w A n zs) :
    Calls Try.prog 56 #[.agg #[.int .i64 z, .int .i64 zb, .int .i64 b, .int .i64 r], .slice A n c] w
      fun e w' => e = .returned (.pointer none) ∧ Below w.heap.size w w' := by
  by_cases hrt : Rt z zb b r
  case neg => exact ropen_nil z zb b r hI A n c (.inl hrt) w
  by_cases hn : (n : Int) = z
  case neg => exact ropen_nil z zb b r hI A n c (.inr hn) w
  subst hn
  obtain ⟨bn, rfl⟩ : ∃ bn : Nat, b = (bn : Int) := ⟨b.toNat, by have := pow_range hrt.2.2.2.2.1; omega⟩
  obtain ⟨zbn, rfl⟩ : ∃ zbn : Nat, zb = (zbn : Int) := ⟨zb.toNat, by have := hrt.2.2.1; omega⟩
  have hbn := pow_range hrt.2.2.2.2.1
  have hzb := hrt.2.2.2.1
  have hzn := hrt.2.1
  refine (ropen_gen n zbn bn r hrt hI (by omega) (by omega) (by omega) (by omega) A n c zs (C_len hC).1 w hC).mono ?_
  rintro e w' ⟨⟨hf, -⟩ | ⟨-, rfl⟩, hb⟩
  · exact absurd ⟨hrt, rfl, hf⟩ hg
  · exact ⟨rfl, hb⟩
/-- Both stand side by side. -/
theorem two_new {w w1 w2 : World} {xb rb : Nat} {z zb b r : Int} {zs : List Zn} {v vr : Value} (h1 : Below w.heap.size w w1) (hD : Dev w1 xb w.heap.size (fun k => w.heap.size ≤ k ∧ k < w1.heap.size) z zb b r (zs.map flat) v) (hx : w.heap.size ≤ xb)
    (hR : RDv w2 rb w1.heap.size (fun k => w1.heap.size ≤ k) z zb b r zs vr) (hr : w1.heap.size ≤ rb) (h2 : Below w1.heap.size w1 w2) :
    Two w2 xb rb w.heap.size z zb b r (zs.map flat) zs v vr (fun k => w.heap.size ≤ k ∧ k < w1.heap.size) (fun k => w1.heap.size ≤ k ∧ k < w2.heap.size) := by
  have hxl : xb < w1.heap.size := (Array.getElem?_eq_some_iff.1 hD.blk).1
  have hs1 := h1.size
  have hs2 := h2.size
  exact ⟨hD.below h2, ⟨hR.blk, Kd.N_lower (Kd.N_mono (Kd.N_bound hR.row) (fun k hk => hk)) hs1⟩, fun k hk => ⟨hk.1, by omega⟩, fun k hk => ⟨by omega, hk.2⟩, fun k hk hk2 => by omega, by omega, fun hk => by omega, fun hk => by omega, ⟨hx, by omega⟩⟩
set_option maxHeartbeats 2000000 in
theorem devices_ok {z r zb b : Int} {n : Nat} {zs : List Zn} (hg : Good z r zb b n zs) (hI : IsI z ∧ IsI zb ∧ IsI b ∧ IsI r) (A : Option Addr) (c : Nat) (w : World) (hC : zoneK.C w A n zs) :
    Calls Try.prog 28 #[.agg #[.int .i64 z, .int .i64 zb, .int .i64 b, .int .i64 r], .slice A n c] w
      fun e w' => ∃ xb rb B v vr D R, e = .returned (.tuple #[.pointer (some ⟨xb, 0, none⟩), .pointer (some ⟨rb, 0, none⟩)]) ∧ w.heap.size ≤ B ∧ Two w' xb rb B z zb b r (zs.map flat) zs v vr D R ∧ Below w.heap.size w w' := by
  have HC := Aside0.mk hC
  have HG := Aside0.mk hg
  have HI := Aside0.mk hI
  have HA := Aside0.mk (alloc_below w (.cells #[.int .i64 z, .int .i64 zb, .int .i64 b, .int .i64 r] 23))
  have HB0 := Aside0.mk (show (w.alloc (.cells #[.int .i64 z, .int .i64 zb, .int .i64 b, .int .i64 r] 23)).heap[w.heap.size]? = some (.cells #[.int .i64 z, .int .i64 zb, .int .i64 b, .int .i64 r] 23 (0, 0)) from blk_here rfl)
  clear hC hg hI
  go_enter Try.func28, Try.ntmps28
  go_upto_region 1 with fail
  obtain ⟨g, hg⟩ : ∃ g, w.heap.size = g := ⟨_, rfl⟩
  obtain ⟨W, hW⟩ : ∃ W, w.alloc (.cells #[.int .i64 z, .int .i64 zb, .int .i64 b, .int .i64 r] 23) = W := ⟨_, rfl⟩
  rw [hW] at HA HB0 ⊢
  rw [hg] at HB0 ⊢
  have HGE := Aside0.mk (Nat.le_of_eq hg)
  have HS := Aside0.mk (shc4 HB0.out)
  clear hW hg
  go_region_held3 (fun w' => w'.cell? ⟨g, 0, none⟩ = some (.int .i64 z) ∧ w'.cell? ⟨g, 1, none⟩ = some (.int .i64 zb) ∧ w'.cell? ⟨g, 2, none⟩ = some (.int .i64 b) ∧ w'.cell? ⟨g, 3, none⟩ = some (.int .i64 r))
    (first | exact HS.out | exact shc4_below (below_drew (Below.refl _ _)) HS.out | exact shc4_below (below_go (below_drew (Below.refl _ _)) hb8) HS.out | exact shc4_below (below_go (below_drew (Below.refl _ _)) (below_go hb8 hb9)) HS.out)
    (first
      | (go_at_call 34; (with_reducible refine (open_ok HG.out HI.out A c _ (Kd.C_below HC.out (below_drew HA.out))).mono ?_); rintro e w8 ⟨xb, v8, rfl, hD8, hx8, hb8⟩)
      | (go_at_call 56; (with_reducible refine (ropen_ok HG.out HI.out A c _ (Kd.C_below HC.out (below_go (below_drew HA.out) hb8))).mono ?_); rintro e w9 ⟨rb, v9, rfl, hD9, hx9, hb9⟩))
  have HT := Aside0.mk (two_new hb8 hD8 hx8 hD9 hx9 hb9)
  have HB9 := Aside0.mk (below_go (below_drew HA.out) (below_go hb8 hb9))
  have HBS := Aside0.mk (show w.heap.size ≤ W.drew.heap.size from (below_drew HA.out).size)
  clear hb8 hD8 hx8 hD9 hx9 hb9
  go_wp2
  go_ret2
  exact ⟨_, _, _, _, _, _, _, rfl, HBS.out, HT.out, HB9.out⟩
set_option maxHeartbeats 2000000 in
theorem devices_no {z r zb b : Int} {n : Nat} {zs : List Zn} (hg : ¬ Good z r zb b n zs) (hI : IsI z ∧ IsI zb ∧ IsI b ∧ IsI r) (A : Option Addr) (c : Nat) (w : World) (hC : zoneK.C w A n zs) :
    Calls Try.prog 28 #[.agg #[.int .i64 z, .int .i64 zb, .int .i64 b, .int .i64 r], .slice A n c] w
      fun e w' => e = .returned (.tuple #[.pointer none, .pointer none]) ∧ Below w.heap.size w w' := by
  have HC := Aside0.mk hC
  have HG := Aside0.mk hg
  have HI := Aside0.mk hI
  have HA := Aside0.mk (alloc_below w (.cells #[.int .i64 z, .int .i64 zb, .int .i64 b, .int .i64 r] 23))
  have HB0 := Aside0.mk (show (w.alloc (.cells #[.int .i64 z, .int .i64 zb, .int .i64 b, .int .i64 r] 23)).heap[w.heap.size]? = some (.cells #[.int .i64 z, .int .i64 zb, .int .i64 b, .int .i64 r] 23 (0, 0)) from blk_here rfl)
  clear hC hg hI
  go_enter Try.func28, Try.ntmps28
  go_upto_region 1 with fail
  obtain ⟨g, hg⟩ : ∃ g, w.heap.size = g := ⟨_, rfl⟩
  obtain ⟨W, hW⟩ : ∃ W, w.alloc (.cells #[.int .i64 z, .int .i64 zb, .int .i64 b, .int .i64 r] 23) = W := ⟨_, rfl⟩
  rw [hW] at HA HB0 ⊢
  rw [hg] at HB0 ⊢
  have HGE := Aside0.mk (Nat.le_of_eq hg)
  have HS := Aside0.mk (shc4 HB0.out)
  clear hW hg
  go_region_held3 (fun w' => w'.cell? ⟨g, 0, none⟩ = some (.int .i64 z) ∧ w'.cell? ⟨g, 1, none⟩ = some (.int .i64 zb) ∧ w'.cell? ⟨g, 2, none⟩ = some (.int .i64 b) ∧ w'.cell? ⟨g, 3, none⟩ = some (.int .i64 r))
    (first | exact HS.out | exact shc4_below (below_drew (Below.refl _ _)) HS.out | exact shc4_below (below_go (below_drew (Below.refl _ _)) hb8) HS.out | exact shc4_below (below_go (below_drew (Below.refl _ _)) (below_go hb8 hb9)) HS.out)
    (first
      | (go_at_call 34; (with_reducible refine (open_no HG.out HI.out A c _ (Kd.C_below HC.out (below_drew HA.out))).mono ?_); rintro e w8 ⟨rfl, hb8⟩)
      | (go_at_call 56; (with_reducible refine (ropen_no HG.out HI.out A c _ (Kd.C_below HC.out (below_go (below_drew HA.out) hb8))).mono ?_); rintro e w9 ⟨rfl, hb9⟩))
  have HB9 := Aside0.mk (below_go (below_drew HA.out) (below_go hb8 hb9))
  clear hb8 hb9
  go_wp2
  go_ret2
  exact ⟨rfl, HB9.out⟩
/-- Both devices, two boxes of states: all apart. -/
structure TZ (w0 w : World) (xb rb B ga gb : Nat) (z r : Int) (zbn bn : Nat) (zs zr : List Zn) (v vr : Value) (D R : Nat → Prop) (x1 y1 x2 y2 : Value) : Prop where
  two : Two w xb rb B z zbn bn r (zs.map flat) zr v vr D R
  inv : ZInv bn zbn zs
  bel : Below w0.heap.size w0 w
  base : w0.heap.size ≤ B
  ba : w.heap[ga]? = some (.cells #[x1, y1] 27 (0, 0))
  bb : w.heap[gb]? = some (.cells #[x2, y2] 27 (0, 0))
  sep : ¬ D ga ∧ ¬ R ga ∧ ¬ D gb ∧ ¬ R gb ∧ ga ≠ xb ∧ ga ≠ rb ∧ gb ≠ xb ∧ gb ≠ rb ∧ ga ≠ gb ∧ w0.heap.size ≤ ga ∧ w0.heap.size ≤ gb
section
variable {w0 w w1 : World} {xb rb B ga gb : Nat} {z r : Int} {zbn bn : Nat} {zs zr zs' : List Zn} {v vr : Value} {D R : Nat → Prop} {x1 y1 x2 y2 : Value}
theorem TZ.below (h : TZ w0 w xb rb B ga gb z r zbn bn zs zr v vr D R x1 y1 x2 y2) (hb : Below w.heap.size w w1) : TZ w0 w1 xb rb B ga gb z r zbn bn zs zr v vr D R x1 y1 x2 y2 :=
  ⟨h.two.below hb, h.inv, below_go h.bel hb, h.base, Rc.blk_old hb h.ba, Rc.blk_old hb h.bb, h.sep⟩
theorem TZ.new (h : Two w xb rb B z zbn bn r (zs.map flat) zr v vr D R) (hi : ZInv bn zbn zs) (hb0 : Below w0.heap.size w0 w) (hB : w0.heap.size ≤ B) (hb : Below w.heap.size w w1) (ha : w.heap.size ≤ ga) (hg : w.heap.size ≤ gb) (hn : ga ≠ gb)
    (h1 : w1.heap[ga]? = some (.cells #[x1, y1] 27 (0, 0))) (h2 : w1.heap[gb]? = some (.cells #[x2, y2] 27 (0, 0))) : TZ w0 w1 xb rb B ga gb z r zbn bn zs zr v vr D R x1 y1 x2 y2 := by
  have h3 := h.xlt
  have h4 := hb0.size
  exact ⟨h.below hb, hi, below_go hb0 hb, hB, h1, h2, fun hk => by have := (h.dl _ hk).2; omega, fun hk => by have := (h.rl _ hk).2; omega, fun hk => by have := (h.dl _ hk).2; omega, fun hk => by have := (h.rl _ hk).2; omega, by omega, by omega, by omega, by omega, hn, by omega, by omega⟩
theorem TZ.dev (h : TZ w0 w xb rb B ga gb z r zbn bn zs zr v vr D R x1 y1 x2 y2) (hD : Dev w1 xb B (fun k => D k ∨ w.heap.size ≤ k) z zbn bn r (zs'.map flat) v) (hc : Chg w w1 (fun k => D k ∨ w.heap.size ≤ k)) (hi : ZInv bn zbn zs') :
    TZ w0 w1 xb rb B ga gb z r zbn bn zs' zr v vr (fun k => (D k ∨ w.heap.size ≤ k) ∧ B ≤ k ∧ k < w1.heap.size) R x1 y1 x2 y2 := by
  obtain ⟨s1, s2, s3, s4, s5, s6, s7, s8, s9, s10, s11⟩ := h.sep
  have la := (Array.getElem?_eq_some_iff.1 h.ba).1
  have lb := (Array.getElem?_eq_some_iff.1 h.bb).1
  refine ⟨h.two.devop hD hc, hi, Below.trans h.bel (hc.to_below h.bel.size (fun k hk => hk.elim (fun h1 => Nat.le_trans h.base (h.two.dl k h1).1) (fun h1 => Nat.le_trans h.bel.size h1))), h.base, ?_, ?_, fun hk => hk.1.elim s1 (fun h1 => by omega), s2, fun hk => hk.1.elim s3 (fun h1 => by omega), s4, s5, s6, s7, s8, s9, s10, s11⟩
  · exact (hc.kept.2 ga la (fun hk => hk.elim s1 (fun h1 => by omega))).trans h.ba
  · exact (hc.kept.2 gb lb (fun hk => hk.elim s3 (fun h1 => by omega))).trans h.bb
theorem TZ.ref (h : TZ w0 w xb rb B ga gb z r zbn bn zs zr v vr D R x1 y1 x2 y2) (hD : RDv w1 rb B (fun k => R k ∨ w.heap.size ≤ k) z zbn bn r zs' vr) (hc : Chg w w1 (fun k => R k ∨ w.heap.size ≤ k)) :
    TZ w0 w1 xb rb B ga gb z r zbn bn zs zs' v vr D (fun k => (R k ∨ w.heap.size ≤ k) ∧ B ≤ k ∧ k < w1.heap.size) x1 y1 x2 y2 := by
  obtain ⟨s1, s2, s3, s4, s5, s6, s7, s8, s9, s10, s11⟩ := h.sep
  have la := (Array.getElem?_eq_some_iff.1 h.ba).1
  have lb := (Array.getElem?_eq_some_iff.1 h.bb).1
  refine ⟨h.two.refop hD hc, h.inv, Below.trans h.bel (hc.to_below h.bel.size (fun k hk => hk.elim (fun h1 => Nat.le_trans h.base (h.two.rl k h1).1) (fun h1 => Nat.le_trans h.bel.size h1))), h.base, ?_, ?_, s1, fun hk => hk.1.elim s2 (fun h1 => by omega), s3, fun hk => hk.1.elim s4 (fun h1 => by omega), s5, s6, s7, s8, s9, s10, s11⟩
  · exact (hc.kept.2 ga la (fun hk => hk.elim s2 (fun h1 => by omega))).trans h.ba
  · exact (hc.kept.2 gb lb (fun hk => hk.elim s4 (fun h1 => by omega))).trans h.bb
theorem TZ.far (h : TZ w0 w xb rb B ga gb z r zbn bn zs zr v vr D R x1 y1 x2 y2) {p : Addr} (hp : p.block = ga ∨ p.block = gb) (u : Value) : Two (w.setCell p u) xb rb B z zbn bn r (zs.map flat) zr v vr D R ∧ Below w0.heap.size w0 (w.setCell p u) := by
  obtain ⟨s1, s2, s3, s4, s5, s6, s7, s8, s9, s10, s11⟩ := h.sep
  have hc : Chg w (w.setCell p u) (fun k => k = ga ∨ k = gb) := (Chg.refl w _).set (.inl hp) u
  have t := h.two
  refine ⟨⟨t.dev.chg hc (fun hk => hk.elim (fun e => s5 e.symm) (fun e => s7 e.symm)) (fun k hk hs => hs.elim (fun e => s1 (e ▸ hk)) (fun e => s3 (e ▸ hk))), t.ref.chg hc (fun hk => hk.elim (fun e => s6 e.symm) (fun e => s8 e.symm)) (fun k hk hs => hs.elim (fun e => s2 (e ▸ hk)) (fun e => s4 (e ▸ hk))),
    fun k hk => ⟨(t.dl k hk).1, Nat.lt_of_lt_of_le (t.dl k hk).2 hc.kept.1⟩, fun k hk => ⟨(t.rl k hk).1, Nat.lt_of_lt_of_le (t.rl k hk).2 hc.kept.1⟩, t.dr, t.xr, t.drb, t.rxb, t.bx⟩, Below.trans h.bel (hc.to_below h.bel.size (fun k hk => hk.elim (fun e => by omega) (fun e => by omega)))⟩
theorem TZ.set1 (h : TZ w0 w xb rb B ga gb z r zbn bn zs zr v vr D R x1 y1 x2 y2) (u : Value) : TZ w0 (w.setCell ⟨ga, 0, none⟩ u) xb rb B ga gb z r zbn bn zs zr v vr D R u y1 x2 y2 := by
  obtain ⟨h1, h2⟩ := h.far (p := ⟨ga, 0, none⟩) (.inl rfl) u
  exact ⟨h1, h.inv, h2, h.base, blk_set h.ba 0 u, (Below.heap_setCell _ ⟨ga, 0, none⟩ _ gb (by have := h.sep.2.2.2.2.2.2.2.2.1; show gb ≠ ga; omega)).trans h.bb, h.sep⟩
theorem TZ.set2 (h : TZ w0 w xb rb B ga gb z r zbn bn zs zr v vr D R x1 y1 x2 y2) (u : Value) : TZ w0 (w.setCell ⟨ga, 1, none⟩ u) xb rb B ga gb z r zbn bn zs zr v vr D R x1 u x2 y2 := by
  obtain ⟨h1, h2⟩ := h.far (p := ⟨ga, 1, none⟩) (.inl rfl) u
  exact ⟨h1, h.inv, h2, h.base, blk_set h.ba 1 u, (Below.heap_setCell _ ⟨ga, 1, none⟩ _ gb (by have := h.sep.2.2.2.2.2.2.2.2.1; show gb ≠ ga; omega)).trans h.bb, h.sep⟩
theorem TZ.set3 (h : TZ w0 w xb rb B ga gb z r zbn bn zs zr v vr D R x1 y1 x2 y2) (u : Value) : TZ w0 (w.setCell ⟨gb, 0, none⟩ u) xb rb B ga gb z r zbn bn zs zr v vr D R x1 y1 u y2 := by
  obtain ⟨h1, h2⟩ := h.far (p := ⟨gb, 0, none⟩) (.inr rfl) u
  exact ⟨h1, h.inv, h2, h.base, (Below.heap_setCell _ ⟨gb, 0, none⟩ _ ga (by have := h.sep.2.2.2.2.2.2.2.2.1; show ga ≠ gb; omega)).trans h.ba, blk_set h.bb 0 u, h.sep⟩
theorem TZ.set4 (h : TZ w0 w xb rb B ga gb z r zbn bn zs zr v vr D R x1 y1 x2 y2) (u : Value) : TZ w0 (w.setCell ⟨gb, 1, none⟩ u) xb rb B ga gb z r zbn bn zs zr v vr D R x1 y1 x2 u := by
  obtain ⟨h1, h2⟩ := h.far (p := ⟨gb, 1, none⟩) (.inr rfl) u
  exact ⟨h1, h.inv, h2, h.base, (Below.heap_setCell _ ⟨gb, 1, none⟩ _ ga (by have := h.sep.2.2.2.2.2.2.2.2.1; show ga ≠ gb; omega)).trans h.ba, blk_set h.bb 1 u, h.sep⟩
end
/-- What a Load tells, as numbers. -/
def lq : Option ((Nat × List Plc) × Nat) → Nat | none => 0 | some x => x.1.1
def lp : Option ((Nat × List Plc) × Nat) → List Plc | none => [] | some x => x.1.2
def ls : Option ((Nat × List Plc) × Nat) → Nat | none => 0 | some x => x.2
def le_ : Option ((Nat × List Plc) × Nat) → Nat | none => 142 | some _ => 0
theorem le_le (x : Option ((Nat × List Plc) × Nat)) : le_ x ≤ 200 := by cases x; decide; exact Nat.zero_le _
theorem lod_lv {w w' : World} {x : Option ((Nat × List Plc) × Nat)} {e : Ending} (h : LodP w x e w') : Below w.heap.size w w' ∧ ls x < 2 ∧ ∃ A n c, e = .returned (.tuple #[.agg #[.int .u64 (lq x : Int), .slice A n c], .int .i64 (ls x : Int), .int .u16 (le_ x : Int)]) ∧ OwnP w' w.heap.size (.slice A n c) (lp x) := by
  obtain ⟨hb, ⟨q, ps, v, s, rfl, hs, rfl, hP⟩ | ⟨rfl, rfl⟩⟩ := h
  · obtain ⟨A, c, rfl⟩ := Kd.R_slice hP
    exact ⟨hb, hs, A, _, c, rfl, hP⟩
  · exact ⟨hb, by decide, none, 0, 0, rfl, Kd.R_nil _ _ _ _ _⟩
theorem rlod_lv {w w' : World} {x : Option ((Nat × List Plc) × Nat)} {e : Ending} (h : RLodP w x e w') : Below w.heap.size w w' ∧ ls x < 2 ∧ ∃ A n c, e = .returned (.tuple #[.agg #[.int .u64 (lq x : Int), .slice A n c], .int .i64 (ls x : Int), .int .i64 (le_ x : Int)]) ∧ OwnP w' w.heap.size (.slice A n c) (lp x) := by
  obtain ⟨hb, ⟨q, ps, v, s, rfl, hs, rfl, hP⟩ | ⟨rfl, rfl⟩⟩ := h
  · obtain ⟨A, c, rfl⟩ := Kd.R_slice hP
    exact ⟨hb, hs, A, _, c, rfl, hP⟩
  · exact ⟨hb, by decide, none, 0, 0, rfl, Kd.R_nil _ _ _ _ _⟩
/-- Both Saves answer alike, and leave the same. -/
theorem sav_agree {z r : Int} {zbn bn : Nat} {zs zs1 : List Zn} {slot : Int} {q : Nat} {l : List Plc} {e : Ending} (h1 : SavZ z zbn bn r zs slot q l e zs1) :
    ∃ x : Int, (0 ≤ x ∧ x ≤ 200) ∧ e = .returned (.int .u16 x) ∧ ∀ e' zs2, RSavZ z zbn bn r zs slot q l e' zs2 → e' = .returned (.int .i64 x) ∧ zs2 = zs1 := by
  rcases h1 with ⟨a1, rfl, rfl⟩ | ⟨a1, x, a2, a3, rfl, rfl⟩ | ⟨a1, bs, a2, rfl, rfl⟩
  · refine ⟨1, by omega, rfl, fun e' zs2 h => ?_⟩
    rcases h with ⟨-, rfl, rfl⟩ | ⟨b1, -⟩ | ⟨b1, -⟩
    · exact ⟨rfl, rfl⟩
    · exact absurd b1 a1
    · exact absurd b1 a1
  · refine ⟨x, by rcases a3 with rfl | rfl <;> omega, rfl, fun e' zs2 h => ?_⟩
    rcases h with ⟨b1, -⟩ | ⟨-, y, b2, -, rfl, rfl⟩ | ⟨-, bs, b2, -⟩
    · exact absurd a1 b1
    · rw [a2] at b2; injection b2 with b2; subst b2; exact ⟨rfl, rfl⟩
    · rw [a2] at b2; cases b2
  · refine ⟨0, by omega, rfl, fun e' zs2 h => ?_⟩
    rcases h with ⟨b1, -⟩ | ⟨-, y, b2, -⟩ | ⟨-, bs2, b2, rfl, rfl⟩
    · exact absurd a1 b1
    · rw [a2] at b2; cases b2
    · rw [a2] at b2; injection b2 with b2; subst b2; exact ⟨rfl, rfl⟩
end Go.Proofs.Ytkmeipblgdahoaa.Ck
namespace Go.Proofs.Ytkmeipblgdahoaa.Dv
open Go.RowKit Go.Proofs.YtkmeipblgdahoaaW.PrintWords Go.Proofs.YtkmeipblgdahoaaW.PrintMore Go.Proofs.Ytkmeipblgdahoaa.Base Go.Proofs.Ytkmeipblgdahoaa.Shp
set_option maxRecDepth 100000
set_option linter.unusedVariables false
set_option linter.unusedSimpArgs false
attribute [local go_sem] max2_mx min2_mn max_two min_two
set_option maxHeartbeats 1000000 in
theorem zcount_calls (A : Option Addr) (n c : Nat) (xs : List Zn) (t : Nat) (ht : t ≤ 1000) (w : World) (h : zoneK.C w A n xs) :
    Calls Try.prog 55 #[.slice A n c, .int .i64 (t : Int)] w fun e w' => ∃ s : Nat, e = .returned (.int .i64 (s : Int)) ∧ s ≤ 2001 ∧ w = w' := by
  obtain ⟨hl, hm⟩ := C_len h
  have HL := Aside0.mk hl
  have HC := Aside0.mk h
  clear h hl
  go_enter Try.func55, Try.ntmps55
  go_wp2
  go_loopg [5, 6] n (fun g v5 v6 wr => ∃ i s : Nat, v6 = .int .i64 (i : Int) ∧ v5 = .int .i64 (s : Int) ∧ i ≤ n ∧ s ≤ 2001 ∧ Aside0 (g + i = n) ∧ w = wr)
  case atStart => exact ⟨0, 0, rfl, rfl, by omega, by omega, ⟨rfl⟩, rfl⟩
  case round =>
    obtain ⟨i, s, rfl, rfl, hi, hs, HK, rfl⟩ := hrel
    by_cases hlt : i < n
    · by_cases hst : s ≤ t
      · obtain ⟨p, hp⟩ : ∃ p, xs.getD i ([], 0) = p := ⟨_, rfl⟩
        obtain ⟨pa, B0, k0, rfl, e0, e1, hk0, hB, hIp⟩ := zones_at HC.out i hlt hp
        have hpm := (C_len hB).2
        obtain ⟨k, hk⟩ : ∃ k : Nat, mn (p.1.length : Int) (t : Int) = (k : Int) := by
          unfold mn
          split
          · exact ⟨_, rfl⟩
          · exact ⟨_, rfl⟩
        have hkt : k ≤ t := by
          unfold mn at hk
          split at hk <;> omega
        have hlt' : (i : Int) < (n : Int) := by omega
        have hd0 : decide ((i : Int) < (n : Int)) = true := decide_eq_true hlt'
        have hd1 : decide ((s : Int) ≤ (t : Int)) = true := decide_eq_true (by omega)
        have hd2 : decide (s ≤ t) = true := decide_eq_true hst
        clear hp hB hIp hk0
        go_wp2
        go_roundg (gk - 1)
        case measure => have := HK.out; omega
        case rel => exact ⟨i + 1, s + (1 + k), by congr 1, by congr 1, by omega, by omega, ⟨by have := HK.out; omega⟩, rfl⟩
      · have hlt' : (i : Int) < (n : Int) := by omega
        have hd0 : decide ((i : Int) < (n : Int)) = true := decide_eq_true hlt'
        have hd1 : decide ((s : Int) ≤ (t : Int)) = false := decide_eq_false (by omega)
        have hd2 : decide (s ≤ t) = false := decide_eq_false hst
        go_wp2
        go_ret
        exact ⟨s, rfl, by omega, rfl⟩
    · obtain rfl : i = n := by omega
      have hd0 : decide ((i : Int) < (i : Int)) = false := decide_eq_false (by omega)
      go_wp2
      go_ret
      exact ⟨s, rfl, by omega, rfl⟩
set_option maxHeartbeats 1000000 in
theorem heavyz_calls (A : Option Addr) (n c : Nat) (xs : List Zn) (t : Nat) (ht : t ≤ 1000) (w : World) (h : zoneK.C w A n xs) :
    Calls Try.prog 27 #[.slice A n c, .int .i64 (t : Int)] w fun e w' => ∃ b : Bool, e = .returned (.bool b) ∧ w = w' := by
  obtain ⟨hl, hm⟩ := C_len h
  have HL := Aside0.mk hl
  have HC := Aside0.mk h
  clear h hl
  go_enter Try.func27, Try.ntmps27
  go_wp2_with fail
  refine (zcount_calls A n c xs t ht _ HC.out).mono ?_
  rintro e w1 ⟨s, rfl, hs, rfl⟩
  by_cases hst : t < s
  · have hd1 : decide ((t : Int) < (s : Int)) = true := decide_eq_true (by omega)
    have hd2 : decide (t < s) = true := decide_eq_true hst
    go_wp2
    go_ret
    exact ⟨_, rfl, rfl⟩
  · have hd1 : decide ((t : Int) < (s : Int)) = false := decide_eq_false (by omega)
    have hd2 : decide (t < s) = false := decide_eq_false hst
    go_wp2
    go_loopg [5, 6] n (fun g v5 v6 wr => ∃ i : Nat, v5 = .int .i64 (i : Int) ∧ i ≤ n ∧ Aside0 (g + i = n) ∧ w = wr)
    case atStart => exact ⟨0, rfl, by omega, ⟨rfl⟩, rfl⟩
    case round =>
      obtain ⟨i, rfl, hi, HK, rfl⟩ := hrel
      obtain ⟨g1, rfl⟩ : ∃ g1 : Nat, g1 = gk := ⟨_, rfl⟩
      by_cases hlt : i < n
      · obtain ⟨p, hp⟩ : ∃ p, xs.getD i ([], 0) = p := ⟨_, rfl⟩
        obtain ⟨pa, B0, k0, rfl, e0, e1, hk0, hB, hIp⟩ := zones_at HC.out i hlt hp
        have hpm := (C_len hB).2
        have HB := Aside0.mk hB
        have hlt' : (i : Int) < (n : Int) := by omega
        have hd0 : decide ((i : Int) < (n : Int)) = true := decide_eq_true hlt'
        clear hp hB hIp hk0 e1
        go_wp2
        go_loopg [6] p.1.length (fun g v6 wr => ∃ q : Nat, v6 = .int .i64 (q : Int) ∧ q ≤ p.1.length ∧ Aside0 (g + q = p.1.length) ∧ w = wr)
        case atStart => exact ⟨0, rfl, by omega, ⟨rfl⟩, rfl⟩
        case round =>
          obtain ⟨q, rfl, hq, HK2, rfl⟩ := hrel
          by_cases hql : q < p.1.length
          · obtain ⟨pb, C0, d0, rfl, f0, hd, hC⟩ := bytes_at HB.out q hql
            obtain ⟨x, hx⟩ : ∃ x, p.1.getD q [] = x := ⟨_, rfl⟩
            rw [hx] at f0 hd hC
            have hxm := (C_len hC).2
            have hq' : (q : Int) < (p.1.length : Int) := by omega
            have hd3 : decide ((q : Int) < (p.1.length : Int)) = true := decide_eq_true hq'
            clear hx hd hC
            by_cases hx2 : 200 < x.length
            · have hd4 : decide (200 < (x.length : Int)) = true := decide_eq_true (by omega)
              go_wp2
              go_ret
              exact ⟨_, rfl, rfl⟩
            · have hd4 : decide (200 < (x.length : Int)) = false := decide_eq_false (by omega)
              go_wp2
              go_roundg (gk - 1)
              case measure => have := HK2.out; omega
              case rel => exact ⟨q + 1, by congr 1, by omega, ⟨by have := HK2.out; omega⟩, rfl⟩
          · obtain rfl : q = p.1.length := by omega
            have hd3 : decide ((p.1.length : Int) < (p.1.length : Int)) = false := decide_eq_false (by omega)
            go_wp2
            go_roundg (g1 - 1)
            case measure => have := HK.out; omega
            case rel => exact ⟨i + 1, by congr 1, by omega, ⟨by have := HK.out; omega⟩, rfl⟩
      · obtain rfl : i = n := by omega
        have hd0 : decide ((i : Int) < (i : Int)) = false := decide_eq_false (by omega)
        go_wp2
        go_ret
        exact ⟨_, rfl, rfl⟩
end Go.Proofs.Ytkmeipblgdahoaa.Dv
namespace Go.Proofs.Ytkmeipblgdahoaa.Ck
open Go.RowKit Go.Proofs.YtkmeipblgdahoaaW.PrintWords Go.Proofs.YtkmeipblgdahoaaW.PrintMore Go.Proofs.Ytkmeipblgdahoaa.Base Go.Proofs.Ytkmeipblgdahoaa.Shp
open Go.Proofs.Ytkmeipblgdahoaa.Dv (Zn Chg Two small_calls zoneK zones_calls rzones_calls szones_calls heavyz_calls FitZ ZInv flat partZ_flat)
set_option maxRecDepth 100000
set_option linter.unusedVariables false
set_option linter.unusedSimpArgs false
theorem own_C {w : World} {B : Nat} {A : Option Addr} {n c : Nat} {ps : List Plc} (h : OwnP w B (.slice A n c) ps) : n = ps.length ∧ n ≤ c ∧ plK.C w A n ps := by
  obtain ⟨A', c', e, h1, h2⟩ := Kd.R_reads h
  injection e with e1 e2 e3
  subst e1 e2 e3
  exact ⟨rfl, h1, h2⟩
theorem flat_whole' {b zb : Nat} (hz : zb ≤ 4096) {zs : List Zn} (h : ZInv b zb zs) : Dv.Whole b 4096 (zs.map flat) := by
  intro p hp
  obtain ⟨y, hy, rfl⟩ := List.mem_map.1 hp
  obtain ⟨-, h1, h2⟩ := h y hy
  exact ⟨y.1.length, by omega, Dv.flat_len h2⟩
theorem stb_below' {w w' : World} {g : Nat} {x y : Value} (hb : Below w.heap.size w w') (h : w.cell? ⟨g, 0, none⟩ = some x ∧ w.cell? ⟨g, 1, none⟩ = some y ∧ w.frozen? ⟨g, 0, none⟩ = false ∧ w.frozen? ⟨g, 1, none⟩ = false) :
    w'.cell? ⟨g, 0, none⟩ = some x ∧ w'.cell? ⟨g, 1, none⟩ = some y ∧ w'.frozen? ⟨g, 0, none⟩ = false ∧ w'.frozen? ⟨g, 1, none⟩ = false := by
  have hg := World.block_lt_of_cell? w _ h.1
  exact ⟨pw_cell_below hb h.1, pw_cell_below hb h.2.1, Dv.pw_frozen_below hb (p := ⟨g, 0, none⟩) hg h.2.2.1, Dv.pw_frozen_below hb (p := ⟨g, 1, none⟩) hg h.2.2.2⟩
set_option maxHeartbeats 4000000 in
theorem csaves_walk (w : World) (z zb b r : Int) (hz : IsI z) (hzb : IsI zb) (hb : IsI b) (hr : IsI r) (A : Option Addr) (n c : Nat) (zs : List Zn) (hnc : n ≤ c) (h : zoneK.C w A n zs) (slot : Int) (hsl : IsI slot)
    (q1 : Nat) (hq1 : q1 < 18446744073709551616) (A1 : Option Addr) (n1 c1 : Nat) (l1 : List Plc) (hnc1 : n1 ≤ c1) (h1 : plK.C w A1 n1 l1) :
    Calls Try.prog 8 #[.agg #[.int .i64 z, .int .i64 zb, .int .i64 b, .int .i64 r], .slice A n c, .int .i64 slot, .agg #[.int .u64 (q1 : Int), .slice A1 n1 c1]] w
      fun e w' => e = .returned (.bool true) ∧ Below w.heap.size w w' := by
  have HLZ0 := Aside0.mk (C_len h).1
  have HC := Aside0.mk h
  have HC1 := Aside0.mk h1
  have HI := Aside0.mk (And.intro hz (And.intro hzb (And.intro hb hr)))
  have HQ := Aside0.mk hq1
  have HNC := Aside0.mk hnc1
  have HSL := Aside0.mk hsl
  have HA := Aside0.mk (below_alloc (alloc_below w (.cells #[.int .i64 z, .int .i64 zb, .int .i64 b, .int .i64 r] 23)) (.cells #[.int .u64 (q1 : Int), .slice A1 n1 c1] 27))
  have HB0 := Aside0.mk (show ((w.alloc (.cells #[.int .i64 z, .int .i64 zb, .int .i64 b, .int .i64 r] 23)).alloc (.cells #[.int .u64 (q1 : Int), .slice A1 n1 c1] 27)).heap[w.heap.size]? = some (.cells #[.int .i64 z, .int .i64 zb, .int .i64 b, .int .i64 r] 23 (0, 0)) ∧
      ((w.alloc (.cells #[.int .i64 z, .int .i64 zb, .int .i64 b, .int .i64 r] 23)).alloc (.cells #[.int .u64 (q1 : Int), .slice A1 n1 c1] 27)).heap[w.heap.size + 1]? = some (.cells #[.int .u64 (q1 : Int), .slice A1 n1 c1] 27 (0, 0)) from
    ⟨blk_past (blk_here rfl), blk_here (by simp)⟩)
  clear h h1 hz hzb hb hr hq1 hnc1 hnc hsl
  go_enter Try.func8, Try.ntmps8
  go_wp2_with fail
  obtain ⟨g, hg⟩ : ∃ g, w.heap.size = g := ⟨_, rfl⟩
  obtain ⟨W, hW⟩ : ∃ W, (w.alloc (.cells #[.int .i64 z, .int .i64 zb, .int .i64 b, .int .i64 r] 23)).alloc (.cells #[.int .u64 (q1 : Int), .slice A1 n1 c1] 27) = W := ⟨_, rfl⟩
  rw [hW] at HA HB0 ⊢
  rw [hg] at HB0 ⊢
  have HG := Aside0.mk (Nat.le_of_eq hg)
  have HS := Aside0.mk (shc4 HB0.out.1)
  have HT1 := Aside0.mk (st_cells (x := .int .u64 (q1 : Int)) (by rfl) HB0.out.2)
  clear hW hg
  refine (small_calls z zb b r HI.out.1 HI.out.2.1 HI.out.2.2.1 HI.out.2.2.2 _).mono ?_
  rintro e w1 ⟨rfl, hb1⟩
  obtain ⟨sm, hsm⟩ : ∃ sm, (decide (z ≤ 12) && decide (zb ≤ 16) && decide (b ≤ 128)) = sm := ⟨_, rfl⟩
  rw [hsm]
  have HSM := Aside0.mk hsm
  have HW1 := Aside0.mk hb1
  have HX1 := Aside0.mk (stb_below' HW1.out HT1.out)
  clear hsm hb1
  cases sm with
  | false =>
    go_wp2_with fail
    refine (known_calls _).mono ?_
    rintro e w2 ⟨rfl, hb2⟩
    have HB2 := Aside0.mk (below_go (below_go HA.out HW1.out) hb2)
    clear hb2
    go_wp2
    go_ret
    exact ⟨rfl, HB2.out⟩
  | true =>
  go_wp2_with fail
  refine (heavyz_calls A n c zs 200 (by omega) _ (Kd.C_below HC.out (below_go HA.out HW1.out))).mono ?_
  rintro e w1' ⟨bo, rfl, rfl⟩
  cases bo with
  | true =>
    go_wp2_with fail
    refine (known_calls _).mono ?_
    rintro e w2 ⟨rfl, hb2⟩
    have HB2 := Aside0.mk (below_go (below_go HA.out HW1.out) hb2)
    clear hb2
    go_wp2
    go_ret
    exact ⟨rfl, HB2.out⟩
  | false =>
  obtain ⟨s10, s11, -, -⟩ := HX1.out
  by_cases h200 : 200 < n1
  · have e1 : decide ((200 : Int) < (n1 : Int)) = true := decide_eq_true (by omega)
    have e1' : decide (200 < n1) = true := decide_eq_true h200
    clear h200
    go_wp2_with fail
    refine (known_calls _).mono ?_
    rintro e w2 ⟨rfl, hb2⟩
    have HB2 := Aside0.mk (below_go (below_go HA.out HW1.out) hb2)
    clear hb2 s10 s11
    go_wp2
    go_ret
    exact ⟨rfl, HB2.out⟩
  have e1 : decide ((200 : Int) < (n1 : Int)) = false := decide_eq_false (by omega)
  have e1' : decide (200 < n1) = false := decide_eq_false (by omega)
  have HN1 := Aside0.mk (show n1 ≤ 10000000 by omega)
  clear h200
  go_wp2_with fail
  refine (known_calls _).mono ?_
  rintro e w2 ⟨rfl, hb2⟩
  have HW2 := Aside0.mk (below_go HW1.out hb2)
  obtain ⟨c0, c1_, c2_, c3⟩ := shc4_below HW2.out HS.out
  clear hb2 e1 e1' s10 s11
  by_cases hgd : Good z r zb b n zs
  case neg =>
    have HGD := Aside0.mk hgd
    clear hgd
    go_wp2_with fail
    refine (devices_no HGD.out HI.out A c _ (Kd.C_below HC.out (below_go HA.out HW2.out))).mono ?_
    rintro e w3 ⟨rfl, hb3⟩
    have HB3 := Aside0.mk (below_go (below_go HA.out HW2.out) hb3)
    clear hb3 c0 c1_ c2_ c3
    go_wp2
    go_ret
    exact ⟨rfl, HB3.out⟩
  have HGD := Aside0.mk hgd
  have HRT := Aside0.mk hgd.1
  obtain ⟨bn, rfl⟩ : ∃ bn : Nat, b = (bn : Int) := ⟨b.toNat, by have := pow_range hgd.1.2.2.2.2.1; omega⟩
  obtain ⟨zbn, rfl⟩ : ∃ zbn : Nat, zb = (zbn : Int) := ⟨zb.toNat, by have := hgd.1.2.2.1; omega⟩
  have HZB := Aside0.mk (show zbn ≤ 16 ∧ 64 ≤ bn ∧ bn ≤ 4096 ∧ 6 ≤ z ∧ z ≤ 256 by
    have h1 := HSM.out
    simp only [Bool.and_eq_true, decide_eq_true_eq] at h1
    have h3 := pow_range hgd.1.2.2.2.2.1
    have h4 := hgd.1.1
    have h5 := hgd.1.2.1
    omega)
  have HLZ := Aside0.mk (show 6 ≤ zs.length ∧ zs.length ≤ 256 from by have h1 := HLZ0.out; have h2 := hgd.2.1; have h3 := HZB.out; omega)
  have HINV := Aside0.mk (show ZInv bn zbn zs from fun p hp => by
    obtain ⟨h1, h2, h3, h4⟩ := hgd.2.2 p hp
    exact ⟨⟨h2, h3⟩, by omega, fun x hx => by have := h4 x hx; omega⟩)
  clear hgd
  go_wp2_with fail
  refine (devices_ok HGD.out HI.out A c _ (Kd.C_below HC.out (below_go HA.out HW2.out))).mono ?_
  rintro e w3 ⟨xb, rb, B, v, vr, D, R, rfl, hB, hT, hb3⟩
  have HT := Aside0.mk hT
  have HB3 := Aside0.mk (below_go HW2.out hb3)
  have HBB := Aside0.mk (show W.heap.size ≤ B from Nat.le_trans HW2.out.size hB)
  clear hB hT hb3 c0 c1_ c2_ c3
  have HCN := Aside0.mk (show ∀ zz : List Zn, ZInv bn zbn zz → 2 ≤ zz.length → ∀ k, k < 2 → (zz.getD k ([], 0)).1.length ≤ 16 from fun zz hz hl k hk => by have h1 := (hz.get (show k < zz.length by omega)).2.1; have h2 := HZB.out.1; omega)
  go_wp2_with fail
  refine (load_calls xb B D z r zbn bn HRT.out HI.out.2.2.2 zs v (by have := HLZ.out; omega) _ HT.out.dev HINV.out (fun k hk => Nat.le_trans (HCN.out zs HINV.out (by have := HLZ.out; omega) k hk) (by omega))).mono ?_
  obtain ⟨lc, hlc⟩ : ∃ x, loadC (decC (decide (Rt z zbn bn r)) z zbn bn (zs.getD 0 ([], 0)).1) (decC (decide (Rt z zbn bn r)) z zbn bn (zs.getD 1 ([], 0)).1) = x := ⟨_, rfl⟩
  rw [hlc]
  have HLC := Aside0.mk hlc
  intro e w4 hld
  obtain ⟨hb4, hs2, Aa, na, ca, rfl, hPa⟩ := lod_lv hld
  obtain ⟨lqv, hlq⟩ : ∃ x, lq lc = x := ⟨_, rfl⟩
  obtain ⟨lsv, hls⟩ : ∃ x, ls lc = x := ⟨_, rfl⟩
  obtain ⟨lev, hle⟩ : ∃ x, le_ lc = x := ⟨_, rfl⟩
  have hle2 : lev ≤ 200 := by rw [← hle]; exact le_le lc
  rw [hls] at hs2
  rw [hlq, hls, hle]
  have HLV := Aside0.mk (And.intro hlq (And.intro hls hle))
  have HB4 := Aside0.mk hb4
  have HPA := Aside0.mk hPa
  have hcv : IntKind.i64.wrap (lev : Int) = (lev : Int) := IntWalk.i64_in _ (by omega)
  obtain ⟨W4, hW4⟩ : ∃ W4, w4.alloc (.cells #[.int .u64 (lqv : Int), .slice Aa na ca] 27) = W4 := ⟨_, rfl⟩
  have HBA := Aside0.mk (show Below w4.heap.size w4 W4 by rw [← hW4]; exact alloc_below _ _)
  have HSA := Aside0.mk (show W4.heap[w4.heap.size]? = some (.cells #[.int .u64 (lqv : Int), .slice Aa na ca] 27 (0, 0)) by rw [← hW4]; exact blk_here rfl)
  have HW4 := Aside0.mk hW4
  clear hlc hld hb4 hPa hlq hls hle hW4
  go_wp2_with fail
  rw [HW4.out]
  obtain ⟨ga, hga⟩ : ∃ ga, w4.heap.size = ga := ⟨_, rfl⟩
  rw [hga] at HSA ⊢
  have HGA := Aside0.mk hga
  clear hga HW4
  have HB34 := Aside0.mk (below_go HB4.out HBA.out)
  refine (rcload_calls rb B R z r zbn bn HRT.out HI.out.2.2.2 zs vr (by have := HLZ.out; omega) _ (HT.out.ref.below HB34.out) HINV.out (fun k hk => Nat.le_trans (HCN.out zs HINV.out (by have := HLZ.out; omega) k hk) (by omega))).mono ?_
  rw [HLC.out]
  intro e w5 hld
  obtain ⟨hb5, -, Ab, nb, cb, rfl, hPb⟩ := rlod_lv hld
  rw [HLV.out.1, HLV.out.2.1, HLV.out.2.2]
  obtain ⟨W5, hW5⟩ : ∃ W5, w5.alloc (.cells #[.int .u64 (lqv : Int), .slice Ab nb cb] 27) = W5 := ⟨_, rfl⟩
  have hbb : Below w5.heap.size w5 W5 := by rw [← hW5]; exact alloc_below _ _
  have hsb : W5.heap[w5.heap.size]? = some (.cells #[.int .u64 (lqv : Int), .slice Ab nb cb] 27 (0, 0)) := by rw [← hW5]; exact blk_here rfl
  have HB45 := Aside0.mk (below_go hb5 hbb)
  have HTZ := Aside0.mk (TZ.new (w0 := W) HT.out HINV.out HB3.out HBB.out (below_go HB34.out HB45.out) (ga := ga) (gb := w5.heap.size) (by have h1 := HB4.out.size; have h2 := HGA.out; omega) (by have h1 := HB34.out.size; have h2 := hb5.size; omega)
    (by have h1 := HGA.out; have h2 := hb5.size; have h3 : w4.heap.size < W4.heap.size := (Array.getElem?_eq_some_iff.1 (h1 ▸ HSA.out)).1; omega) (Rc.blk_old HB45.out HSA.out) hsb)
  have HPA5 := Aside0.mk (Kd.R_below (Kd.R_below HPA.out HBA.out) HB45.out)
  have HPB5 := Aside0.mk (Kd.R_below hPb hbb)
  obtain ⟨a0, a1, -, -⟩ := st_cells (by rfl) HTZ.out.ba
  obtain ⟨b0, b1, -, -⟩ := st_cells (by rfl) HTZ.out.bb
  have HW5 := Aside0.mk hW5
  rw [← HW5.out] at a0 a1 b0 b1
  clear hld hb5 hPb hbb hsb hW5
  go_wp2_with fail
  rw [HW5.out]
  obtain ⟨gb, hgb⟩ : ∃ gb, w5.heap.size = gb := ⟨_, rfl⟩
  rw [hgb] at HTZ ⊢
  clear hgb HW5 a0 a1 b0 b1
  have hPA := HPA5.out
  have hPB := HPB5.out
  obtain ⟨-, -, hCa⟩ := own_C hPA
  obtain ⟨-, -, hCb⟩ := own_C hPB
  refine (csame_calls lqv lqv Aa Ab na nb ca cb (lp lc) (lp lc) _ hCa hCb).mono ?_
  rw [decide_eq_true (show lqv = lqv ∧ lp lc = lp lc from ⟨rfl, rfl⟩)]
  rintro e w6 ⟨rfl, hb6⟩
  have HTZ6 := Aside0.mk (HTZ.out.below hb6)
  have HX6 := Aside0.mk (stb_below' HTZ6.out.bel HT1.out)
  obtain ⟨s10, s11, -, -⟩ := HX6.out
  clear hb6 hPA hPB hCa hCb
  go_wp2_with fail
  refine (zsave_calls xb B D z r zbn bn HRT.out HI.out.2.2.2 zs v slot HSL.out q1 HQ.out A1 n1 c1 l1 HN1.out HNC.out _ HTZ6.out.two.dev (Kd.C_below HC1.out (below_go HA.out HTZ6.out.bel)) (fun k hk => (HTZ6.out.two.dl k hk).2) (by have := HLZ.out; omega) HINV.out).mono ?_
  rintro e w7 ⟨zs7, hsv, hi7, hl7, hD7, hc7⟩
  obtain ⟨x, hx, rfl, hag⟩ := sav_agree hsv
  have HAG := Aside0.mk hag
  have HTZ7 := Aside0.mk (HTZ6.out.dev hD7 hc7 hi7)
  have HI7 := Aside0.mk hi7
  have HL7 := Aside0.mk hl7
  have HX7 := Aside0.mk (stb_below' HTZ7.out.bel HT1.out)
  obtain ⟨t10, t11, -, -⟩ := HX7.out
  obtain ⟨hx0, hx1⟩ := hx
  have hcx : IntKind.i64.wrap x = x := IntWalk.i64_in _ (by omega)
  clear hsv hag hi7 hl7 hD7 hc7 s10 s11
  go_wp2_with fail
  refine (rcsave_calls rb B R z r zbn bn HRT.out HI.out.2.2.2 zs vr slot HSL.out q1 HQ.out A1 n1 c1 l1 HN1.out HNC.out _ HTZ7.out.two.ref (Kd.C_below HC1.out (below_go HA.out HTZ7.out.bel)) (fun k hk => (HTZ7.out.two.rl k hk).2) (by have := HLZ.out; omega) (fun p hp => by have h1 := (HINV.out p hp).2.1; have h2 := HZB.out.1; omega)).mono ?_
  rintro e w8 ⟨zs8, hsv, hD8, hc8⟩
  obtain ⟨rfl, rfl⟩ := HAG.out _ _ hsv
  have HTZ8 := Aside0.mk (HTZ7.out.ref hD8 hc8)
  obtain ⟨D8, hD8'⟩ : ∃ D8, (fun k => (D k ∨ w6.heap.size ≤ k) ∧ B ≤ k ∧ k < w7.heap.size) = D8 := ⟨_, rfl⟩
  obtain ⟨R8, hR8'⟩ : ∃ R8, (fun k => (R k ∨ w7.heap.size ≤ k) ∧ B ≤ k ∧ k < w8.heap.size) = R8 := ⟨_, rfl⟩
  rw [hD8', hR8'] at HTZ8
  clear hsv hD8 hc8 t10 t11 hD8' hR8'
  go_wp2_with fail
  refine (load_calls xb B D8 z r zbn bn HRT.out HI.out.2.2.2 zs8 v (by have := HLZ.out; have := HL7.out; omega) _ HTZ8.out.two.dev HI7.out (fun k hk => Nat.le_trans (HCN.out zs8 HI7.out (by have := HLZ.out; have := HL7.out; omega) k hk) (by omega))).mono ?_
  obtain ⟨ld, hld'⟩ : ∃ x, loadC (decC (decide (Rt z zbn bn r)) z zbn bn (zs8.getD 0 ([], 0)).1) (decC (decide (Rt z zbn bn r)) z zbn bn (zs8.getD 1 ([], 0)).1) = x := ⟨_, rfl⟩
  rw [hld']
  have HLD := Aside0.mk hld'
  intro e w9 hld
  obtain ⟨hb9, hs9, Ac, nc, cc, rfl, hPc⟩ := lod_lv hld
  obtain ⟨mq, hmq⟩ : ∃ x, lq ld = x := ⟨_, rfl⟩
  obtain ⟨ms, hms⟩ : ∃ x, ls ld = x := ⟨_, rfl⟩
  obtain ⟨me, hme⟩ : ∃ x, le_ ld = x := ⟨_, rfl⟩
  have hme2 : me ≤ 200 := by rw [← hme]; exact le_le ld
  rw [hms] at hs9
  rw [hmq, hms, hme]
  have HMV := Aside0.mk (And.intro hmq (And.intro hms hme))
  have hcv2 : IntKind.i64.wrap (me : Int) = (me : Int) := IntWalk.i64_in _ (by omega)
  have HTZ9 := Aside0.mk (HTZ8.out.below hb9)
  obtain ⟨p0, p1, y0, y1⟩ := st_cells (by rfl) HTZ9.out.ba
  have HTZA := Aside0.mk ((HTZ9.out.set1 (.int .u64 (mq : Int))).set2 (.slice Ac nc cc))
  have HPC := Aside0.mk (show OwnP ((w9.setCell ⟨ga, 0, none⟩ (.int .u64 (mq : Int))).setCell ⟨ga, 1, none⟩ (.slice Ac nc cc)) w8.heap.size (.slice Ac nc cc) (lp ld) from
    Kd.R_set (Kd.R_set hPc HTZ9.out.ba plE_ne 0 _) (HTZ9.out.set1 (.int .u64 (mq : Int))).ba plE_ne 1 _)
  clear hld hld' hb9 hPc hmq hms hme
  go_wp2_with fail
  clear p0 p1 y0 y1
  obtain ⟨WA, hWA⟩ : ∃ WA, (w9.setCell ⟨ga, 0, none⟩ (.int .u64 (mq : Int))).setCell ⟨ga, 1, none⟩ (.slice Ac nc cc) = WA := ⟨_, rfl⟩
  rw [hWA] at HTZA HPC ⊢
  clear hWA
  refine (rcload_calls rb B R8 z r zbn bn HRT.out HI.out.2.2.2 zs8 vr (by have := HLZ.out; have := HL7.out; omega) _ HTZA.out.two.ref HI7.out (fun k hk => Nat.le_trans (HCN.out zs8 HI7.out (by have := HLZ.out; have := HL7.out; omega) k hk) (by omega))).mono ?_
  rw [HLD.out]
  intro e wB hld
  obtain ⟨hbB, -, Ad, nd, cd, rfl, hPd⟩ := rlod_lv hld
  rw [HMV.out.1, HMV.out.2.1, HMV.out.2.2]
  have HTZB := Aside0.mk (HTZA.out.below hbB)
  obtain ⟨p0, p1, y0, y1⟩ := st_cells (by rfl) HTZB.out.bb
  have HTZC := Aside0.mk ((HTZB.out.set3 (.int .u64 (mq : Int))).set4 (.slice Ad nd cd))
  have HPD := Aside0.mk (show OwnP ((wB.setCell ⟨gb, 0, none⟩ (.int .u64 (mq : Int))).setCell ⟨gb, 1, none⟩ (.slice Ad nd cd)) WA.heap.size (.slice Ad nd cd) (lp ld) from
    Kd.R_set (Kd.R_set hPd HTZB.out.bb plE_ne 0 _) (HTZB.out.set3 (.int .u64 (mq : Int))).bb plE_ne 1 _)
  have HPC2 := Aside0.mk (show OwnP ((wB.setCell ⟨gb, 0, none⟩ (.int .u64 (mq : Int))).setCell ⟨gb, 1, none⟩ (.slice Ad nd cd)) w8.heap.size (.slice Ac nc cc) (lp ld) from
    Kd.R_set (Kd.R_set (Kd.R_below HPC.out hbB) HTZB.out.bb plE_ne 0 _) (HTZB.out.set3 (.int .u64 (mq : Int))).bb plE_ne 1 _)
  obtain ⟨WC, hWC⟩ : ∃ WC, (wB.setCell ⟨gb, 0, none⟩ (.int .u64 (mq : Int))).setCell ⟨gb, 1, none⟩ (.slice Ad nd cd) = WC := ⟨_, rfl⟩
  rw [hWC] at HTZC HPD HPC2
  obtain ⟨a0, a1, -, -⟩ := st_cells (by rfl) HTZC.out.ba
  obtain ⟨b0, b1, -, -⟩ := st_cells (by rfl) HTZC.out.bb
  rw [← hWC] at a0 a1 b0 b1
  have HWC := Aside0.mk hWC
  clear hld hbB hPd hWC
  go_wp2_with fail
  rw [HWC.out]
  clear p0 p1 y0 y1 a0 a1 b0 b1
  have hPC := HPC2.out
  have hPD := HPD.out
  obtain ⟨-, -, hCc⟩ := own_C hPC
  obtain ⟨-, -, hCd⟩ := own_C hPD
  refine (csame_calls mq mq Ac Ad nc nd cc cd (lp ld) (lp ld) _ hCc hCd).mono ?_
  rw [decide_eq_true (show mq = mq ∧ lp ld = lp ld from ⟨rfl, rfl⟩)]
  rintro e wD ⟨rfl, hbD⟩
  have HTZD := Aside0.mk (HTZC.out.below hbD)
  clear hbD hPC hPD hCc hCd HWC
  go_wp2_with fail
  refine (zones_calls xb _ _ z zbn r bn (by have := HZB.out; omega) (by have := HZB.out; omega) _ v _ HTZD.out.two.dev (flat_whole' (by have := HRT.out.2.2.2.1; omega) HI7.out) (by rw [List.length_map, HL7.out]; exact HLZ.out.2)).mono ?_
  rintro e wE ⟨v5, rfl, hN5, hb5⟩
  rw [partZ_flat (by have := HZB.out; omega) HI7.out] at hN5
  have HTZE := Aside0.mk (HTZD.out.below hb5)
  have HN5 := Aside0.mk hN5
  clear hN5 hb5
  go_wp2_with fail
  refine (rzones_calls rb _ _ z zbn bn r zs8 vr (by have h1 := HL7.out; have h2 := HLZ.out; omega) (fun p hp => by
    obtain ⟨-, h2, h3⟩ := HI7.out p hp
    have h4 := HZB.out
    exact ⟨by omega, fun y hy => by rw [h3 y hy]; omega⟩) _ HTZE.out.two.ref).mono ?_
  rintro e wF ⟨v6, rfl, hN6, hb6⟩
  have hN5 := Kd.N_below HN5.out hb6
  obtain ⟨A5, n5, k5, rfl, -, hC5⟩ := N_open hN5
  obtain ⟨A6, n6, k6, rfl, -, hC6⟩ := N_open hN6
  have HC5 := Aside0.mk hC5
  have HC6 := Aside0.mk hC6
  have HBF := Aside0.mk (below_go HA.out (below_go HTZE.out.bel hb6))
  clear hN5 hN6 hC5 hC6 hb6
  go_wp2_with fail
  refine (szones_calls A5 A6 n5 n6 k5 k6 zs8 zs8 _ HC5.out HC6.out).mono ?_
  rw [decide_eq_true rfl]
  rintro e wG ⟨rfl, m, rfl⟩
  have HBG := Aside0.mk (pw_below_drewN HBF.out m)
  go_wp2
  go_ret
  exact ⟨rfl, HBG.out⟩
theorem csaves_row (W : World) (s : Int × Int × Int × Int) (c : IsI s.1 ∧ IsI s.2.1 ∧ IsI s.2.2.1 ∧ IsI s.2.2.2) (A : Option Addr) (n cp : Nat) (zs : List Zn) (hnc : n ≤ cp) (h : zoneK.C W A n zs) (x : Int) (hx : IsI x) (t : Nat × List Plc × Option Addr × Nat × Nat) (d : StArg W t) :
    Calls Try.prog 8 #[.agg #[.int .i64 s.1, .int .i64 s.2.1, .int .i64 s.2.2.1, .int .i64 s.2.2.2], .slice A n cp, .int .i64 x, .agg #[.int .u64 (t.1 : Int), .slice t.2.2.1 t.2.2.2.1 t.2.2.2.2]] W fun e w' => e = .returned (.bool true) ∧ Below W.heap.size W w' :=
  csaves_walk W s.1 s.2.1 s.2.2.1 s.2.2.2 c.1 c.2.1 c.2.2.1 c.2.2.2 A n cp zs hnc h x hx t.1 d.1 t.2.2.1 t.2.2.2.1 t.2.2.2.2 t.2.1 d.2.2 d.2.1
theorem opn_zone' : Opn Try.prog 77 zoneK :=
  Opn.struct Try.underlying77 (by kernel_rfl) (OpnFs.cons rfl (by kernel_rfl) (Opn.slice Try.underlying28 (by kernel_rfl) (Opn.slice Try.underlying39 (by kernel_rfl) (Opn.byte Try.underlying5)))
    (OpnFs.last rfl (by kernel_rfl) (Opn.num Try.underlying3)))
end Go.Proofs.Ytkmeipblgdahoaa.Ck
namespace Go.Proofs.Ytkmeipblgdahoaa.ckptSaves
open Go.ChangeShapes Go.WideShapes Go.ChangeAt Go.RowKit Go.Proofs.Ytkmeipblgdahoaa.Base
open Go.ChangeMaps (open_string shut_string)
set_option linter.unusedVariables false
theorem own : ownKnob Try.prog.godebug = none := by kernel_rfl
theorem laidOut : laidOutB Try.prog = true := by kernel_rfl
set_option maxRecDepth 100000 in
theorem lifted (os : Os) (started : os.Started) (H : Type) (enc : TypeId × Value → H) :
    ReturnsInHanded {} Try.checked os 8 .any (Rows.ckptSavesSpec.pre6 enc Try.prog Try.f8 Rows.ckptSavesRow.domain false) (Rows.ckptSavesSpec.post enc Try.prog Try.f8 false true false false) := by
  refine returnsInHanded_of_change_sized (C := Try.checked) own started (by kernel_rfl) Try.func8
    (ChangeSpec.witness6 (enc := enc) (C := Try.checked) false ⟨#[], #[.agg #[.int .i64 0, .int .i64 0, .int .i64 0, .int .i64 0], .slice none 0 0, .int .i64 0, .agg #[.int .u64 0, .slice none 0 0]], []⟩ 8 (by kernel_rfl) (by kernel_rfl) (by kernel_rfl) (by kernel_rfl)) ?_
  intro W base args ds gs before hval0 hW hcnd hsz0 _
  have hval : ∀ (j : Nat) t v, Try.f8.params[j]? = some t → args[j]? = some v → Value.okWide Try.prog W .any base t v := hval0
  have hW' := hW
  obtain ⟨p, q, hA0, hV, rfl, hfz, hnd⟩ := hW
  have hA : DataW.TrodAll enc Try.prog W 0 (fun _ => true) true Try.f8.params.toList args.toList ds p := hA0
  rw [Try.params8] at hA hval
  obtain ⟨v0, vs0, d0, ds0, p0, q0, hargs, rfl, rfl, h0, r0⟩ := trodAll_cons hA
  obtain ⟨v1, vs1, d1, ds1, p1, q1, rfl, rfl, rfl, h1, r1⟩ := trodAll_cons r0
  obtain ⟨v2, vs2, d2, ds2, p2, q2, rfl, rfl, rfl, h2, r2⟩ := trodAll_cons r1
  obtain ⟨v3, vs3, d3, ds3, p3, q3, rfl, rfl, rfl, h3, r3⟩ := trodAll_cons r2
  obtain ⟨rfl, rfl, rfl⟩ := trodAll_nil r3
  obtain rfl : args = #[v0, v1, v2, v3] := by cases args; simp_all
  obtain ⟨rfl, rfl⟩ := trodVars_none hV
  have k0 := h0
  have lt0 : ∀ x ∈ p0, x.block < W.heap.size := by obtain ⟨m, hm⟩ := k0; exact DataW.trod_lt m _ _ _ hm
  obtain ⟨s0, rfl, c0⟩ := Shp.open_shape (hval 0 23 v0 rfl rfl) h0
  obtain ⟨a1, len1, cap1, rfl⟩ := okWide_slice Try.underlying64 (hval 1 64 v1 rfl rfl)
  have k1 := h1
  have lt1 : ∀ x ∈ p1, x.block < W.heap.size := by obtain ⟨m, hm⟩ := k1; exact DataW.trod_lt m _ _ _ hm
  obtain ⟨l1, c1, le1⟩ := open_kd Try.underlying64 (by kernel_rfl) (Ck.opn_zone') h1
  obtain ⟨a2, rfl, rfl, rfl, w2⟩ := open_int Try.underlying3 (hval 2 3 v2 rfl rfl) h2
  have k3 := h3
  have lt3 : ∀ x ∈ p3, x.block < W.heap.size := by obtain ⟨m, hm⟩ := k3; exact DataW.trod_lt m _ _ _ hm
  obtain ⟨s3, rfl, c3⟩ := Ck.open_st (hval 3 27 v3 rfl rfl) h3
  clear hA0 hval0 hsz0
  refine (Ck.csaves_row W s0 c0 a1 len1 cap1 l1 le1 c1 a2 (wf_i64 w2) s3 c3).mono fun e W' ⟨he, bel⟩ => ?_
  subst he
  exact ⟨_, rfl, _, _, _, [], _, [], hW', trodAll_mk1 (shut_bool Try.underlying4 _), (trodAll_cons_mk (Below.trod laidOut (by kernel_rfl) (of_decide_eq_true (by kernel_rfl)) k0 bel lt0) (trodAll_cons_mk (Below.trod laidOut (by kernel_rfl) (of_decide_eq_true (by kernel_rfl)) k1 bel lt1) (trodAll_cons_mk (shut_int Try.underlying3 w2) (trodAll_cons_mk (Below.trod laidOut (by kernel_rfl) (of_decide_eq_true (by kernel_rfl)) k3 bel lt3) trodAll_mk0)))), rfl, bel.frame _, fun h => by cases h⟩
theorem over : Rows.ckptSavesRow.holds Try.pinned (OpenSpec.ofChange Rows.ckptSavesSpec) :=
  OpenClaim.holds_of_wide 8 Try.f8 rfl rfl rfl rfl rfl rfl rfl ⟨rfl, rfl, rfl, rfl, rfl⟩ rfl rfl rfl rfl rfl (by kernel_rfl) Try.func8 (by kernel_rfl)
    (of_decide_eq_true (by kernel_rfl)) (by unfold Func.isWrapper; first | (rw [if_pos (by decide +kernel)]; kernel_rfl) | (rw [if_neg (by decide +kernel)]; exact ⟨rfl, rfl⟩))
    (fun os started H enc _ => lifted os started H enc)
theorem proved : Rows.CkptSavesSaid := over
#print axioms proved
end Go.Proofs.Ytkmeipblgdahoaa.ckptSaves
namespace Go.Proofs.Ytkmeipblgdahoaa
theorem ckptSaves_holds : Rows.CkptSavesSaid := ckptSaves.proved
end Go.Proofs.Ytkmeipblgdahoaa
