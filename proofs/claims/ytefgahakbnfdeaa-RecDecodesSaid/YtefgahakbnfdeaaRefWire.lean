/- The document's wire: coamingref06.Width, Pack, Take. -/
import Derived.Test.YtefgahakbnfdeaaRecMust
import Derived.Handy
namespace Go.Proofs.Ytefgahakbnfdeaa.Rc
open Go.RowKit Go.Proofs.YtefgahakbnfdeaaW.PrintWords Go.Proofs.YtefgahakbnfdeaaW.PrintMore Go.Proofs.Ytefgahakbnfdeaa.Base
set_option linter.unusedVariables false
set_option linter.unusedSimpArgs false
theorem rwidth_calls (n : Int) (w : World) :
    Calls Try.prog 32 #[.int .i64 n] w fun e w' => e = .returned (.int .i64 (wd n : Int)) ∧ w = w' := by
  by_cases h1 : n = 1
  · subst h1
    go_enter Try.func32, Try.ntmps32
    go_wp2
    go_ret
    exact ⟨rfl, rfl⟩
  by_cases h2 : n = 2
  · subst h2
    go_enter Try.func32, Try.ntmps32
    go_wp2
    go_ret
    exact ⟨rfl, rfl⟩
  by_cases h4 : n = 4
  · subst h4
    go_enter Try.func32, Try.ntmps32
    go_wp2
    go_ret
    exact ⟨rfl, rfl⟩
  have HW := Aside0.mk (show wd n = 8 from if_neg (by omega))
  have e1 : (n == 1) = false := by rw [beq_eq_false_iff_ne]; exact h1
  have e2 : (n == 2) = false := by rw [beq_eq_false_iff_ne]; exact h2
  have e4 : (n == 4) = false := by rw [beq_eq_false_iff_ne]; exact h4
  clear h1 h2 h4
  go_enter Try.func32, Try.ntmps32
  go_wp2
  go_ret
  exact ⟨by rw [HW.out]; rfl, rfl⟩
theorem rbyte_lit (W : World) (y r : Nat) : byte.C (W.alloc (.cells #[.int .u8 ((y : Int) / 2 ^ (8 * r) % 256)] 5)) (some ⟨W.heap.size, 0, none⟩) 1 [UInt8.ofNat (y / 256 ^ r)] := by
  have := byte_lit W y r
  rwa [show 8 * (r + 1) - 8 = 8 * r from by omega] at this
set_option maxRecDepth 100000 in
set_option maxHeartbeats 2000000 in
theorem rpack_calls (A : Option Addr) (n c : Nat) (ws : List Int) (B : Option Addr) (m d : Nat) (vs : List Nat) (w : World) (h : (num .i64).C w A n ws) (g : (nat .u64).C w B m vs) (hn : n ≤ 1000) (hm : m ≤ 1000) :
    Calls Try.prog 24 #[.slice A n c, .slice B m d] w fun e w' => ∃ v, e = .returned v ∧ Base.Own w' w.heap.size v (pack ws vs) ∧ Below w.heap.size w w' := by
  obtain ⟨hl, hmx⟩ := C_len h
  obtain ⟨gl, gmx⟩ := C_len g
  have HL := Aside0.mk hl
  have GL := Aside0.mk gl
  have HC := Aside0.mk h
  have GC := Aside0.mk g
  obtain ⟨q, hq⟩ : ∃ q, min n m = q := ⟨_, rfl⟩
  have HQ := Aside0.mk hq
  have hqn : q ≤ n := by omega
  have hqm : q ≤ m := by omega
  clear h g hl gl hq
  go_enter Try.func24, Try.ntmps24
  go_wp2
  go_loopg [5, 6] q (fun k v5 v6 wr => ∃ (i : Nat) (l : List UInt8), v6 = .int .i64 (i : Int) ∧ i ≤ q ∧ Aside0 (k + i = q) ∧ Aside0 (l = pack (ws.take i) (vs.take i)) ∧ Aside0 (Base.Own wr w.heap.size v5 l) ∧ Aside0 (Below w.heap.size w wr))
  case atStart => exact ⟨0, [], rfl, by omega, ⟨rfl⟩, ⟨by simp [pack]⟩, ⟨Own.nil _ _⟩, ⟨Below.refl _ _⟩⟩
  case round =>
    obtain ⟨i, l, rfl, hi, HK, HP, HO, HB⟩ := hrel
    by_cases hlt : i < q
    · obtain ⟨pa, rfl, e0, hwf⟩ := num_at (Kd.C_below HC.out HB.out) i (by omega)
      obtain ⟨x, hx⟩ : ∃ x, ws.getD i 0 = x := ⟨_, rfl⟩
      rw [hx] at e0 hwf
      have HX := Aside0.mk hx
      have hd0 : decide ((i : Int) < (n : Int)) = true := decide_eq_true (by omega)
      have hd0' : decide (i < n) = true := decide_eq_true (by omega)
      have hd1 : decide ((i : Int) < (m : Int)) = true := decide_eq_true (by omega)
      have hd1' : decide (i < m) = true := decide_eq_true (by omega)
      have HWF := Aside0.mk hwf
      have hw8 := wd_pos x
      clear hx hwf
      go_wp2_with fail
      refine (rwidth_calls x _).mono ?_
      rintro e w2 ⟨rfl, rfl⟩
      obtain ⟨k, hk⟩ : ∃ k, wd x = k := ⟨_, rfl⟩
      rw [hk] at hw8 ⊢
      have HKW := Aside0.mk hk
      clear hk hd0 hd0' hd1 hd1'
      obtain ⟨pv, rfl, f0, hwv⟩ := nat_at (Kd.C_below GC.out HB.out) i (by omega)
      obtain ⟨y, hy⟩ : ∃ y, vs.getD i 0 = y := ⟨_, rfl⟩
      rw [hy] at f0 hwv
      have HY := Aside0.mk hy
      have HIM := Aside0.mk (show i < m from by omega)
      clear hy hwv f0
      go_wp2
      clear e0
      obtain ⟨wo, rfl⟩ : ∃ wo : World, wo = wr := ⟨_, rfl⟩
      go_loopg [5, 7] k (fun g v5 v7 wr => ∃ (r : Nat) (z : Int) (l1 : List UInt8), v7 = .int .i64 z ∧ r ≤ k ∧ Aside0 (z = (r : Int) - 1) ∧ Aside0 (g = r) ∧ Aside0 (l1 ++ be r y = l ++ be k y) ∧ Aside0 (Base.Own wr w.heap.size v5 l1) ∧ Aside0 (Below w.heap.size w wr))
      case atStart => exact ⟨k, (k : Int) - 1, l, rfl, by omega, ⟨rfl⟩, ⟨rfl⟩, ⟨rfl⟩, HO, HB⟩
      case round =>
        obtain ⟨r, z, l1, rfl, hr, HZ, HG1, HP1, HO1, HB1⟩ := hrel
        cases r with
        | zero =>
          obtain rfl : z = -1 := by have := HZ.out; omega
          go_wp2
          go_roundg (q - (i + 1))
          case measure => have := HK.out; omega
          case rel =>
            refine ⟨i + 1, l1, by congr 1, by omega, ⟨by omega⟩, ⟨?_⟩, HO1, HB1⟩
            have h1 := HP1.out
            have h2 := HL.out
            have h3 := GL.out
            rw [pack_cons ws vs i (by omega) (by omega), HX.out, HY.out, HKW.out, ← HP.out, ← h1]
            simp [be]
        | succ r =>
          obtain rfl : z = (r : Int) := by have := HZ.out; omega
          obtain ⟨pv', hpv, f0, -⟩ := nat_at (Kd.C_below GC.out HB1.out) i HIM.out
          injection hpv with hpv
          subst hpv
          rw [HY.out] at f0
          obtain ⟨A1, n1, c1, rfl, hc1, hC1⟩ := HO1.out.reads
          have HLE := Aside0.mk (show l1.length ≤ 100000 from by
            have h1 := congrArg List.length HP1.out
            have h2 := pack_len (ws.take i) (vs.take i)
            rw [← HP.out, List.length_take] at h2
            simp only [List.length_append, be_len] at h1
            omega)
          go_wp2_with (at_builtin; (refine app_row (w0 := w) w.heap.size (.tmp 30) (.tmp 40) rfl rfl _ l1 [UInt8.ofNat (y / 256 ^ r)] _ _ _ rfl rfl (HO1.out.below (alloc_below _ _)) (rbyte_lit wr y r) (below_alloc HB1.out _) (below_alloc HB1.out _).size (by have := HLE.out; omega) ?_); intro v2 w2 hO2 hB2 _; (have HO2 := Aside0.mk hO2; have HB2 := Aside0.mk hB2; clear hO2 hB2))
          go_wp2
          go_roundg r
          case measure => have := HG1.out; omega
          case rel => exact ⟨r, _, _, rfl, by omega, ⟨rfl⟩, ⟨rfl⟩, ⟨by rw [← HP1.out]; simp [be]⟩, HO2, HB2⟩
    · obtain rfl : i = q := by omega
      have he : pack (ws.take i) (vs.take i) = pack ws vs := pack_short ws vs i (by rw [HL.out, GL.out]; exact HQ.out.symm)
      have HE := Aside0.mk he
      clear he
      by_cases hin : i < n
      · have hd0 : decide ((i : Int) < (n : Int)) = true := decide_eq_true (by omega)
        have hd0' : decide (i < n) = true := decide_eq_true (by omega)
        have hd1 : decide ((i : Int) < (m : Int)) = false := decide_eq_false (by have := HQ.out; omega)
        have hd1' : decide (i < m) = false := decide_eq_false (by have := HQ.out; omega)
        go_wp2
        go_ret
        refine ⟨_, rfl, ?_, HB.out⟩
        have h1 := HO.out
        rw [HP.out, HE.out] at h1
        exact h1
      · have hd0 : decide ((i : Int) < (n : Int)) = false := decide_eq_false (by omega)
        have hd0' : decide (i < n) = false := decide_eq_false (by omega)
        go_wp2
        go_ret
        refine ⟨_, rfl, ?_, HB.out⟩
        have h1 := HO.out
        rw [HP.out, HE.out] at h1
        exact h1
section
variable {ops : Array Oper} {rest : List Oper} {o : Oper} {a : Act} {Q : Exit → Act → World → Prop}
/-- append(v, x): a number. -/
theorem app_u64 {w0 W : World} (base : Nat) (s x : Operand) (hgd : o.guard = none) (ho : o.op = .call { callee := .builtin .append, args := #[s, x], argTypes := #[56, 56] })
    (v : Value) (xs : List Nat) (y : Nat) (hy : (Lit.int .u64 (y : Int)).wf = true) (hs : a.eval s = v) (hx : a.eval x = .slice (some ⟨W.heap.size, 0, none⟩) 1 1)
    (HO : OwnU W base v xs) (HB : Below base w0 W) (hbase : base ≤ W.heap.size) (hl : xs.length ≤ 100000)
    (h : ∀ v1 w1, OwnU w1 base v1 (xs ++ [y]) → Below base w0 w1 → W.grownBy w1 v.ownBlock → wpList Try.prog ops Q rest (a.put o.dst v1) w1) :
    wpList Try.prog ops Q (o :: rest) a (W.alloc (.cells #[.int .u64 (y : Int)] 22)) :=
  Kd.R_append (nat .u64) (w0 := w0) base hgd s x 56 22 (.int .u64 0) 8 ho Try.underlying56 info_u64 rfl (by decide) (by decide) v xs y [.int .u64 (y : Int)] anyB (fun _ => False) hs hx ⟨rfl, hy⟩ (fun _ h => h.elim) (fun _ _ => trivial) HO HB hbase (by omega) (fun v1 w1 h1 h2 h3 _ => h v1 w1 h1 h2 h3)
end
set_option maxRecDepth 100000 in
set_option maxHeartbeats 4000000 in
theorem rtake_calls (A : Option Addr) (n c : Nat) (b : List UInt8) (B : Option Addr) (m d : Nat) (ws : List Int) (w : World) (h : byte.C w A n b) (hnc : n ≤ c) (hc : c ≤ 9223372036854775807) (hn : n ≤ 100000000) (hw : (num .i64).C w B m ws) (hm : m ≤ 1000) :
    Calls Try.prog 28 #[.slice A n c, .slice B m d] w (TakeP w (take b ws)) := by
  obtain ⟨wl, wmx⟩ := C_len hw
  obtain ⟨bl, bmx⟩ := C_len h
  have HWL := Aside0.mk wl
  have HBL := Aside0.mk bl
  have HWC := Aside0.mk hw
  have HC := Aside0.mk h
  clear h hw wl bl
  go_enter Try.func28, Try.ntmps28
  go_wp2
  go_loopg [7, 8, 9] m (fun g v7 v8 v9 wr => ∃ (i at_ : Nat) (l : List Nat), v9 = .int .i64 (i : Int) ∧ v8 = .int .i64 (at_ : Int) ∧ i ≤ m ∧ at_ ≤ n ∧ Aside0 (g + i = m) ∧ Aside0 (l.length = i) ∧ Aside0 (OwnU wr w.heap.size v7 l) ∧ Aside0 (Below w.heap.size w wr) ∧ Aside0 ((take (b.drop at_) (ws.drop i)).map (fun p => (l ++ p.1, p.2)) = take b ws))
  case atStart => exact ⟨0, 0, [], rfl, rfl, by omega, by omega, ⟨rfl⟩, ⟨rfl⟩, ⟨Kd.R_nil _ _ _ _ _⟩, ⟨Below.refl _ _⟩, ⟨by simp⟩⟩
  case round =>
    obtain ⟨i, at_, l, rfl, rfl, hi, hat, HK, HL, HO, HB, HP⟩ := hrel
    by_cases hlt : i < m
    · obtain ⟨pa, hpa, e0, hwf⟩ := num_at (Kd.C_below HWC.out HB.out) i (by omega)
      subst hpa
      obtain ⟨x, hx⟩ : ∃ x, ws.getD i 0 = x := ⟨_, rfl⟩
      rw [hx] at e0 hwf
      have HX := Aside0.mk hx
      have hd0 : decide ((i : Int) < (m : Int)) = true := decide_eq_true (by omega)
      have hd0' : decide (i < m) = true := decide_eq_true hlt
      have hw8 := wd_pos x
      have HDL := Aside0.mk (show (b.drop at_).length = n - at_ by rw [List.length_drop, HBL.out])
      clear hx hwf
      go_wp2_with fail
      refine (rwidth_calls x _).mono ?_
      rintro e w2 ⟨rfl, rfl⟩
      obtain ⟨k, hk⟩ : ∃ k, wd x = k := ⟨_, rfl⟩
      rw [hk] at hw8 ⊢
      have HKW := Aside0.mk hk
      clear hk hd0 hd0' e0
      by_cases hsh : n - at_ < k
      · have hd1 : decide ((n : Int) - (at_ : Int) < (k : Int)) = true := decide_eq_true (by omega)
        have HNone := Aside0.mk (show take b ws = none by rw [← HP.out, take_less (by rw [HWL.out]; exact hlt) HX.out (by rw [HKW.out, HDL.out]; exact hsh)]; rfl)
        clear hsh
        go_wp2
        go_ret3
        rw [HNone.out]
        exact ⟨HB.out, rfl⟩
      · have hd1 : decide ((n : Int) - (at_ : Int) < (k : Int)) = false := decide_eq_false (by omega)
        have HTM := Aside0.mk (take_more (by rw [HWL.out]; exact hlt) HX.out (by rw [HKW.out, HDL.out]; omega : wd x ≤ (b.drop at_).length) l)
        have hfit : at_ + k ≤ n := by omega
        clear hsh
        go_wp2
        clear hd1
        obtain ⟨wo, rfl⟩ : ∃ wo : World, wo = wr := ⟨_, rfl⟩
        go_loopg [11, 12] k (fun g1 v11 v12 w' => ∃ j y : Nat, v12 = .int .i64 (j : Int) ∧ v11 = .int .u64 (y : Int) ∧ j ≤ k ∧ Aside0 (g1 + j = k) ∧ Aside0 (y = un ((b.drop at_).take j)) ∧ w' = wo)
        case atStart => exact ⟨0, 0, rfl, rfl, by omega, ⟨rfl⟩, ⟨rfl⟩, rfl⟩
        case round =>
          obtain ⟨j, y, rfl, rfl, hj, HK2, HY, rfl⟩ := hrel
          by_cases hjl : j < k
          · have hd2 : decide ((j : Int) < (k : Int)) = true := decide_eq_true (by omega)
            have hd2' : decide (j < k) = true := decide_eq_true hjl
            obtain ⟨pb, hpb, f0⟩ := byte_at (Kd.C_below HC.out HB.out) (at_ + j) (by omega)
            subst hpb
            obtain ⟨z, hz⟩ : ∃ z, b.getD (at_ + j) 0 = z := ⟨_, rfl⟩
            rw [hz] at f0
            have HZ := Aside0.mk (show (b.drop at_).getD j 0 = z by rw [← hz, List.getD_eq_getElem?_getD, List.getD_eq_getElem?_getD, List.getElem?_drop])
            have hz8 := z.toNat_lt
            have hy7 : y < 72057594037927936 := by rw [HY.out]; exact un_lt7 _ (by rw [List.length_take]; omega)
            have hor := or_byte y z.toNat hz8 hy7
            have hi1 : (0 : Int) ≤ (at_ : Int) + (j : Int) := by omega
            have hi2 : (at_ : Int) + (j : Int) < (n : Int) := by omega
            clear hz
            go_wp2
            go_roundg (k - (j + 1))
            case measure => have := HK2.out; omega
            case rel => exact ⟨j + 1, y * 256 + z.toNat, by congr 1, by congr 1, by omega, ⟨by omega⟩, ⟨by rw [take_snocD (b.drop at_) 0 j (by rw [HDL.out]; omega), un_snoc, HZ.out, HY.out]⟩, rfl⟩
          · obtain rfl : j = k := by omega
            have hd2 : decide ((j : Int) < (j : Int)) = false := decide_eq_false (by omega)
            have HWY := Aside0.mk (show (Lit.int .u64 (y : Int)).wf = true by rw [HY.out]; exact wf_un _ (by rw [List.length_take]; omega))
            have HLL := Aside0.mk (show l.length ≤ 100000 by rw [HL.out]; omega)
            obtain ⟨A7, c7, rfl⟩ := Kd.R_slice HO.out
            go_wp2_with (at_builtin; (refine app_u64 (w0 := w) w.heap.size (.tmp 46) (.tmp 48) rfl rfl _ l y HWY.out rfl (by simp [Act.eval]) HO.out HB.out HB.out.size HLL.out ?_); intro v2 w2 hO2 hB2 _; (have HO2 := Aside0.mk hO2; have HB2 := Aside0.mk hB2; clear hO2 hB2))
            go_wp2
            go_roundg (m - (i + 1))
            case measure => have := HK.out; omega
            case rel => exact ⟨i + 1, at_ + j, l ++ [y], by congr 1, by congr 1, by omega, by omega, ⟨by omega⟩, ⟨by rw [List.length_append, HL.out]; rfl⟩, HO2, HB2, ⟨by
              have h1 := HTM.out
              rw [HKW.out, List.drop_drop, ← HY.out] at h1
              rw [← h1]; exact HP.out⟩⟩
    · obtain rfl : i = m := by omega
      have hd0 : decide ((i : Int) < (i : Int)) = false := decide_eq_false (by omega)
      have HRes := Aside0.mk (show take b ws = some (l, b.drop at_) by
        have h1 := HP.out
        rw [List.drop_of_length_le (l := ws) (by rw [HWL.out]; omega)] at h1
        rw [← h1]
        simp [take])
      have hcd := C_drop (Kd.C_below HC.out HB.out) hnc at_ hat
      rw [show at_ * byte.sz = at_ from by show at_ * 1 = at_; omega] at hcd
      have a1 : (at_ : Int) ≤ (n : Int) := by omega
      have a2 : (at_ : Int) ≤ (c : Int) := by omega
      by_cases hca : c = at_
      · rw [if_pos hca] at hcd
        have HCD := Aside0.mk hcd
        clear hcd
        go_wp2_with (at_builtin; (refine app_row (w0 := w) w.heap.size (.tmp 53) (.tmp 56) rfl rfl _ [] (b.drop at_) _ _ _ rfl rfl (Own.nil _ _) HCD.out HB.out HB.out.size (by simp; omega) ?_); intro v2 w2 hO2 hB2 hg2; (have HO2 := Aside0.mk hO2; have HB2 := Aside0.mk hB2; have HU2 := Aside0.mk (Kd.R_below HO.out (below_of_grown hg2)); clear hO2 hB2 hg2))
        go_ret3
        rw [HRes.out]
        exact ⟨HB2.out, _, _, rfl, HU2.out, HO2.out⟩
      · rw [if_neg hca] at hcd
        have HCD := Aside0.mk hcd
        clear hcd
        go_wp2_with (at_builtin; (refine app_row (w0 := w) w.heap.size (.tmp 53) (.tmp 56) rfl rfl _ [] (b.drop at_) _ _ _ rfl rfl (Own.nil _ _) HCD.out HB.out HB.out.size (by simp; omega) ?_); intro v2 w2 hO2 hB2 hg2; (have HO2 := Aside0.mk hO2; have HB2 := Aside0.mk hB2; have HU2 := Aside0.mk (Kd.R_below HO.out (below_of_grown hg2)); clear hO2 hB2 hg2))
        go_ret3
        rw [HRes.out]
        exact ⟨HB2.out, _, _, rfl, HU2.out, HO2.out⟩
end Go.Proofs.Ytefgahakbnfdeaa.Rc
