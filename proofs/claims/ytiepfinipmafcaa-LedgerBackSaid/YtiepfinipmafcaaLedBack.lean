/- LedgerBack: what was taken and given back leaves all as it was; what is refused, too. -/
import Derived.Test.YtiepfinipmafcaaLedDoes
namespace Go.Proofs.Ytiepfinipmafcaa.Led
open Go.RowKit Go.Maps Go.Proofs.YtiepfinipmafcaaW.PrintWords Go.Proofs.YtiepfinipmafcaaW.PrintMore Go.Proofs.Ytiepfinipmafcaa.Base
set_option linter.unusedVariables false
set_option linter.unusedSimpArgs false
theorem opF_yes (f : Nat → Option (Nat × Nat)) (k m : Nat) : opF true f k m = giveF f k m := rfl
theorem opF_no (f : Nat → Option (Nat × Nat)) (k m : Nat) : opF false f k m = takeF f k m := rfl
/-- Taken, and given back: as it was. -/
theorem give_take {f : Nat → Option (Nat × Nat)} {k m y z : Nat} (hyz : (f k).getD (0, 0) = (y, z)) (h : m ≤ y - z) : giveF (takeF f k m) k m = f := by
  rw [takeF_yes hyz h]
  cases hf : f k with
  | none =>
    have e : setF f k (y, z + m) = f := by unfold setF; rw [hf]; rfl
    rw [e]
    unfold giveF setF
    rw [hf]
    simp
  | some p =>
    rw [hf] at hyz
    have hp : p = (y, z) := hyz
    have e : setF f k (y, z + m) = upd f k (y, z + m) := by unfold setF; rw [hf]; rfl
    rw [e]
    have e2 : (upd f k (y, z + m) k).getD (0, 0) = (y, z + m) := by simp [upd]
    rw [giveF_yes e2 (by omega)]
    have e3 : setF (upd f k (y, z + m)) k (y, z + m - m) = upd (upd f k (y, z + m)) k (y, z + m - m) := by unfold setF; simp [upd]
    rw [e3]
    funext j
    unfold upd
    by_cases hj : j = k
    · subst hj
      simp only [if_true]
      rw [hf, hp]
      congr 2
      omega
    · simp only [if_neg hj]
/-- The ledger alone, while all goes well. -/
structure Inv1 (w0 w : World) (xb bm n : Nat) (f : Nat → Option (Nat × Nat)) : Prop where
  x : Ledg w xb bm n f
  gf : Good f
  big : ∀ k, (f k).isSome = true → k < 4294967296
  below : Below w0.heap.size w0 w
  o2 : w0.heap.size ≤ xb ∧ w0.heap.size ≤ bm
section
variable {w0 w w1 : World} {xb bm n k m : Nat} {f f' : Nat → Option (Nat × Nat)}
theorem Inv1.go (h : Inv1 w0 w xb bm n f) (hb : Below w.heap.size w w1) : Inv1 w0 w1 xb bm n f :=
  ⟨h.x.below hb, h.gf, h.big, below_then h.below h.below.size hb, h.o2⟩
theorem Inv1.op (h : Inv1 w0 w xb bm n f) (hl : Ledg w1 xb bm (n + 1) f') (hg : w.grownBy w1 (some bm)) (gf : Good f') (big : ∀ k, (f' k).isSome = (f k).isSome) : Inv1 w0 w1 xb bm (n + 1) f' :=
  ⟨hl, gf, fun k hk => h.big k (by rw [← big]; exact hk), h.below.grown hg h.below.size (fun j hj => by simp at hj; have := h.o2; omega), h.o2⟩
end
/-- A list of the call's own stays while the map turns. -/
theorem used_kept {w w1 : World} {b bm : Nat} {v : Value} {xs : List (Nat × Nat)} (h : Kd.N usedK 72 w b (fun k => b ≤ k) v xs) (hg : w.grownBy w1 (some bm)) (hb : bm < b) : Kd.N usedK 72 w1 b (fun k => b ≤ k) v xs :=
  Kd.N_grown h hg (fun k hk e => by simp at e; omega)
/-! The walk. -/
set_option maxRecDepth 100000 in
set_option maxHeartbeats 4000000 in
theorem lback_calls (A : Option Addr) (n cap : Nat) (xs : List Ten) (A' : Option Addr) (n' cap' : Nat) (ys : List LOp) (k : Nat) (hk : k < 4294967296) (m : Nat) (hm : m < 18446744073709551616) (w : World) (h : tenK.C w A n xs) (h' : opK.C w A' n' ys) :
    Calls Try.prog 7 #[.slice A n cap, .slice A' n' cap', .int .u32 (k : Int), .int .u64 (m : Int)] w fun e w' => e = .returned (.bool true) ∧ Below w.heap.size w w' := by
  obtain ⟨hlen', hmax'⟩ := C_len h'
  obtain ⟨hlen, hmax⟩ := C_len h
  have H := Aside0.mk h
  have H' := Aside0.mk h'
  have HLen := Aside0.mk hlen
  have HLen' := Aside0.mk hlen'
  clear h h' hlen hlen'
  by_cases hn' : n' ≤ 200
  · go_enter Try.func7, Try.ntmps7
    go_wp2_with fail
    refine (tenants_calls A n cap xs _ H.out).mono ?_
    rintro e w1 ⟨rfl | ⟨rfl, hn⟩, rfl⟩
    · go_wp2_with fail
      refine (known_calls _).mono ?_
      rintro e w2 ⟨rfl, hw2⟩
      go_wp2
      go_ret
      exact ⟨rfl, hw2⟩
    · go_wp2_with fail
      refine (known_calls _).mono ?_
      rintro e w2 ⟨rfl, hw2⟩
      have HB2 := Aside0.mk hw2
      clear hw2
      go_wp2_with fail
      refine (new_calls A n cap xs (by omega) _ (Kd.C_below H.out HB2.out)).mono ?_
      rintro e w3 ⟨xb, bm, rfl, hl3, hx3, hb3, hw3⟩
      have HI := Aside0.mk (show Inv1 w w3 xb bm n (newF xs) from by
        have hg := Good.newF (l := xs) (fun t ht => (ten_bounds H.out t ht).2)
        exact ⟨hl3, hg, newF_big H.out, below_go HB2.out hw3, by have := HB2.out.size; omega, by have := HB2.out.size; omega⟩)
      clear hl3 hx3 hb3 hw3 HB2
      go_wp2
      go_loopg [11] n' (fun g v11 wr => ∃ i : Nat, v11 = .int .i64 (i : Int) ∧ i ≤ n' ∧ Aside0 (g + i = n') ∧ Aside0 (∃ f, Inv1 w wr xb bm (n + i) f))
      case atStart => exact ⟨0, rfl, by omega, ⟨rfl⟩, ⟨_, HI.out⟩⟩
      case round =>
        obtain ⟨i, rfl, hi, HK, ⟨f, hinv⟩⟩ := hrel
        have HV := Aside0.mk hinv
        clear hinv
        obtain ⟨Wr, rfl⟩ : ∃ Wr : World, Wr = wr := ⟨_, rfl⟩
        by_cases hlt : i < n'
        · obtain ⟨o, ho⟩ : ∃ o, ys.getD i (false, 0, 0) = o := ⟨_, rfl⟩
          obtain ⟨ad, rfl, h1, h2, c0, c1, c2⟩ := op_at (Kd.C_below H'.out HV.out.below) i hlt o ho
          obtain ⟨gv, t, q⟩ := o
          simp only at h1 h2 c0 c1 c2
          have HCW := Aside0.mk (show w.cell? ⟨(ad.add (i * 3)).block, (ad.add (i * 3)).off + 1, none⟩ = some (.int .u32 (t : Int)) ∧ w.cell? ⟨(ad.add (i * 3)).block, (ad.add (i * 3)).off + 2, none⟩ = some (.int .u64 (q : Int)) by
            obtain ⟨ad', e', -, -, -, d1, d2⟩ := op_at H'.out i hlt _ ho
            obtain rfl := Option.some.inj e'
            exact ⟨d1, d2⟩)
          obtain ⟨⟨y, z⟩, hyz⟩ : ∃ x, (f t).getD (0, 0) = x := ⟨_, rfl⟩
          have HYZ := Aside0.mk hyz
          have HVD := Aside0.mk (HV.out.go (below_drew (Below.refl _ _)))
          clear ho hyz
          cases gv with
          | true =>
            go_wp2
            go_region_held3 (fun w' => w'.cell? ⟨(ad.add (i * 3)).block, (ad.add (i * 3)).off + 1, none⟩ = some (.int .u32 (t : Int)) ∧ w'.cell? ⟨(ad.add (i * 3)).block, (ad.add (i * 3)).off + 2, none⟩ = some (.int .u64 (q : Int)))
              (first | exact ⟨c1, c2⟩ | (have hbw := (HVD.out.op hl6 hg6 (HVD.out.gf.giveF _ _) (giveF_some f t q)).below; exact ⟨pw_cell_below hbw HCW.out.1, pw_cell_below hbw HCW.out.2⟩))
              (first | (go_at_call 14; (with_reducible refine (give_calls xb bm (n + i) t q f h1 h2 (by unfold maxLen; omega) HVD.out.gf y z HYZ.out _ HVD.out.x).mono ?_); rintro e w6 ⟨rfl, hl6, hg6⟩))
            have HV6 := Aside0.mk (HVD.out.op hl6 hg6 (HVD.out.gf.giveF _ _) (giveF_some f t q))
            clear hl6 hg6
            go_wp2
            go_roundg (gk - 1)
            case measure => have := HK.out; omega
            case rel => exact ⟨i + 1, by congr 1, by omega, ⟨by have := HK.out; omega⟩, ⟨_, HV6.out⟩⟩
          | false =>
            go_wp2
            go_region_held3 (fun w' => w'.cell? ⟨(ad.add (i * 3)).block, (ad.add (i * 3)).off + 1, none⟩ = some (.int .u32 (t : Int)) ∧ w'.cell? ⟨(ad.add (i * 3)).block, (ad.add (i * 3)).off + 2, none⟩ = some (.int .u64 (q : Int)))
              (first | exact ⟨c1, c2⟩ | (have hbw := (HVD.out.op hl6 hg6 (HVD.out.gf.takeF _ _) (takeF_some f t q)).below; exact ⟨pw_cell_below hbw HCW.out.1, pw_cell_below hbw HCW.out.2⟩))
              (first | (go_at_call 15; (with_reducible refine (take_calls xb bm (n + i) t q f h1 h2 (by unfold maxLen; omega) HVD.out.gf y z HYZ.out _ HVD.out.x).mono ?_); rintro e w6 ⟨rfl, hl6, hg6⟩))
            have HV6 := Aside0.mk (HVD.out.op hl6 hg6 (HVD.out.gf.takeF _ _) (takeF_some f t q))
            clear hl6 hg6
            go_wp2
            go_roundg (gk - 1)
            case measure => have := HK.out; omega
            case rel => exact ⟨i + 1, by congr 1, by omega, ⟨by have := HK.out; omega⟩, ⟨_, HV6.out⟩⟩
        · obtain rfl : i = n' := by omega
          have hd0 : decide ((i : Int) < (i : Int)) = false := decide_eq_false (by omega)
          go_wp2_with fail
          refine (all_calls xb bm (n + i) f (by omega) HV.out.gf HV.out.big _ HV.out.x).mono ?_
          rintro e wa ⟨va, ks, rfl, hrise, -, hNa, hwa⟩
          have HVa := Aside0.mk (HV.out.go hwa)
          obtain ⟨Aa, na, ca, rfl, -, -⟩ := N_open hNa
          have HRISE := Aside0.mk hrise
          have HBB := Aside0.mk (show bm < Wr.heap.size from HV.out.x.acc.lt)
          have HNa := Aside0.mk hNa
          obtain ⟨⟨y, z⟩, hyz⟩ : ∃ x, (f k).getD (0, 0) = x := ⟨_, rfl⟩
          have hy64 : y < 18446744073709551616 ∧ z ≤ y := by have h1 := HV.out.gf k; rw [hyz] at h1; exact ⟨h1.2, h1.1⟩
          have HYZ := Aside0.mk hyz
          obtain ⟨hy1, hy2⟩ := hy64
          clear hwa hrise hNa HV hyz
          go_wp2_with fail
          refine (left_calls xb bm (n + i) k f hk HVa.out.gf y z HYZ.out _ HVa.out.x).mono ?_
          rintro e w5 ⟨rfl, hw5⟩
          have HV5 := Aside0.mk (HVa.out.go hw5)
          have HN5 := Aside0.mk (Kd.N_below HNa.out hw5)
          clear hw5 HVa HNa
          go_wp2_with fail
          refine (take_calls xb bm (n + i) k m f hk hm (by unfold maxLen; omega) HV5.out.gf y z HYZ.out _ HV5.out.x).mono ?_
          rintro e w6 ⟨rfl, hl6, hg6⟩
          have HV6 := Aside0.mk (HV5.out.op hl6 hg6 (HV5.out.gf.takeF _ _) (takeF_some f k m))
          have HN6 := Aside0.mk (used_kept HN5.out hg6 HBB.out)
          clear hl6 hg6 HV5 HN5
          by_cases hok : m ≤ y - z
          · have hd1 : decide (m ≤ y - z) = true := decide_eq_true hok
            have hd2 : decide ((m : Int) ≤ ((y - z : Nat) : Int)) = true := decide_eq_true (by omega)
            rw [hd1]
            obtain ⟨⟨y2, z2⟩, hyz2⟩ : ∃ x, (takeF f k m k).getD (0, 0) = x := ⟨_, rfl⟩
            have hz2 : m ≤ z2 := by
              rw [takeF_yes HYZ.out hok] at hyz2
              have h0 := HYZ.out
              unfold setF at hyz2
              cases hf : f k with
              | none =>
                rw [hf] at hyz2 h0
                simp at h0
                simp [hf] at hyz2
                omega
              | some p =>
                rw [hf] at hyz2
                simp [upd] at hyz2
                omega
            have HYZ2 := Aside0.mk hyz2
            have hd4 : decide (m ≤ z2) = true := decide_eq_true hz2
            have HBACK := Aside0.mk (give_take HYZ.out hok)
            have HD4 := Aside0.mk hd4
            clear hyz2 hz2 hok hd4
            go_wp2_with fail
            refine (give_calls xb bm (n + i + 1) k m (takeF f k m) hk hm (by unfold maxLen; omega) HV6.out.gf y2 z2 HYZ2.out _ HV6.out.x).mono ?_
            rw [HD4.out, HBACK.out]
            rintro e w7 ⟨rfl, hl7, hg7⟩
            have HV7 := Aside0.mk (show Inv1 w w7 xb bm (n + i + 1 + 1) f from HV6.out.op hl7 hg7 (by have h1 := HV6.out.gf.giveF k m; rw [HBACK.out] at h1; exact h1) (fun j => (takeF_some f k m j).symm))
            have HNw := Aside0.mk (used_kept HN6.out hg7 HBB.out)
            clear hl7 hg7 HV6 HN6
            by_cases hbig : y - z < 18446744073709551615
            · have hd3 : decide (((y - z : Nat) : Int) < 18446744073709551615) = true := decide_eq_true (by omega)
              have hd3' : decide (y - z < 18446744073709551615) = true := decide_eq_true hbig
              have hwr : IntKind.u64.wrap (((y - z : Nat) : Int) + 1) = ((y - z + 1 : Nat) : Int) := by rw [IntKind.wrap_u64]; omega
              have hm1 : y - z + 1 < 18446744073709551616 := by omega
              have hno : ¬ (y - z + 1 ≤ y - z) := by omega
              have HNO := Aside0.mk hno
              clear hbig hno
              go_wp2_with fail
              refine (take_calls xb bm (n + i + 1 + 1) k (y - z + 1) f hk hm1 (by unfold maxLen; omega) HV7.out.gf y z HYZ.out _ HV7.out.x).mono ?_
              rw [decide_eq_false HNO.out, takeF_no HYZ.out HNO.out]
              rintro e w9 ⟨rfl, hl9, hg9⟩
              have HNw := Aside0.mk (used_kept HNw.out hg9 HBB.out)
              have HV9 := Aside0.mk (HV7.out.op hl9 hg9 HV7.out.gf (fun _ => rfl))
              clear hl9 hg9 hd3 hd3' hwr
              go_wp2_with fail
              refine (all_calls xb bm (n + i + 1 + 1 + 1) f (by omega) HV9.out.gf HV9.out.big _ HV9.out.x).mono ?_
              rintro e wa ⟨vb, ks2, rfl, hrise2, -, hNb, hwa⟩
              have HVa := Aside0.mk (HV9.out.go hwa)
              rw [hrise2.uniq HRISE.out] at hNb
              obtain ⟨Ab, nb, cb, rfl, -, -⟩ := N_open hNb
              have HCb := Aside0.mk (used_C hNb)
              have HCa := Aside0.mk (used_C (Kd.N_below HNw.out hwa))
              clear hwa hrise2 hNb
              go_wp2_with fail
              refine (sameused_calls Ab Aa nb na cb ca _ _ HCb.out HCa.out).mono ?_
              rintro e wb ⟨rfl, hwb⟩
              have HVb := Aside0.mk (HVa.out.go hwb)
              clear hwb HVa
              go_wp2_with fail
              refine (left_calls xb bm (n + i + 1 + 1 + 1) k f hk HVb.out.gf y z HYZ.out _ HVb.out.x).mono ?_
              rintro e wc ⟨rfl, hwc⟩
              have HVc := Aside0.mk (HVb.out.go hwc)
              clear hwc HVb
              go_wp2
              go_ret
              exact ⟨rfl, HVc.out.below⟩
            · have hd3 : decide (((y - z : Nat) : Int) < 18446744073709551615) = false := decide_eq_false (by omega)
              have hd3' : decide (y - z < 18446744073709551615) = false := decide_eq_false hbig
              clear hbig
              go_wp2_with fail
              refine (all_calls xb bm (n + i + 1 + 1) f (by omega) HV7.out.gf HV7.out.big _ HV7.out.x).mono ?_
              rintro e wa ⟨vb, ks2, rfl, hrise2, -, hNb, hwa⟩
              have HVa := Aside0.mk (HV7.out.go hwa)
              rw [hrise2.uniq HRISE.out] at hNb
              obtain ⟨Ab, nb, cb, rfl, -, -⟩ := N_open hNb
              have HCb := Aside0.mk (used_C hNb)
              have HCa := Aside0.mk (used_C (Kd.N_below HNw.out hwa))
              clear hwa hrise2 hNb
              go_wp2_with fail
              refine (sameused_calls Ab Aa nb na cb ca _ _ HCb.out HCa.out).mono ?_
              rintro e wb ⟨rfl, hwb⟩
              have HVb := Aside0.mk (HVa.out.go hwb)
              clear hwb HVa
              go_wp2_with fail
              refine (left_calls xb bm (n + i + 1 + 1) k f hk HVb.out.gf y z HYZ.out _ HVb.out.x).mono ?_
              rintro e wc ⟨rfl, hwc⟩
              have HVc := Aside0.mk (HVb.out.go hwc)
              clear hwc HVb
              go_wp2
              go_ret
              exact ⟨rfl, HVc.out.below⟩
          · have hd1 : decide (m ≤ y - z) = false := decide_eq_false hok
            have hd2 : decide ((m : Int) ≤ ((y - z : Nat) : Int)) = false := decide_eq_false (by omega)
            rw [hd1]
            have HV7 := Aside0.mk (show Inv1 w w6 xb bm (n + i + 1) f from by have h1 := HV6.out; rw [takeF_no HYZ.out hok] at h1; exact h1)
            have HNw := HN6
            clear HV6 HN6 hok
            by_cases hbig : y - z < 18446744073709551615
            · have hd3 : decide (((y - z : Nat) : Int) < 18446744073709551615) = true := decide_eq_true (by omega)
              have hd3' : decide (y - z < 18446744073709551615) = true := decide_eq_true hbig
              have hwr : IntKind.u64.wrap (((y - z : Nat) : Int) + 1) = ((y - z + 1 : Nat) : Int) := by rw [IntKind.wrap_u64]; omega
              have hm1 : y - z + 1 < 18446744073709551616 := by omega
              have hno : ¬ (y - z + 1 ≤ y - z) := by omega
              have HNO := Aside0.mk hno
              clear hbig hno
              go_wp2_with fail
              refine (take_calls xb bm (n + i + 1) k (y - z + 1) f hk hm1 (by unfold maxLen; omega) HV7.out.gf y z HYZ.out _ HV7.out.x).mono ?_
              rw [decide_eq_false HNO.out, takeF_no HYZ.out HNO.out]
              rintro e w9 ⟨rfl, hl9, hg9⟩
              have HNw := Aside0.mk (used_kept HNw.out hg9 HBB.out)
              have HV9 := Aside0.mk (HV7.out.op hl9 hg9 HV7.out.gf (fun _ => rfl))
              clear hl9 hg9 hd3 hd3' hwr
              go_wp2_with fail
              refine (all_calls xb bm (n + i + 1 + 1) f (by omega) HV9.out.gf HV9.out.big _ HV9.out.x).mono ?_
              rintro e wa ⟨vb, ks2, rfl, hrise2, -, hNb, hwa⟩
              have HVa := Aside0.mk (HV9.out.go hwa)
              rw [hrise2.uniq HRISE.out] at hNb
              obtain ⟨Ab, nb, cb, rfl, -, -⟩ := N_open hNb
              have HCb := Aside0.mk (used_C hNb)
              have HCa := Aside0.mk (used_C (Kd.N_below HNw.out hwa))
              clear hwa hrise2 hNb
              go_wp2_with fail
              refine (sameused_calls Ab Aa nb na cb ca _ _ HCb.out HCa.out).mono ?_
              rintro e wb ⟨rfl, hwb⟩
              have HVb := Aside0.mk (HVa.out.go hwb)
              clear hwb HVa
              go_wp2_with fail
              refine (left_calls xb bm (n + i + 1 + 1) k f hk HVb.out.gf y z HYZ.out _ HVb.out.x).mono ?_
              rintro e wc ⟨rfl, hwc⟩
              have HVc := Aside0.mk (HVb.out.go hwc)
              clear hwc HVb
              go_wp2
              go_ret
              exact ⟨rfl, HVc.out.below⟩
            · have hd3 : decide (((y - z : Nat) : Int) < 18446744073709551615) = false := decide_eq_false (by omega)
              have hd3' : decide (y - z < 18446744073709551615) = false := decide_eq_false hbig
              clear hbig
              go_wp2_with fail
              refine (all_calls xb bm (n + i + 1) f (by omega) HV7.out.gf HV7.out.big _ HV7.out.x).mono ?_
              rintro e wa ⟨vb, ks2, rfl, hrise2, -, hNb, hwa⟩
              have HVa := Aside0.mk (HV7.out.go hwa)
              rw [hrise2.uniq HRISE.out] at hNb
              obtain ⟨Ab, nb, cb, rfl, -, -⟩ := N_open hNb
              have HCb := Aside0.mk (used_C hNb)
              have HCa := Aside0.mk (used_C (Kd.N_below HNw.out hwa))
              clear hwa hrise2 hNb
              go_wp2_with fail
              refine (sameused_calls Ab Aa nb na cb ca _ _ HCb.out HCa.out).mono ?_
              rintro e wb ⟨rfl, hwb⟩
              have HVb := Aside0.mk (HVa.out.go hwb)
              clear hwb HVa
              go_wp2_with fail
              refine (left_calls xb bm (n + i + 1) k f hk HVb.out.gf y z HYZ.out _ HVb.out.x).mono ?_
              rintro e wc ⟨rfl, hwc⟩
              have HVc := Aside0.mk (HVb.out.go hwc)
              clear hwc HVb
              go_wp2
              go_ret
              exact ⟨rfl, HVc.out.below⟩
  · go_enter Try.func7, Try.ntmps7
    go_wp2_with fail
    refine (tenants_calls A n cap xs _ H.out).mono ?_
    rintro e w1 ⟨rfl | ⟨rfl, hn⟩, rfl⟩
    · go_wp2_with fail
      refine (known_calls _).mono ?_
      rintro e w2 ⟨rfl, hw2⟩
      go_wp2
      go_ret
      exact ⟨rfl, hw2⟩
    · go_wp2_with fail
      refine (known_calls _).mono ?_
      rintro e w2 ⟨rfl, hw2⟩
      go_wp2
      go_ret
      exact ⟨rfl, hw2⟩
theorem lback_walk (W : World) (a : Option Addr) (len cap : Nat) (l : List Ten) (le : len ≤ cap) (c : tenK.C W a len l) (a' : Option Addr) (len' cap' : Nat) (l' : List LOp) (le' : len' ≤ cap') (c' : opK.C W a' len' l') (k : Nat) (hk : k < 4294967296) (m : Nat) (hm : m < 18446744073709551616) :
    Calls Try.prog 7 #[.slice a len cap, .slice a' len' cap', .int .u32 (k : Int), .int .u64 (m : Int)] W fun e w' => e = .returned (.bool true) ∧ Below W.heap.size W w' :=
  lback_calls a len cap l a' len' cap' l' k hk m hm W c c'
end Go.Proofs.Ytiepfinipmafcaa.Led
