/- ZoneReads walks whole. -/
import Derived.Test.YtmkjglnggkkpeaaReadsMem
import Derived.Deep.DeepCutAuto
namespace Go.Proofs.Ytmkjglnggkkpeaa.Dv
open Go.RowKit Go.Proofs.YtmkjglnggkkpeaaW.PrintWords Go.Proofs.YtmkjglnggkkpeaaW.PrintMore Go.Proofs.Ytmkjglnggkkpeaa.Base Go.Proofs.Ytmkjglnggkkpeaa.Shp
set_option linter.unusedVariables false
set_option linter.unusedSimpArgs false
/-- A shape in its box. -/
structure Box (w : World) (g : Nat) (z zb b r : Int) : Prop where
  d0 : w.cell? ⟨g, 0, none⟩ = some (.int .i64 z)
  d1 : w.cell? ⟨g, 1, none⟩ = some (.int .i64 zb)
  d2 : w.cell? ⟨g, 2, none⟩ = some (.int .i64 b)
  d3 : w.cell? ⟨g, 3, none⟩ = some (.int .i64 r)
theorem Box.below {w w1 : World} {g : Nat} {z zb b r : Int} (h : Box w g z zb b r) (hb : Below w.heap.size w w1) : Box w1 g z zb b r := ⟨pw_cell_below hb h.d0, pw_cell_below hb h.d1, pw_cell_below hb h.d2, pw_cell_below hb h.d3⟩
theorem Box.new (w : World) (z zb b r : Int) : Box (w.alloc (.cells #[.int .i64 z, .int .i64 zb, .int .i64 b, .int .i64 r] 23)) w.heap.size z zb b r := ⟨by go_simp, by go_simp, by go_simp, by go_simp⟩
theorem small_rt {z zb b r : Int} (hrt : Rt z zb b r) : ∃ (zn zbn bn : Nat), z = (zn : Int) ∧ zb = (zbn : Int) ∧ b = (bn : Int) ∧ 6 ≤ zn ∧ zn ≤ 256 ∧ zbn ≤ 4096 ∧ 64 ≤ bn ∧ bn ≤ 4096 := by
  obtain ⟨h1, h2, h3, h4, h5, _, _⟩ := hrt
  obtain ⟨p1, p2⟩ := pow_rng h5
  exact ⟨z.toNat, zb.toNat, b.toNat, by omega, by omega, by omega, by omega, by omega, by omega, by omega, by omega⟩
theorem Box.belowB {w w1 : World} {g B : Nat} {z zb b r : Int} (h : Box w g z zb b r) (hb : Below B w w1) (hg : g < B) : Box w1 g z zb b r :=
  ⟨by rw [hb.cell hg]; exact h.d0, by rw [hb.cell hg]; exact h.d1, by rw [hb.cell hg]; exact h.d2, by rw [hb.cell hg]; exact h.d3⟩
/-- What holds at a round's head. -/
structure RdRel (w3 wr : World) (xb B zn zbn bn : Nat) (r : Int) (v vp vb : Value) (i : Nat) (ps : List Prt) (pl : List Pl) (D P E : Nat → Prop) : Prop where
  M : RdM wr xb B zn zbn bn r ps v vp vb (pl.map Prod.fst) (pl.map Prod.snd) D P E
  good : ∀ q ∈ pl, Good bn ps q
  whole : Whole bn zbn ps
  len : ps.length = zn
  few : pl.length ≤ i
  bel : Below B w3 wr
def RdR (w3 wr : World) (xb B zn zbn bn : Nat) (r : Int) (v vp vb : Value) (i : Nat) : Prop := ∃ ps pl D P E, RdRel w3 wr xb B zn zbn bn r v vp vb i ps pl D P E
set_option maxRecDepth 100000 in
set_option maxHeartbeats 4000000 in
theorem zreads_walk (w : World) (s : Int × Int × Int × Int) (hs : IsI s.1 ∧ IsI s.2.1 ∧ IsI s.2.2.1 ∧ IsI s.2.2.2) (A : Option Addr) (n c : Nat) (l : List OpT) (hnc : n ≤ c) (hC : opK.C w A n l) :
    Calls Try.prog 3 #[.agg #[.int .i64 s.1, .int .i64 s.2.1, .int .i64 s.2.2.1, .int .i64 s.2.2.2], .slice A n c] w fun e w' => e = .returned (.bool true) ∧ Below w.heap.size w w' := by
  obtain ⟨z, zb, b, r⟩ := s
  obtain ⟨hz, hzb, hb, hr⟩ := hs
  dsimp only at hz hzb hb hr ⊢
  have HZ := Aside0.mk hz
  have HZB := Aside0.mk hzb
  have HBB := Aside0.mk hb
  have HR := Aside0.mk hr
  have HA := Aside0.mk (alloc_below w (.cells #[.int .i64 z, .int .i64 zb, .int .i64 b, .int .i64 r] 23))
  have HX := Aside0.mk (Box.new w z zb b r)
  have HC := Aside0.mk hC
  obtain ⟨hln, hnm⟩ := C_len hC
  have HLN := Aside0.mk hln
  obtain ⟨d0, d1, d2, d3⟩ := HX.out
  clear hz hzb hb hr hC hln
  go_enter Try.func3, Try.ntmps3
  go_wp2_with fail
  obtain ⟨W, hW⟩ : ∃ W, (w.alloc (.cells #[.int .i64 z, .int .i64 zb, .int .i64 b, .int .i64 r] 23)) = W := ⟨_, rfl⟩
  obtain ⟨g, hg⟩ : ∃ g, w.heap.size = g := ⟨_, rfl⟩
  rw [hW] at HX HA ⊢
  rw [hg] at HX ⊢
  have HG := Aside0.mk hg
  clear hW hg d0 d1 d2 d3
  refine (small_calls z zb b r HZ.out HZB.out HBB.out HR.out _).mono ?_
  rintro e w1 ⟨rfl, hw1⟩
  have HX := Aside0.mk (HX.out.below hw1)
  have HA := Aside0.mk (below_go HA.out hw1)
  obtain ⟨sm, hsm⟩ : ∃ sm, (decide (z ≤ 12) && decide (zb ≤ 16) && decide (b ≤ 128)) = sm := ⟨_, rfl⟩
  rw [hsm]
  clear hw1 hsm
  cases sm with
  | false =>
    go_wp2_with fail
    refine (known_calls _).mono ?_
    rintro e w2 ⟨rfl, hw2⟩
    have HA := Aside0.mk (below_go HA.out hw2)
    clear hw2
    go_wp2
    go_ret
    exact ⟨rfl, HA.out⟩
  | true =>
  go_wp2_with fail
  refine (heavy_calls A n c l _ (Kd.C_below HC.out HA.out)).mono ?_
  rintro e w2 ⟨rfl, rfl⟩
  obtain ⟨hv, hhv⟩ : ∃ hv, heavyB l = hv := ⟨_, rfl⟩
  rw [hhv]
  have HHV := Aside0.mk hhv
  clear hhv
  cases hv with
  | true =>
    go_wp2_with fail
    refine (known_calls _).mono ?_
    rintro e w2 ⟨rfl, hw2⟩
    have HA := Aside0.mk (below_go HA.out hw2)
    clear hw2
    go_wp2
    go_ret
    exact ⟨rfl, HA.out⟩
  | false =>
  go_wp2_with fail
  refine (known_calls _).mono ?_
  rintro e w2 ⟨rfl, hw2⟩
  have HX := Aside0.mk (HX.out.below hw2)
  have HA := Aside0.mk (below_go HA.out hw2)
  clear hw2
  obtain ⟨d0, d1, d2, d3⟩ := HX.out
  have HX2 := HX
  go_wp2_with fail
  refine (new_calls z zb b r HZ.out HZB.out HBB.out HR.out _).mono ?_
  rintro e w3 ⟨hcase, hw3⟩
  have HX := Aside0.mk (HX.out.below hw3)
  have HAW := Aside0.mk (show w.heap.size ≤ w2.heap.size from HA.out.size)
  have hgB : g < w2.heap.size := World.block_lt_of_cell? _ _ HX2.out.d0
  have HA := Aside0.mk (below_go HA.out hw3)
  clear hw3 d0 d1 d2 d3
  rcases hcase with ⟨_, rfl⟩ | ⟨hrt, xb, v, rfl, hD, hxb⟩
  · go_wp2
    go_ret
    exact ⟨rfl, HA.out⟩
  obtain ⟨zn, zbn, bn, rfl, rfl, rfl, hz6, hz256, hzb2, hb1, hb2⟩ := small_rt hrt
  have HRT := Aside0.mk hrt
  generalize w2.heap.size = B at *
  have hBW : B ≤ w3.heap.size := by have := (Array.getElem?_eq_some_iff.1 hD.blk).1; omega
  have HM0 : Aside0 (RdM w3 xb B zn zbn bn r (List.replicate zn ([], 0)) v (.slice none 0 0) (.slice none 0 0) [] [] (fun k => B ≤ k ∧ k < w3.heap.size) (fun _ => False) (fun _ => False)) :=
    ⟨⟨hD.tight (fun k h1 _ h2 => ⟨h1, h2⟩), Kd.N_nil _ _ _ _ _, Kd.N_nil _ _ _ _ _, fun _ _ h => h, fun _ _ h => h, fun _ h => h.elim, fun _ h => h, fun _ h => h.elim, fun _ h => h.elim, fun h => h, fun h => h⟩⟩
  have HBW := Aside0.mk hBW
  have HR0 : Aside0 (RdR w3 w3 xb B zn zbn bn r v (.slice none 0 0) (.slice none 0 0) 0) := ⟨⟨_, [], _, _, _, ⟨HM0.out, fun _ h => by simp at h, fun p hp => ⟨0, by omega, by rw [List.eq_of_mem_replicate hp]; simp⟩, List.length_replicate, Nat.le_refl _, Below.refl _ _⟩⟩⟩
  have hn60 : n ≤ 60 := by
    have h1 := HHV.out
    unfold heavyB at h1
    rw [HLN.out] at h1
    simp at h1
    omega
  have HGB := Aside0.mk hgB
  clear hrt hD hxb hBW hgB
  go_wp2
  go_loopg [7, 8, 9] n (fun gk v7 v8 v9 wr => ∃ i : Nat, v9 = .int .i64 (i : Int) ∧ i ≤ n ∧ Aside0 (gk + i = n) ∧ Aside0 (RdR w3 wr xb B zn zbn bn r v v7 v8 i))
  case atStart => exact ⟨0, rfl, by omega, ⟨rfl⟩, HR0⟩
  case round =>
    obtain ⟨i, rfl, hi, HK, HS⟩ := hrel
    obtain ⟨go1, rfl⟩ : ∃ go1 : Nat, go1 = gk := ⟨_, rfl⟩
    obtain ⟨ps, pl, D, P, E, hrel⟩ := HS.out
    have HRL := Aside0.mk hrel
    obtain ⟨Ap, np, cp, rfl, hcp, hCp⟩ := N_open hrel.M.pls
    obtain ⟨Ab, nb, cb, rfl, hcb, hCb⟩ := N_open hrel.M.bls
    have HNP := Aside0.mk (show np = pl.length by rw [← (C_len hCp).1, List.length_map])
    have HNB := Aside0.mk (show nb = pl.length by rw [← (C_len hCb).1, List.length_map])
    have HBR := Aside0.mk (show Below w.heap.size w wr from HA.out.trans (hrel.bel.mono HAW.out))
    have HXR := Aside0.mk (HX.out.belowB hrel.bel HGB.out)
    clear hrel hCp hCb
    by_cases hlt : i < n
    · obtain ⟨o, ho⟩ : ∃ o, l.getD i op0 = o := ⟨_, rfl⟩
      obtain ⟨ad, F, cf, L, cl, rfl, c0, c1, -, c3, -, hk, hzi, -, hF, hFC, -, -⟩ := op_at (Kd.C_below HC.out HBR.out) i hlt ho
      obtain ⟨hk1, hk2⟩ := hk
      have htm : o.1.tmod 8 = o.1 % 8 := Int.tmod_eq_emod_of_nonneg hk1
      have HO := Aside0.mk ho
      have HZI := Aside0.mk hzi
      have HFC := Aside0.mk hFC
      clear ho hzi hFC
      go_upto_if 48 with fail
      go_cut [7, 8] (fun v7 v8 wx => RdR w3 wx xb B zn zbn bn r v v7 v8 (i + 1))
      case first =>
        have HBS := Aside0.mk (Nat.le_trans HBW.out HRL.out.bel.size)
        by_cases h6 : o.1 % 8 = 6
        · have hb6 : (o.1 % 8 == 6) = true := by rw [beq_iff_eq]; exact h6
          clear h6
          go_wp2_with fail
          refine (reset_calls xb B (fun k => D k ∨ wr.heap.size ≤ k) zn zbn bn r ps v o.2.1 HZI.out _ (HRL.out.M.dev.tight (fun k h _ _ => .inl h))).mono ?_
          rintro e w4 ⟨ps', hR4, hD4, hC4⟩
          obtain ⟨er, rfl, hlen4, hwh4, hgd4⟩ := res_cases hR4 HRL.out.whole
          have HM4 := Aside0.mk (HRL.out.M.devop HBS.out hD4 hC4)
          have HB4 := Aside0.mk (show Below B wr w4 from hC4.to_below HBS.out (fun k hk => hk.elim (fun h => (HRL.out.M.dl k h).1) (fun h => Nat.le_trans HBS.out h)))
          have HBS4 := Aside0.mk (Nat.le_trans HBS.out HB4.out.size)
          have HL4 := Aside0.mk hlen4
          have HW4 := Aside0.mk hwh4
          have HG4 := Aside0.mk hgd4
          have hpb : np ≤ nb := by rw [HNP.out, HNB.out]; exact Nat.le_refl _
          have hpm : nb ≤ 1000 := by have := HRL.out.few; have := HNB.out; omega
          clear hR4 hD4 hC4 hlen4 hwh4 hgd4 c0 c1 c3 hb6 htm
          go_wp2
          go_loopg [10, 11, 12] np (fun gk2 v10 v11 v12 wq => ∃ k : Nat, v12 = .int .i64 (k : Int) ∧ k ≤ np ∧ Aside0 (gk2 + k = np) ∧ Aside0 (∃ P2 E2, KpM w4 wq v10 v11 ((keepP o.2.1 k pl).map Prod.fst) ((keepP o.2.1 k pl).map Prod.snd) E P2 E2))
          case atStart => exact ⟨0, rfl, by omega, ⟨rfl⟩, ⟨fun _ => False, fun _ => False, Kd.N_nil _ _ _ _ _, Kd.N_nil _ _ _ _ _, fun _ h => h.elim, fun _ h => h.elim, fun _ h => h.elim, Below.refl _ _⟩⟩
          case round =>
            obtain ⟨k, rfl, hkn, HKK, HSS⟩ := hrel
            obtain ⟨P2, E2, hkp⟩ := HSS.out
            obtain ⟨gk2, rfl⟩ : ∃ gk2 : Nat, gk2 = gk := ⟨_, rfl⟩
            obtain ⟨wq, rfl⟩ : ∃ wq : World, wq = wr := ⟨_, rfl⟩
            have HKP := Aside0.mk hkp
            obtain ⟨A10, n10, c10, rfl, -, -⟩ := N_open hkp.pls
            obtain ⟨A11, n11, c11, rfl, -, -⟩ := N_open hkp.bls
            clear hkp
            by_cases hkl : k < np
            · obtain ⟨q, hq⟩ : ∃ q, pl.getD k ((0, 0), []) = q := ⟨_, rfl⟩
              have hkpl : k < pl.length := by rw [← HNP.out]; exact hkl
              obtain ⟨pa, rfl, p0, p1, hpi1, hpi2⟩ := place_at HM4.out.pls k hkl (p := q.1) (by rw [← hq, List.getD_eq_getElem?_getD, List.getD_eq_getElem?_getD, List.getElem?_map, List.getElem?_eq_getElem hkpl]; rfl)
              obtain ⟨pb, Bq, kq, rfl, b0, hbk, hbC, hbF⟩ := block_at HM4.out.bls k (by omega) (x := q.2) (by rw [← hq, List.getD_eq_getElem?_getD, List.getD_eq_getElem?_getD, List.getElem?_map, List.getElem?_eq_getElem hkpl]; rfl)
              have HB04 := Aside0.mk b0
              have p0 := pw_cell_below HKP.out.bel p0
              have p1 := pw_cell_below HKP.out.bel p1
              have b0 := pw_cell_below HKP.out.bel b0
              have HBQ := Aside0.mk (show Below w.heap.size w wq from (HBR.out.trans (HB4.out.mono HAW.out)).trans (HKP.out.bel.mono (Nat.le_trans HAW.out HBS4.out)))
              obtain ⟨ad', F', cf', L', cl', e1, -, c1, -⟩ := op_at (Kd.C_below HC.out HBQ.out) i hlt HO.out
              injection e1 with e1
              subst e1
              have HI1 := Aside0.mk hpi1
              have HI2 := Aside0.mk hpi2
              have HQ := Aside0.mk hq
              have HBF := Aside0.mk hbF
              clear hq hpi1 hpi2 hbC hbF
              by_cases hz : q.1.1 = o.2.1
              · have hzd : (q.1.1 != o.2.1) = false := by rw [bne_eq_false_iff_eq]; exact hz
                have HZ2 := Aside0.mk hz
                clear hz
                go_wp2
                go_quiet (fail)
                have HKD := Aside0.mk (HKP.out.below (pw_below_drewN (Below.refl _ _) nq))
                clear p0 p1 b0 c1
                go_wp2
                go_roundg (gk2 - 1)
                case measure => have := HKK.out; omega
                case rel => exact ⟨k + 1, by congr 1, by omega, ⟨by have := HKK.out; omega⟩, ⟨P2, E2, by rw [keepP_no hkpl (by rw [HQ.out]; exact HZ2.out)]; exact HKD.out⟩⟩
              · have hzd : (q.1.1 != o.2.1) = true := by rw [bne_iff_ne]; exact hz
                have HZ2 := Aside0.mk hz
                have HB0 := Aside0.mk b0
                have HP0 := Aside0.mk p0
                have HP1 := Aside0.mk p1
                clear hz b0
                go_wp2
                go_quiet (fail)
                have HKD := Aside0.mk (HKP.out.below (pw_below_drewN (Below.refl _ _) nq))
                have p0 := pw_cell_below (pw_below_drewN (Below.refl wq.heap.size wq) nq) HP0.out
                have p1 := pw_cell_below (pw_below_drewN (Below.refl wq.heap.size wq) nq) HP1.out
                generalize wq.drewN nq = wd at *
                have HFO := Aside0.mk (show Kd.FK bytesK w4 (fun j => E j ∧ j < w4.heap.size) q.2 [.slice Bq q.2.length kq] from Kd.FK_mono (Kd.FK_bound HBF.out) (fun j hj => ⟨hj.1.1, hj.2⟩))
                have hkl2 := keepP_len (zi := o.2.1) (k := k) (pl := pl)
                have HKL := Aside0.mk (show (keepP o.2.1 k pl).length ≤ 1000 from by have := HNB.out; omega)
                clear c1 hkl2
                go_wp2_with (first
                  | (at_builtin; (refine app_addr w4.heap.size P2 (.tmp 73) (.tmp 78) rfl rfl (.slice A10 n10 c10) ((keepP o.2.1 k pl).map Prod.fst) q.1.1 q.1.2 HI1.out HI2.out rfl (by simp [Act.eval]) HKD.out.pls HKD.out.bel.size (by rw [List.length_map]; exact HKL.out) ?_; intro v7 w7 hN7 hg7); (have HK7 := Aside0.mk (HKD.out.addp hN7 hg7); have b0 := pw_cell_below (HK7.out.bel) HB04.out; clear hN7 hg7))
                  | (at_builtin; (refine app_blk w4.heap.size E2 (fun j => E j ∧ j < w4.heap.size) (.tmp 80) (.tmp 85) rfl rfl (.slice A11 n11 c11) ((keepP o.2.1 k pl).map Prod.snd) q.2 Bq q.2.length kq (Kd.FK_below HFO.out HK7.out.bel) (fun j hj e => (by have h1 := Kd.N_base HK7.out.bls j e.symm; have h2 := hj.2; omega)) rfl (by simp [Act.eval]) HK7.out.bls HK7.out.bel.size (by rw [List.length_map]; exact HKL.out) ?_; intro v8 w8 hN8 hg8)))
                have hK8 := HK7.out.addb hN8 hg8 (fun j hj => hj)
                have HK8 := Aside0.mk hK8
                clear hK8 hN8 hg8
                go_wp2
                go_roundg (gk2 - 1)
                case measure => have := HKK.out; omega
                case rel =>
                  refine ⟨k + 1, by congr 1, by omega, ⟨by have := HKK.out; omega⟩, Aside0.mk ?_⟩
                  rw [keepP_yes hkpl (by rw [HQ.out]; exact HZ2.out), HQ.out, List.map_append, List.map_append]
                  exact ⟨_, _, HK8.out⟩
            · obtain rfl : k = np := by omega
              go_wp2
              go_meet
              have hM := HM4.out.turn HKP.out HBS4.out
              exact ⟨ps', keepP o.2.1 k pl, _, _, _, hM, fun q hq => HG4.out q (HRL.out.good q (keepP_mem hq).1) (keepP_mem hq).2, HW4.out, HL4.out.trans HRL.out.len, Nat.le_trans keepP_len (Nat.le_succ_of_le HRL.out.few), (HRL.out.bel.trans HB4.out).trans (HKP.out.bel.mono HBS4.out)⟩
        · have hb6 : (o.1 % 8 == 6) = false := by rw [beq_eq_false_iff_ne]; exact h6
          clear h6
          obtain ⟨d0, d1, d2, d3⟩ := HXR.out
          go_wp2
          go_region_held3 (fun w' => w'.cell? ⟨g, 2, none⟩ = some (.int .i64 (bn : Int)) ∧ w'.cell? ⟨(ad.add (i * 5)).block, (ad.add (i * 5)).off + 3, none⟩ = some (.slice F o.2.2.2.1.length cf))
            (first | exact ⟨d2, c3⟩ | exact ⟨pw_cell_below hw4 d2, pw_cell_below hw4 c3⟩)
            (first | (go_at_call 15; (with_reducible refine (block_calls (bn : Int) (by omega) (by omega) F o.2.2.2.1.length cf _ _ (Kd.C_below HFC.out (below_drew (Below.refl _ _)))).mono ?_); rintro e w4 ⟨v4, rfl, hO4, hw4⟩))
          obtain ⟨xs, hxs⟩ : ∃ xs, front ((bn : Int)).toNat (min ((bn : Int)).toNat o.2.2.2.1.length) o.2.2.2.1 = xs := ⟨_, rfl⟩
          have HXL := Aside0.mk (show xs.length = bn by rw [← hxs, front_len (Nat.min_le_left _ _) (Nat.min_le_right _ _)]; exact Int.toNat_natCast bn)
          rw [hxs] at hO4
          obtain ⟨A4, n4, c4, rfl, hc4, hC4⟩ := hO4.reads
          obtain rfl : bn = n4 := by rw [← (C_len hC4).1, HXL.out]
          have hb4 : Below wr.heap.size wr w4 := Below.trans (below_drew (Below.refl _ _)) hw4
          have HO4 := Aside0.mk hO4
          have HC4 := Aside0.mk hC4
          have HB4 := Aside0.mk hb4
          have HM4 := Aside0.mk (HRL.out.M.below hb4)
          have c1 := pw_cell_below hb4 c1
          clear c0 c3 d0 d1 d2 d3 hO4 hC4 hw4 hb4 hxs
          go_wp2_with fail
          refine (append_calls xb B (fun k => D k ∨ w4.heap.size ≤ k) zn zbn bn r HRT.out ps v o.2.1 HZI.out A4 bn c4 xs _ (HM4.out.dev.tight (fun k h _ _ => .inl h)) (fun k hk => .inr hk) HC4.out (HRL.out.whole.small hb2 hzb2)).mono ?_
          rintro e w5 ⟨ps', hR5, hD5, hC5⟩
          have HM5 := Aside0.mk (HM4.out.devop (Nat.le_trans HBS.out HB4.out.size) hD5 hC5)
          have HC5 := Aside0.mk hC5
          rcases app_cases (by omega) HRL.out.whole HXL.out hR5 with ⟨er, her, rfl, hps⟩ | ⟨cq, hcq, hzr, hlq, rfl, hps⟩
          · have hne : (er == 0) = false := by rw [beq_eq_false_iff_ne]; omega
            have HW5 := Aside0.mk (show Below B w4 w5 from hC5.to_below (Nat.le_trans HBS.out HB4.out.size) (fun k hk => hk.elim (fun h => (HM4.out.dl k h).1) (fun h => Nat.le_trans (Nat.le_trans HBS.out HB4.out.size) h)))
            have HPS := Aside0.mk hps
            clear hR5 hD5 hC5 her hps c1
            unfold addrV
            go_wp2
            go_meet
            have h5 := HM5.out
            rw [HPS.out] at h5
            exact ⟨ps, pl, _, P, E, h5.below (alloc_below _ _), HRL.out.good, HRL.out.whole, HRL.out.len, Nat.le_succ_of_le HRL.out.few, ((HRL.out.bel.trans (HB4.out.mono HBS.out)).trans HW5.out).trans ((alloc_below _ _).mono (Nat.le_trans (Nat.le_trans HBS.out HB4.out.size) HW5.out.size))⟩
          · have HW5 := Aside0.mk (show Below B w4 w5 from hC5.to_below (Nat.le_trans HBS.out HB4.out.size) (fun k hk => hk.elim (fun h => (HM4.out.dl k h).1) (fun h => Nat.le_trans (Nat.le_trans HBS.out HB4.out.size) h)))
            have HPS := Aside0.mk hps
            have HZR := Aside0.mk hzr
            have HLQ := Aside0.mk hlq
            have HOK := Aside0.mk (show ∀ k, some k = (Value.slice A4 bn c4).ownBlock → wr.heap.size ≤ k ∧ k < w4.heap.size from fun k hk => ⟨Kd.R_base HO4.out k hk.symm, own_lt HO4.out k hk.symm⟩)
            have HM6 := Aside0.mk (HM5.out.below (alloc_below w5 (.cells #[.int .i64 o.2.1, .int .i64 (cq : Int)] 40)))
            have HS6 := Aside0.mk (show w4.heap.size ≤ (w5.alloc (.cells #[.int .i64 o.2.1, .int .i64 (cq : Int)] 40)).heap.size from Nat.le_trans hC5.kept.1 (alloc_below w5 _).size)
            have HF4 := Aside0.mk (own_FK HO4.out)
            clear hR5 hD5 hC5 hps c1 hzr hlq
            unfold addrV
            go_wp2_with (first
              | (at_builtin; (refine app_addr B P (.tmp 110) (.tmp 112) rfl rfl _ (pl.map Prod.fst) o.2.1 (cq : Int) HZI.out ⟨by omega, by omega⟩ rfl (by simp [Act.eval]) HM6.out.pls (Nat.le_trans (Nat.le_trans HBS.out HB4.out.size) HS6.out) (by rw [List.length_map]; have := HRL.out.few; omega) ?_; intro v7 w7 hN7 hg7); (have HM7 := Aside0.mk (HM6.out.addp' (Nat.le_trans (Nat.le_trans HBS.out HB4.out.size) HS6.out) hN7 hg7); have HF7 := Aside0.mk (fk_move HF4.out HC5.out hg7 (fun k hk hs => (hs.elim (fun h => (by have h1 := (HRL.out.M.dl k h).2; have h2 := (HOK.out k hk).1; omega)) (fun h => (by have h2 := (HOK.out k hk).2; omega)))) (fun k hk e => (by have h1 := (HRL.out.M.pl k (HRL.out.M.pls.1 k e.symm)).2; have h2 := (HOK.out k hk).1; omega))); have HG7 := Aside0.mk hg7; clear hN7 hg7))
              | (at_builtin; (refine app_blk B E (fun k => some k = (Value.slice A4 bn c4).ownBlock) (.tmp 114) (.tmp 116) rfl rfl _ (pl.map Prod.snd) xs A4 bn c4 HF7.out (fun k hk e => (by have h1 := (HRL.out.M.el k (HRL.out.M.bls.1 k e.symm)).2; have h2 := (HOK.out k hk).1; omega)) rfl rfl HM7.out.bls (Nat.le_trans (Nat.le_trans (Nat.le_trans HBS.out HB4.out.size) HS6.out) HG7.out.size) (by rw [List.length_map]; have := HRL.out.few; omega) ?_; intro v8 w8 hN8 hg8)))
            go_meet
            have hb7 : B ≤ w7.heap.size := Nat.le_trans (Nat.le_trans (Nat.le_trans HBS.out HB4.out.size) HS6.out) HG7.out.size
            have hM8 := HM7.out.addb' hb7 hN8 hg8 (fun k hk => by
              obtain ⟨o1, o2⟩ := HOK.out k hk
              have hx := HRL.out.M.xlt
              refine ⟨Nat.le_trans HBS.out o1, fun hd => ?_, fun hp => ?_, by omega⟩
              · rcases hd.1 with hd | hd
                · have := (HRL.out.M.dl k hd).2; omega
                · omega
              · rcases hp.1 with hp | hp
                · have := (HRL.out.M.pl k hp).2; omega
                · have := HS6.out; omega)
            obtain ⟨hz0, hz1⟩ := HZR.out
            rw [HPS.out] at hM8
            refine ⟨_, pl ++ [((o.2.1, (cq : Int)), xs)], _, _, _, by rw [List.map_append, List.map_append]; exact hM8, ?_, whole_app HRL.out.whole HXL.out hcq HLQ.out, by rw [List.length_set]; exact HRL.out.len, by rw [List.length_append, List.length_singleton]; exact Nat.succ_le_succ HRL.out.few, ?_⟩
            · intro q hq
              rcases List.mem_append.1 hq with hq | hq
              · exact good_app (by omega) (HRL.out.good q hq) HZR.out
              · rw [List.mem_singleton.1 hq]
                exact good_new (by omega) HZR.out HLQ.out HXL.out
            · have h5 : Below B w3 w5 := (HRL.out.bel.trans (HB4.out.mono HBS.out)).trans HW5.out
              have hb5 : B ≤ w5.heap.size := Nat.le_trans (Nat.le_trans HBS.out HB4.out.size) HW5.out.size
              exact ((h5.trans ((alloc_below _ _).mono hb5)).grown HG7.out (Nat.le_trans (Nat.le_trans HBS.out HB4.out.size) HS6.out) (fun k hk => (HRL.out.M.pl k (HRL.out.M.pls.1 k hk)).1)).grown hg8 hb7 (fun k hk => (HRL.out.M.el k (HRL.out.M.bls.1 k hk)).1)
      case rest =>
        clear c0 c1 c3 htm
        obtain ⟨ps1, pl1, D1, P1, E1, hrel⟩ := hcut
        obtain ⟨Ap1, np1, cp1, rfl, hcp1, hCp⟩ := N_open hrel.M.pls
        obtain ⟨Ab1, nb1, cb1, rfl, hcb1, hCb⟩ := N_open hrel.M.bls
        have HR1 := Aside0.mk hrel
        have HNP1 := Aside0.mk (show np1 = pl1.length by rw [← (C_len hCp).1, List.length_map])
        have HNB1 := Aside0.mk (show nb1 = pl1.length by rw [← (C_len hCb).1, List.length_map])
        have hpb1 : np1 ≤ nb1 := by rw [HNP1.out, HNB1.out]; exact Nat.le_refl _
        have hpm1 : nb1 ≤ 1000 := by have := hrel.few; have := HNB1.out; omega
        clear hrel hCp hCb
        obtain ⟨wo, rfl⟩ : ∃ wo : World, wo = wc := ⟨_, rfl⟩
        go_wp2
        go_loopg [16, 17, 18] np1 (fun gk2 v16 v17 v18 wq => ∃ k : Nat, v16 = .int .i64 (k : Int) ∧ k ≤ np1 ∧ Aside0 (gk2 + k = np1) ∧ Aside0 (Below wo.heap.size wo wq))
        case atStart => exact ⟨0, rfl, by omega, ⟨rfl⟩, ⟨Below.refl _ _⟩⟩
        case round =>
          obtain ⟨k, rfl, hk, HKK, HSS⟩ := hrel
          have HM2 := Aside0.mk (HR1.out.M.below HSS.out)
          by_cases hkl : k < np1
          · obtain ⟨q, hq⟩ : ∃ q, pl1.getD k ((0, 0), []) = q := ⟨_, rfl⟩
            have hkp : k < pl1.length := by rw [← HNP1.out]; exact hkl
            have HQM := Aside0.mk (show Good bn ps1 q from HR1.out.good q (by rw [← hq, List.getD_eq_getElem?_getD, List.getElem?_eq_getElem hkp]; exact List.getElem_mem _))
            obtain ⟨pa, rfl, p0, p1, hpi1, hpi2⟩ := place_at HM2.out.pls k hkl (p := q.1) (by rw [← hq, List.getD_eq_getElem?_getD, List.getD_eq_getElem?_getD, List.getElem?_map, List.getElem?_eq_getElem hkp]; rfl)
            obtain ⟨pb, Bq, kq, rfl, b0, hbk, hbC, -⟩ := block_at HM2.out.bls k (by omega) (x := q.2) (by rw [← hq, List.getD_eq_getElem?_getD, List.getD_eq_getElem?_getD, List.getElem?_map, List.getElem?_eq_getElem hkp]; rfl)
            have HI1 := Aside0.mk hpi1
            have HI2 := Aside0.mk hpi2
            have HBC := Aside0.mk hbC
            clear hq hpi1 hpi2 hbC
            go_wp2_with fail
            refine (read_calls xb B _ zn zbn bn r HRT.out ps1 v q.1.1 q.1.2 HI1.out HI2.out _ HM2.out.dev (HR1.out.whole.small hb2 hzb2)).mono ?_
            rintro e w5 ⟨⟨u, er, bs, rfl, hRR, hO⟩, hw5⟩
            have hbs : er = 0 ∧ bs = q.2 := by
              obtain ⟨g1, g2, g3⟩ := HQM.out
              rcases hRR with ⟨h6, _⟩ | ⟨_, h6, _⟩ | ⟨_, _, h6, h7⟩
              · rw [hasB_true g1.1 g1.2] at h6; cases h6
              · exact absurd g2 h6
              · exact ⟨h6, by rw [h7, g3, Int.toNat_natCast]⟩
            obtain ⟨rfl, rfl⟩ := hbs
            obtain ⟨A5, n5, c5, rfl, hc5, hC5⟩ := hO.reads
            have HC5 := Aside0.mk hC5
            have HW5 := Aside0.mk hw5
            have b0 := pw_cell_below hw5 b0
            clear hRR hO hC5 hw5 p0 p1
            go_wp2_with fail
            refine (same_calls _ _ n5 _ c5 kq _ _ _ HC5.out (Kd.C_below HBC.out HW5.out)).mono ?_
            rintro e w6 ⟨rfl, rfl⟩
            rw [decide_eq_true rfl]
            clear b0
            go_wp2
            go_roundg (gk - 1)
            case measure => have := HKK.out; omega
            case rel => exact ⟨k + 1, by congr 1, by omega, ⟨by have := HKK.out; omega⟩, ⟨HSS.out.trans (HW5.out.mono HSS.out.size)⟩⟩
          · obtain rfl : k = np1 := by omega
            go_wp2
            go_roundg (go1 - 1)
            case measure => have := HK.out; omega
            case rel => exact ⟨i + 1, by congr 1, by omega, ⟨by have := HK.out; omega⟩, ⟨ps1, pl1, D1, P1, E1, HM2.out, HR1.out.good, HR1.out.whole, HR1.out.len, HR1.out.few, HR1.out.bel.trans (HSS.out.mono (Nat.le_trans HBW.out HR1.out.bel.size))⟩⟩
    · obtain rfl : i = n := by omega
      go_wp2
      go_ret
      exact ⟨rfl, HBR.out⟩
end Go.Proofs.Ytmkjglnggkkpeaa.Dv
