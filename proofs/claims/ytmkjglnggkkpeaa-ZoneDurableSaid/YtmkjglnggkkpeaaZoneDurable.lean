/- ZoneDurable walks whole. -/
import Derived.Test.YtmkjglnggkkpeaaZoneDur
namespace Go.Proofs.Ytmkjglnggkkpeaa.Dv
open Go.RowKit Go.Proofs.YtmkjglnggkkpeaaW.PrintWords Go.Proofs.YtmkjglnggkkpeaaW.PrintMore Go.Proofs.Ytmkjglnggkkpeaa.Base Go.Proofs.Ytmkjglnggkkpeaa.Shp
set_option linter.unusedVariables false
set_option linter.unusedSimpArgs false
set_option maxRecDepth 100000 in
set_option maxHeartbeats 4000000 in
theorem zdur_walk (w : World) (s : Int × Int × Int × Int) (hs : IsI s.1 ∧ IsI s.2.1 ∧ IsI s.2.2.1 ∧ IsI s.2.2.2) (A : Option Addr) (n c : Nat) (l : List OpT) (hnc : n ≤ c) (hC : opK.C w A n l) (A2 : Option Addr) (nl kl : Nat) (ls : List (Int × Int)) (hnl : nl ≤ kl) (hL : lossK.C w A2 nl ls) :
    Calls Try.prog 4 #[.agg #[.int .i64 s.1, .int .i64 s.2.1, .int .i64 s.2.2.1, .int .i64 s.2.2.2], .slice A n c, .slice A2 nl kl] w fun e w' => e = .returned (.bool true) ∧ Below w.heap.size w w' := by
  obtain ⟨z, zb, b, r⟩ := s
  obtain ⟨hz, hzb, hb, hr⟩ := hs
  dsimp only at hz hzb hb hr ⊢
  have HZ := Aside0.mk hz
  have HZB := Aside0.mk hzb
  have HBB := Aside0.mk hb
  have HR := Aside0.mk hr
  have HA := Aside0.mk (alloc_below w (.cells #[.int .i64 z, .int .i64 zb, .int .i64 b, .int .i64 r] 23))
  have HX := Aside0.mk (Box.new w z zb b r)
  have HC := Aside0.mk hC
  have HLS := Aside0.mk hL
  have hnlm := (C_len hL).2
  obtain ⟨hln, hnm⟩ := C_len hC
  have HLN := Aside0.mk hln
  obtain ⟨d0, d1, d2, d3⟩ := HX.out
  clear hz hzb hb hr hC hln hL hnl
  go_enter Try.func4, Try.ntmps4
  go_wp2_with fail
  obtain ⟨W, hW⟩ : ∃ W, (w.alloc (.cells #[.int .i64 z, .int .i64 zb, .int .i64 b, .int .i64 r] 23)) = W := ⟨_, rfl⟩
  obtain ⟨g, hg⟩ : ∃ g, w.heap.size = g := ⟨_, rfl⟩
  rw [hW] at HX HA ⊢
  rw [hg] at HX ⊢
  have HG := Aside0.mk hg
  clear hW hg d0 d1 d2 d3
  refine (small_calls z zb b r HZ.out HZB.out HBB.out HR.out _).mono ?_
  rintro e w1 ⟨rfl, hw1⟩
  have HX := Aside0.mk (HX.out.below hw1)
  have HA := Aside0.mk (below_go HA.out hw1)
  obtain ⟨sm, hsm⟩ : ∃ sm, (decide (z ≤ 12) && decide (zb ≤ 16) && decide (b ≤ 128)) = sm := ⟨_, rfl⟩
  rw [hsm]
  clear hw1 hsm
  cases sm with
  | false =>
    go_wp2_with fail
    refine (known_calls _).mono ?_
    rintro e w2 ⟨rfl, hw2⟩
    have HA := Aside0.mk (below_go HA.out hw2)
    clear hw2
    go_wp2
    go_ret
    exact ⟨rfl, HA.out⟩
  | true =>
  go_wp2_with fail
  refine (heavy_calls A n c l _ (Kd.C_below HC.out HA.out)).mono ?_
  rintro e w2 ⟨rfl, rfl⟩
  obtain ⟨hv, hhv⟩ : ∃ hv, heavyB l = hv := ⟨_, rfl⟩
  rw [hhv]
  have HHV := Aside0.mk hhv
  clear hhv
  cases hv with
  | true =>
    go_wp2_with fail
    refine (known_calls _).mono ?_
    rintro e w2 ⟨rfl, hw2⟩
    have HA := Aside0.mk (below_go HA.out hw2)
    clear hw2
    go_wp2
    go_ret
    exact ⟨rfl, HA.out⟩
  | false =>
  by_cases hnl : 20 < nl
  · have hdl : decide (20 < (nl : Int)) = true := decide_eq_true (by omega)
    go_wp2_with fail
    refine (known_calls _).mono ?_
    rintro e w2 ⟨rfl, hw2⟩
    have HA := Aside0.mk (below_go HA.out hw2)
    clear hw2
    go_wp2
    go_ret
    exact ⟨rfl, HA.out⟩
  have hdl : decide (20 < (nl : Int)) = false := decide_eq_false (by omega)
  go_wp2_with fail
  refine (known_calls _).mono ?_
  rintro e w2 ⟨rfl, hw2⟩
  have HX := Aside0.mk (HX.out.below hw2)
  have HA := Aside0.mk (below_go HA.out hw2)
  clear hw2
  obtain ⟨d0, d1, d2, d3⟩ := HX.out
  have HX2 := HX
  go_wp2_with fail
  refine (new_calls z zb b r HZ.out HZB.out HBB.out HR.out _).mono ?_
  rintro e w3 ⟨hcase, hw3⟩
  have HX := Aside0.mk (HX.out.below hw3)
  have HAW := Aside0.mk (show w.heap.size ≤ w2.heap.size from HA.out.size)
  have hgB : g < w2.heap.size := World.block_lt_of_cell? _ _ HX2.out.d0
  have HA := Aside0.mk (below_go HA.out hw3)
  clear hw3 d0 d1 d2 d3
  rcases hcase with ⟨hnrt, rfl⟩ | ⟨hrt, xb, v, rfl, hD, hxb⟩
  · have HNRT := Aside0.mk hnrt
    obtain ⟨d0, d1, d2, d3⟩ := HX.out
    clear hnrt
    go_wp2_with fail
    refine (rnew_calls z zb b r HZ.out HZB.out HBB.out HR.out _).mono ?_
    rintro e w4 ⟨⟨_, rfl⟩ | ⟨hrt, _⟩, hw4⟩
    · have HA := Aside0.mk (below_go HA.out hw4)
      clear hw4 d0 d1 d2 d3
      go_wp2
      go_ret
      exact ⟨rfl, HA.out⟩
    · exact absurd hrt HNRT.out
  obtain ⟨zn, zbn, bn, rfl, rfl, rfl, hz6, hz256, hzb2, hb1, hb2⟩ := small_rt hrt
  have HRT := Aside0.mk hrt
  have HD := Aside0.mk hD
  obtain ⟨d0, d1, d2, d3⟩ := HX.out
  clear hrt hD
  go_wp2_with fail
  refine (rnew_calls (zn : Int) (zbn : Int) (bn : Int) r HZ.out HZB.out HBB.out HR.out _).mono ?_
  rintro e w4 ⟨⟨hnrt, _⟩ | ⟨_, rb, vr, rfl, hRD, hrb⟩, hw4⟩
  · exact absurd HRT.out hnrt
  have hB23 : w2.heap.size ≤ w3.heap.size := by have := (Array.getElem?_eq_some_iff.1 HD.out.blk).1; omega
  obtain ⟨D0, R0, hT0⟩ := Two.new (w2 := w2) HD.out hxb hB23 hRD hrb hw4
  have HX := Aside0.mk (HX.out.below hw4)
  have HA := Aside0.mk (below_go HA.out hw4)
  generalize w2.heap.size = B at *
  have HBT : Aside0 (Both w4 w4 xb rb B zn zbn bn r v vr) := ⟨⟨_, D0, R0, hT0, fun p hp => by rw [List.eq_of_mem_replicate hp]; simp, List.length_replicate, Below.refl _ _⟩⟩
  have HFEW := Aside0.mk (ops_few HLN.out HHV.out)
  have hn60 := HFEW.out.1
  have HGB := Aside0.mk hgB
  clear hw4 hRD hT0 hgB d0 d1 d2 d3 hxb hrb hB23
  go_wp2
  go_loopg [10] n (fun gk v10 wr => ∃ i : Nat, v10 = .int .i64 (i : Int) ∧ i ≤ n ∧ Aside0 (gk + i = n) ∧ Aside0 (Both w4 wr xb rb B zn zbn bn r v vr))
  case atStart => exact ⟨0, rfl, by omega, ⟨rfl⟩, HBT⟩
  case round =>
    obtain ⟨i, rfl, hi, HK, HS⟩ := hrel
    rename World => wr
    obtain ⟨zs, D, R, hT, hinv, hlz, hbr⟩ := HS.out
    have HT := Aside0.mk hT
    have HINV := Aside0.mk hinv
    have HLZ := Aside0.mk hlz
    have HBR := Aside0.mk (show Below w.heap.size w wr from HA.out.trans (hbr.mono HAW.out))
    have HB4 := Aside0.mk hbr
    have HXR := Aside0.mk (HX.out.belowB hbr HGB.out)
    clear hT hinv hlz hbr
    by_cases hlt : i < n
    · obtain ⟨o, ho⟩ : ∃ o, l.getD i op0 = o := ⟨_, rfl⟩
      obtain ⟨ad, F, cf, L, cl, rfl, c0, c1, c2, c3, c4, hk, hzi, hni, hF, hFC, hLl, hLC⟩ := op_at HC.out i hlt ho
      have c0 := pw_cell_below HBR.out c0
      have c1 := pw_cell_below HBR.out c1
      have c2 := pw_cell_below HBR.out c2
      have c3 := pw_cell_below HBR.out c3
      have c4 := pw_cell_below HBR.out c4
      have hom : o ∈ l := by
        rw [← ho, List.getD_eq_getElem?_getD, List.getElem?_eq_getElem (show i < l.length by rw [HLN.out]; exact hlt)]
        exact List.getElem_mem _
      have HOL := Aside0.mk (HFEW.out.2 o hom)
      have HO := Aside0.mk ho
      have HKI := Aside0.mk hk
      have HZI := Aside0.mk hzi
      have HNI := Aside0.mk hni
      have HFC := Aside0.mk hFC
      have HLC := Aside0.mk hLC
      obtain ⟨d0, d1, d2, d3⟩ := HXR.out
      have hadb : ad.block < w.heap.size := by
        obtain ⟨ad', _, _, _, _, e, k0, _⟩ := op_at HC.out i hlt ho
        injection e with e
        subst e
        have := World.block_lt_of_cell? w _ k0
        rwa [add_block] at this
      have HAB := Aside0.mk hadb
      have hlt' : (i : Int) < (n : Int) := by omega
      have hd9 : decide ((i : Int) < (n : Int)) = true := decide_eq_true hlt'
      clear ho hk hzi hni hFC hLC hom hF hLl hadb
      go_wp2
      have HAD := Aside0.mk (show (ad.add (i * 5)).block < B by rw [add_block]; exact Nat.lt_of_lt_of_le HAB.out HAW.out)
      have hnine := (⟨d0, d1, d2, d3, c0, c1, c2, c3, c4⟩ : wr.cell? ⟨g, 0, none⟩ = some (.int .i64 (zn : Int)) ∧ wr.cell? ⟨g, 1, none⟩ = some (.int .i64 (zbn : Int)) ∧ wr.cell? ⟨g, 2, none⟩ = some (.int .i64 (bn : Int)) ∧ wr.cell? ⟨g, 3, none⟩ = some (.int .i64 r) ∧ wr.cell? (ad.add (i * 5)) = some (.int .u8 o.1) ∧ wr.cell? ⟨(ad.add (i * 5)).block, (ad.add (i * 5)).off + 1, none⟩ = some (.int .i64 o.2.1) ∧ wr.cell? ⟨(ad.add (i * 5)).block, (ad.add (i * 5)).off + 2, none⟩ = some (.int .i64 o.2.2.1) ∧ wr.cell? ⟨(ad.add (i * 5)).block, (ad.add (i * 5)).off + 3, none⟩ = some (.slice F o.2.2.2.1.length cf) ∧ wr.cell? ⟨(ad.add (i * 5)).block, (ad.add (i * 5)).off + 4, none⟩ = some (.slice L o.2.2.2.2.length cl))
      have HNINE := Aside0.mk hnine
      clear hnine
      go_region_held3 (fun w' => w'.cell? ⟨g, 0, none⟩ = some (.int .i64 (zn : Int)) ∧ w'.cell? ⟨g, 1, none⟩ = some (.int .i64 (zbn : Int)) ∧ w'.cell? ⟨g, 2, none⟩ = some (.int .i64 (bn : Int)) ∧ w'.cell? ⟨g, 3, none⟩ = some (.int .i64 r) ∧ w'.cell? (ad.add (i * 5)) = some (.int .u8 o.1) ∧ w'.cell? ⟨(ad.add (i * 5)).block, (ad.add (i * 5)).off + 1, none⟩ = some (.int .i64 o.2.1) ∧ w'.cell? ⟨(ad.add (i * 5)).block, (ad.add (i * 5)).off + 2, none⟩ = some (.int .i64 o.2.2.1) ∧ w'.cell? ⟨(ad.add (i * 5)).block, (ad.add (i * 5)).off + 3, none⟩ = some (.slice F o.2.2.2.1.length cf) ∧ w'.cell? ⟨(ad.add (i * 5)).block, (ad.add (i * 5)).off + 4, none⟩ = some (.slice L o.2.2.2.2.length cl))
        (first | exact HNINE.out | exact HN5.out)
        (first | (go_at_call 20; (with_reducible refine (does_calls w F cf L cl o HKI.out HZI.out HNI.out HFC.out HLC.out HOL.out.1 xb rb B zn zbn bn r HRT.out hz256 hzb2 hb1 hb2 v vr zs D R _ HAW.out (below_drew HBR.out) (HT.out.below (below_drew (Below.refl _ _))) HINV.out HLZ.out).mono ?_); rintro e w5 ⟨rfl, hBo5⟩; have HBo5 := Aside0.mk hBo5; have HB5 := Aside0.mk (((below_drew (Below.refl _ _) : Below wr.heap.size wr wr.drew).mono HT.out.base).trans hBo5.bel); have HN5 := Aside0.mk (nine_at HB5.out HGB.out HAD.out HNINE.out); clear hBo5))
      clear c0 c1 c2 c3 c4 d0 d1 d2 d3
      obtain ⟨-, -, -, -, -, b1, -, -, -⟩ := HN5.out
      obtain ⟨zs5, D5, R5, hT5, hinv5, hlz5, hbr5⟩ := HBo5.out
      have HT5 := Aside0.mk hT5
      have HINV5 := Aside0.mk hinv5
      have HLZ5 := Aside0.mk hlz5
      clear hT5 hinv5 hlz5 hbr5
      have HB9 := Aside0.mk (HB4.out.trans HB5.out)
      clear b1
      go_wp2
      go_roundg (gk - 1)
      case measure => have := HK.out; omega
      case rel => exact ⟨i + 1, by congr 1, by omega, ⟨by have := HK.out; omega⟩, ⟨zs5, D5, R5, HT5.out, HINV5.out, HLZ5.out, HB9.out⟩⟩
    · obtain rfl : i = n := by omega
      have hd9 : decide ((i : Int) < (i : Int)) = false := decide_eq_false (by omega)
      obtain ⟨d0, d1, d2, d3⟩ := HXR.out
      clear d0 d1 d2 d3
      have HSM := Aside0.mk (inv_small hb2 hzb2 HINV.out)
      go_wp2_with fail
      refine (zones_calls xb B D zn zbn r bn (by omega) hb2 _ v _ HT.out.dev HSM.out.2.2.2.2 (by rw [List.length_map, HLZ.out]; exact hz256)).mono ?_
      rintro e w5 ⟨v5, rfl, hN5, hw5⟩
      rw [partZ_flat (by omega) HINV.out] at hN5
      have HN5 := Aside0.mk hN5
      obtain ⟨A5, n5, k5, rfl, -, hC5⟩ := N_open hN5
      have HL5 := Aside0.mk (C_len hC5).1
      have HT5 := Aside0.mk (HT.out.below hw5)
      have HB5 := Aside0.mk (HBR.out.trans (hw5.mono HBR.out.size))
      have HS5 := Aside0.mk hw5.size
      clear hN5 hC5 hw5
      go_wp2_with fail
      refine (crash_calls xb B _ zn zbn r bn (by omega) hb2 _ (HINV.out.fit (by omega) hb2 hzb2) v A2 _ kl ls _ HT5.out.devs (fun k hk => .inr hk) (fun w1 hc => Kd.C_below HLS.out (HB5.out.trans ((HT5.out.devB hc).mono HAW.out)))).mono ?_
      rintro e w6 ⟨rfl, hD6, hC6⟩
      have HN6 := Aside0.mk (Kd.N_kept HN5.out hC6.kept (fun k hk hs => hs.elim (fun h1 => by have := (HT.out.dl k h1).2; have := hk.1; omega) (fun h1 => by have := hk.2; omega)))
      have HT6 := Aside0.mk (HT5.out.devop hD6 hC6)
      have HB6 := Aside0.mk (HB5.out.trans ((HT5.out.devB hC6).mono HAW.out))
      have HF6 := Aside0.mk (flat_crash (b := bn) (ls := ls) (by omega) HINV.out)
      have HI6 := Aside0.mk (inv_crash (ls := ls) HINV.out)
      have HL6 := Aside0.mk (show (zs.mapIdx (rcrashF bn ls)).length = zn by rw [List.length_mapIdx]; exact HLZ.out)
      obtain ⟨z2, hz2⟩ : ∃ z2, zs.mapIdx (rcrashF bn ls) = z2 := ⟨_, rfl⟩
      rw [hz2] at HF6 HI6 HL6
      have HZ2 := Aside0.mk hz2
      clear hD6 hC6 hz2
      have HSM2 := Aside0.mk (inv_small hb2 hzb2 HI6.out)
      have HD6 := Aside0.mk (show Dev _ xb B _ (zn : Int) (zbn : Int) (bn : Int) r (z2.map flat) v from by rw [HF6.out]; exact HT6.out.dev)
      go_wp2_with fail
      refine (zones_calls xb B _ zn zbn r bn (by omega) hb2 _ v _ HD6.out HSM2.out.2.2.2.2 (by rw [List.length_map, HL6.out]; exact hz256)).mono ?_
      rintro e w7 ⟨v7, rfl, hN7, hw7⟩
      rw [partZ_flat (by omega) HI6.out] at hN7
      obtain ⟨A7, n7, k7, rfl, -, hC7⟩ := N_open hN7
      have HC7 := Aside0.mk hC7
      obtain ⟨A5', n5', k5', he5, -, hC5⟩ := N_open (Kd.N_below HN6.out hw7)
      obtain ⟨rfl, rfl, rfl⟩ : A5 = A5' ∧ n5 = n5' ∧ k5 = k5' := by simp only [Value.slice.injEq] at he5; exact he5
      have HC5 := Aside0.mk hC5
      have hn7 : n7 = zn := by rw [← (C_len hC7).1]; exact HL6.out
      have hn5 : n5 = zn := by rw [← HL5.out]; exact HLZ.out
      subst hn7
      have HB7 := Aside0.mk (HB6.out.trans (hw7.mono HB6.out.size))
      clear hN7 hC7 hC5 he5 hw7
      go_wp2_with fail
      go_loopg [13, 14, 15, 16, 17, 18] n7 (fun gk v13 v14 v15 v16 v17 v18 wp => ∃ z : Nat, v13 = .int .i64 (z : Int) ∧ z ≤ n7 ∧ Aside0 (gk + z = n7) ∧ Aside0 (Below w7.heap.size w7 wp))
      case atStart => exact ⟨0, rfl, by omega, ⟨rfl⟩, ⟨Below.refl _ _⟩⟩
      case round =>
        obtain ⟨z, rfl, hz, HK2, HS2⟩ := hrel
        obtain ⟨g1, rfl⟩ : ∃ g1 : Nat, g1 = gk := ⟨_, rfl⟩
        rename World => wp
        by_cases hzl : z < n7
        · obtain ⟨p, hp⟩ : ∃ p, zs.getD z ([], 0) = p := ⟨_, rfl⟩
          have hzl5 : z < zs.length := by rw [HLZ.out]; exact hzl
          obtain ⟨y, hy⟩ : ∃ y, rstay bn p.2 (ls.getD z (0, 0)).1 (ls.getD z (0, 0)).2 p.1.length p.1 = y := ⟨_, rfl⟩
          have hq : z2.getD z ([], 0) = (y, ((y.length : Nat) : Int)) := by
            rw [← HZ2.out, mapIdx_getD hzl5 hp]
            unfold rcrashF
            rw [hy]
          have hinp := HINV.out.get hzl5
          rw [hp] at hinp
          obtain ⟨⟨hp0, hp1⟩, hp2, hpb⟩ := hinp
          obtain ⟨⟨hd1, hd2⟩, hdb⟩ := dur_zone hpb hp0 hp1 hy
          have HPB := Aside0.mk hpb
          have HDB := Aside0.mk hdb
          have HP := Aside0.mk hp
          have HQ := Aside0.mk hq
          obtain ⟨a5, B5, c5, rfl, e0, e1, -, hB5, -⟩ := zones_at HC5.out z (by omega) hp
          obtain ⟨a7, B7, c7, rfl, f0, f1, -, hB7, -⟩ := zones_at HC7.out z hzl hq
          dsimp only at f0 f1 hB7
          have E0 := Aside0.mk e0
          have E1 := Aside0.mk e1
          have F0 := Aside0.mk f0
          have F1 := Aside0.mk f1
          have HB5b := Aside0.mk hB5
          have HB7b := Aside0.mk hB7
          have e0 := pw_cell_below HS2.out e0
          have e1 := pw_cell_below HS2.out e1
          have f0 := pw_cell_below HS2.out f0
          have f1 := pw_cell_below HS2.out f1
          have hz' : (z : Int) < (n7 : Int) := by omega
          have hd8 : decide ((z : Int) < (n7 : Int)) = true := decide_eq_true hz'
          have hg1 : decide (((y.length : Nat) : Int) < p.2) = false := decide_eq_false (by omega)
          have hg2 : decide (((p.1.length : Nat) : Int) < ((y.length : Nat) : Int)) = false := decide_eq_false (by omega)
          have hyl5 : y.length ≤ 5000 := by omega
          have hg3 : decide (p.1.length < y.length) = false := decide_eq_false (by omega)
          clear hp hq hy hpb hdb hB5 hB7
          go_wp2
          go_quiet (fail)
          go_wp2
          clear e0 e1 f0 f1 hg1 hg2 hg3
          have HQQ := Aside0.mk (pw_below_drewN HS2.out nq)
          go_loopg [14, 15, 16, 17, 18] y.length (fun gk v14 v15 v16 v17 v18 wq => ∃ k : Nat, v14 = .int .i64 (k : Int) ∧ k ≤ y.length ∧ Aside0 (gk + k = y.length) ∧ Aside0 (Below w7.heap.size w7 wq))
          case atStart => exact ⟨0, rfl, by omega, ⟨rfl⟩, HQQ⟩
          case round =>
            obtain ⟨k, rfl, hk, HK3, HS3⟩ := hrel
            obtain ⟨g2, rfl⟩ : ∃ g2 : Nat, g2 = gk := ⟨_, rfl⟩
            rename World => wq
            have f0 := pw_cell_below HS3.out F0.out
            by_cases hkl : k < y.length
            · have hdur := HDB.out k hkl
              obtain ⟨b7, C7, d7, rfl, f2, -, hC7b⟩ := bytes_at HB7b.out k hkl
              obtain ⟨b5, C5, d5, rfl, e2, -, hC5b⟩ := bytes_at HB5b.out k (by omega)
              obtain ⟨a, ha⟩ : ∃ a, y.getD k [] = a := ⟨_, rfl⟩
              obtain ⟨x, hx⟩ : ∃ x, p.1.getD k [] = x := ⟨_, rfl⟩
              rw [ha] at hdur f2 hC7b
              rw [hx] at hdur e2 hC5b
              have hxl : x.length = bn := by
                rw [← hx, List.getD_eq_getElem?_getD, List.getElem?_eq_getElem (show k < p.1.length by omega)]
                exact HPB.out _ (List.getElem_mem _)
              have hal := hdur.len hxl
              rw [hal] at f2 hC7b
              rw [hxl] at e2 hC5b
              have HDU := Aside0.mk hdur
              have HXL := Aside0.mk hxl
              have HCA := Aside0.mk hC7b
              have HCX := Aside0.mk hC5b
              have f2 := pw_cell_below HS3.out f2
              have e2 := pw_cell_below HS3.out e2
              have e0 := pw_cell_below HS3.out E0.out
              have hk' : (k : Int) < (y.length : Int) := by omega
              have hd7 : decide ((k : Int) < (y.length : Int)) = true := decide_eq_true hk'
              have hkp : k < p.1.length := by omega
              clear ha hx hxl hal hdur hC7b hC5b
              go_wp2
              clear e0 e2 f0 f2
              go_loopg [17] bn (fun gk v17 wn => ∃ q : Nat, v17 = .int .i64 (q : Int) ∧ q ≤ bn ∧ Aside0 (gk + q = bn) ∧ Aside0 (Below w7.heap.size w7 wn))
              case atStart => exact ⟨0, rfl, by omega, ⟨rfl⟩, HS3⟩
              case round =>
                obtain ⟨q, rfl, hq, HK4, HS4⟩ := hrel
                rename World => wn
                by_cases hql : q < bn
                · obtain ⟨aa, haa, hca⟩ := byte_at (Kd.C_below HCA.out HS4.out) q hql
                  obtain rfl := haa
                  obtain ⟨ax, hax, hcx⟩ := byte_at (Kd.C_below HCX.out HS4.out) q hql
                  obtain rfl := hax
                  obtain ⟨va, hva⟩ : ∃ va, a.getD q 0 = va := ⟨_, rfl⟩
                  obtain ⟨vx, hvx⟩ : ∃ vx, x.getD q 0 = vx := ⟨_, rfl⟩
                  rw [hva] at hca
                  rw [hvx] at hcx
                  have HVA := Aside0.mk hva
                  have HVX := Aside0.mk hvx
                  have hq' : (q : Int) < (bn : Int) := by omega
                  have hd5 : decide ((q : Int) < (bn : Int)) = true := decide_eq_true hq'
                  clear hva hvx
                  by_cases hne : va = vx
                  · subst hne
                    go_wp2
                    go_quiet (fail)
                    go_wp2
                    go_roundg (gk - 1)
                    case measure => have := HK4.out; omega
                    case rel => exact ⟨q + 1, by congr 1, by omega, ⟨by have := HK4.out; omega⟩, ⟨pw_below_drewN HS4.out nq⟩⟩
                  · obtain ⟨⟨hu1, hu2⟩, hno⟩ := HDU.out.nought HXL.out hql (by rw [HVA.out, HVX.out]; exact hne)
                    have HNO := Aside0.mk (show ∀ j, j < bn → q ≤ j → a.getD j 0 = 0 from fun j _ hj => hno j hj)
                    have hnb : (((va.toNat : Nat) : Int) == ((vx.toNat : Nat) : Int)) = false := by
                      rw [beq_eq_false_iff_ne]
                      intro e
                      exact hne (UInt8.toNat_inj.1 (by omega))
                    have hg4 : decide ((k : Int) < p.2) = false := decide_eq_false (by omega)
                    have hw5 : IntKind.i64.wrap ((y.length : Int) - 1) = (y.length : Int) - 1 := IntWalk.i64_in _ (by omega)
                    have hg5 : decide ((k : Int) < (y.length : Int) - 1) = false := decide_eq_false (by omega)
                    have e1 := pw_cell_below HS4.out E1.out
                    have f0 := pw_cell_below HS4.out F0.out
                    clear hne hno
                    go_wp2
                    go_quiet (fail)
                    have HBN := Aside0.mk (pw_below_drewN HS4.out nq)
                    go_wp2
                    clear e1 f0 hca hcx hnb hg4 hg5 hw5
                    go_loopg [18] (bn - q) (fun gk v18 wi => ∃ i : Nat, v18 = .int .i64 (i : Int) ∧ q ≤ i ∧ i ≤ bn ∧ Aside0 (gk + i = bn) ∧ Aside0 (Below w7.heap.size w7 wi))
                    case atStart => exact ⟨q, rfl, by omega, by omega, ⟨by omega⟩, ⟨HBN.out⟩⟩
                    case round =>
                      obtain ⟨i, rfl, hqi, hib, HK5, HSI⟩ := hrel
                      rename World => wi
                      by_cases hil : i < bn
                      · obtain ⟨ai, hai, hci⟩ := byte_at (Kd.C_below HCA.out HSI.out) i hil
                        obtain rfl : aa = ai := by injection hai
                        rw [HNO.out i hil hqi] at hci
                        have hci0 : wi.cell? (aa.add i) = some (.int .u8 0) := hci
                        have hi' : (i : Int) < (bn : Int) := by omega
                        have hd6 : decide ((i : Int) < (bn : Int)) = true := decide_eq_true hi'
                        clear hci
                        go_wp2
                        go_roundg (gk - 1)
                        case measure => have := HK5.out; omega
                        case rel => exact ⟨i + 1, by congr 1, by omega, by omega, ⟨by have := HK5.out; omega⟩, ⟨HSI.out⟩⟩
                      · obtain rfl : i = bn := by omega
                        have hd6 : decide ((i : Int) < (i : Int)) = false := decide_eq_false (by omega)
                        go_wp2
                        go_roundg (g2 - 1)
                        case measure => have := HK3.out; omega
                        case rel => exact ⟨k + 1, by congr 1, by omega, ⟨by have := HK3.out; omega⟩, ⟨HSI.out⟩⟩
                · obtain rfl : q = bn := by omega
                  have hd5 : decide ((q : Int) < (q : Int)) = false := decide_eq_false (by omega)
                  have HNO := Aside0.mk (show ∀ j, j < q → q ≤ j → a.getD j 0 = 0 from fun j h1 h2 => by omega)
                  go_wp2
                  go_quiet (fail)
                  have HBN := Aside0.mk (pw_below_drewN HS4.out nq)
                  go_wp2
                  go_loopg [18] (q - q) (fun gk v18 wi => ∃ i : Nat, v18 = .int .i64 (i : Int) ∧ q ≤ i ∧ i ≤ q ∧ Aside0 (gk + i = q) ∧ Aside0 (Below w7.heap.size w7 wi))
                  case atStart => exact ⟨q, rfl, by omega, by omega, ⟨by omega⟩, ⟨HBN.out⟩⟩
                  case round =>
                    obtain ⟨i, rfl, hqi, hib, HK5, HSI⟩ := hrel
                    rename World => wi
                    by_cases hil : i < q
                    · obtain ⟨ai, hai, hci⟩ := byte_at (Kd.C_below HCA.out HSI.out) i hil
                      obtain rfl := hai
                      rw [HNO.out i hil hqi] at hci
                      have hci0 : wi.cell? (ai.add i) = some (.int .u8 0) := hci
                      have hi' : (i : Int) < (q : Int) := by omega
                      have hd6 : decide ((i : Int) < (q : Int)) = true := decide_eq_true hi'
                      clear hci
                      go_wp2
                      go_roundg (gk - 1)
                      case measure => have := HK5.out; omega
                      case rel => exact ⟨i + 1, by congr 1, by omega, by omega, ⟨by have := HK5.out; omega⟩, ⟨HSI.out⟩⟩
                    · obtain rfl : i = q := by omega
                      have hd6 : decide ((i : Int) < (i : Int)) = false := decide_eq_false (by omega)
                      go_wp2
                      go_roundg (g2 - 1)
                      case measure => have := HK3.out; omega
                      case rel => exact ⟨k + 1, by congr 1, by omega, ⟨by have := HK3.out; omega⟩, ⟨HSI.out⟩⟩
            · obtain rfl : k = y.length := by omega
              have hd7 : decide ((y.length : Int) < (y.length : Int)) = false := decide_eq_false (by omega)
              go_wp2
              go_roundg (g1 - 1)
              case measure => have := HK2.out; omega
              case rel => exact ⟨z + 1, by congr 1, by omega, ⟨by have := HK2.out; omega⟩, ⟨HS3.out⟩⟩
        · obtain rfl : z = n7 := by omega
          have hd8 : decide ((z : Int) < (z : Int)) = false := decide_eq_false (by omega)
          go_wp2
          go_ret
          exact ⟨rfl, HB7.out.trans (HS2.out.mono HB7.out.size)⟩
end Go.Proofs.Ytmkjglnggkkpeaa.Dv
