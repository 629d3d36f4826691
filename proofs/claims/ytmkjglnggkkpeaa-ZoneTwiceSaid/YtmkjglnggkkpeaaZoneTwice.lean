/- ZoneTwice walks whole. -/
import Derived.Test.YtmkjglnggkkpeaaZoneDoes
import Derived.Test.YtmkjglnggkkpeaaOpen
import Derived.Test.YtmkjglnggkkpeaaTwice
namespace Go.Proofs.Ytmkjglnggkkpeaa.Dv
open Go.RowKit Go.Proofs.YtmkjglnggkkpeaaW.PrintWords Go.Proofs.YtmkjglnggkkpeaaW.PrintMore Go.Proofs.Ytmkjglnggkkpeaa.Base Go.Proofs.Ytmkjglnggkkpeaa.Shp
set_option linter.unusedVariables false
set_option linter.unusedSimpArgs false
set_option maxRecDepth 100000 in
set_option maxHeartbeats 4000000 in
theorem ztwice_walk (w : World) (s : Int × Int × Int × Int) (hs : IsI s.1 ∧ IsI s.2.1 ∧ IsI s.2.2.1 ∧ IsI s.2.2.2) (A : Option Addr) (n c : Nat) (l : List OpT) (hnc : n ≤ c) (hC : opK.C w A n l) (A2 : Option Addr) (nl kl : Nat) (la : List (Int × Int)) (hnl : nl ≤ kl) (hL : lossK.C w A2 nl la) (A3 : Option Addr) (nb kb : Nat) (lb : List (Int × Int)) (hnb : nb ≤ kb) (hLb : lossK.C w A3 nb lb) :
    Calls Try.prog 9 #[.agg #[.int .i64 s.1, .int .i64 s.2.1, .int .i64 s.2.2.1, .int .i64 s.2.2.2], .slice A n c, .slice A2 nl kl, .slice A3 nb kb] w fun e w' => e = .returned (.bool true) ∧ Below w.heap.size w w' := by
  obtain ⟨z, zb, b, r⟩ := s
  obtain ⟨hz, hzb, hb, hr⟩ := hs
  dsimp only at hz hzb hb hr ⊢
  have HZ := Aside0.mk hz
  have HZB := Aside0.mk hzb
  have HBB := Aside0.mk hb
  have HR := Aside0.mk hr
  have HA := Aside0.mk (alloc_below w (.cells #[.int .i64 z, .int .i64 zb, .int .i64 b, .int .i64 r] 23))
  have HX := Aside0.mk (Box.new w z zb b r)
  have HC := Aside0.mk hC
  have HLA := Aside0.mk hL
  have HLB := Aside0.mk hLb
  have hnlm := (C_len hL).2
  have hnbm := (C_len hLb).2
  obtain ⟨hln, hnm⟩ := C_len hC
  have HLN := Aside0.mk hln
  obtain ⟨d0, d1, d2, d3⟩ := HX.out
  clear hz hzb hb hr hC hln hL hnl hLb hnb
  go_enter Try.func9, Try.ntmps9
  go_wp2_with fail
  obtain ⟨W, hW⟩ : ∃ W, (w.alloc (.cells #[.int .i64 z, .int .i64 zb, .int .i64 b, .int .i64 r] 23)) = W := ⟨_, rfl⟩
  obtain ⟨g, hg⟩ : ∃ g, w.heap.size = g := ⟨_, rfl⟩
  rw [hW] at HX HA ⊢
  rw [hg] at HX ⊢
  have HG := Aside0.mk hg
  clear hW hg d0 d1 d2 d3
  refine (small_calls z zb b r HZ.out HZB.out HBB.out HR.out _).mono ?_
  rintro e w1 ⟨rfl, hw1⟩
  have HX := Aside0.mk (HX.out.below hw1)
  have HA := Aside0.mk (below_go HA.out hw1)
  obtain ⟨sm, hsm⟩ : ∃ sm, (decide (z ≤ 12) && decide (zb ≤ 16) && decide (b ≤ 128)) = sm := ⟨_, rfl⟩
  rw [hsm]
  clear hw1 hsm
  cases sm with
  | false =>
    go_wp2_with fail
    refine (known_calls _).mono ?_
    rintro e w2 ⟨rfl, hw2⟩
    have HA := Aside0.mk (below_go HA.out hw2)
    clear hw2
    go_wp2
    go_ret
    exact ⟨rfl, HA.out⟩
  | true =>
  go_wp2_with fail
  refine (heavy_calls A n c l _ (Kd.C_below HC.out HA.out)).mono ?_
  rintro e w2 ⟨rfl, rfl⟩
  obtain ⟨hv, hhv⟩ : ∃ hv, heavyB l = hv := ⟨_, rfl⟩
  rw [hhv]
  have HHV := Aside0.mk hhv
  clear hhv
  cases hv with
  | true =>
    go_wp2_with fail
    refine (known_calls _).mono ?_
    rintro e w2 ⟨rfl, hw2⟩
    have HA := Aside0.mk (below_go HA.out hw2)
    clear hw2
    go_wp2
    go_ret
    exact ⟨rfl, HA.out⟩
  | false =>
  by_cases hga : 20 < nl
  · have hdga : decide (20 < (nl : Int)) = true := decide_eq_true (by omega)
    go_wp2_with fail
    refine (known_calls _).mono ?_
    rintro e w2 ⟨rfl, hw2⟩
    have HA := Aside0.mk (below_go HA.out hw2)
    clear hw2
    go_wp2
    go_ret
    exact ⟨rfl, HA.out⟩
  have hdga : decide (20 < (nl : Int)) = false := decide_eq_false (by omega)
  by_cases hgb : 20 < nb
  · have hdgb : decide (20 < (nb : Int)) = true := decide_eq_true (by omega)
    go_wp2_with fail
    refine (known_calls _).mono ?_
    rintro e w2 ⟨rfl, hw2⟩
    have HA := Aside0.mk (below_go HA.out hw2)
    clear hw2
    go_wp2
    go_ret
    exact ⟨rfl, HA.out⟩
  have hdgb : decide (20 < (nb : Int)) = false := decide_eq_false (by omega)
  go_wp2_with fail
  refine (known_calls _).mono ?_
  rintro e w2 ⟨rfl, hw2⟩
  have HX := Aside0.mk (HX.out.below hw2)
  have HA := Aside0.mk (below_go HA.out hw2)
  clear hw2
  obtain ⟨d0, d1, d2, d3⟩ := HX.out
  have HX2 := HX
  go_wp2_with fail
  refine (new_calls z zb b r HZ.out HZB.out HBB.out HR.out _).mono ?_
  rintro e w3 ⟨hcase, hw3⟩
  have HX := Aside0.mk (HX.out.below hw3)
  have HAW := Aside0.mk (show w.heap.size ≤ w2.heap.size from HA.out.size)
  have hgB : g < w2.heap.size := World.block_lt_of_cell? _ _ HX2.out.d0
  have HA := Aside0.mk (below_go HA.out hw3)
  clear hw3 d0 d1 d2 d3
  rcases hcase with ⟨hnrt, rfl⟩ | ⟨hrt, xb, v, rfl, hD, hxb⟩
  · have HNRT := Aside0.mk hnrt
    obtain ⟨d0, d1, d2, d3⟩ := HX.out
    clear hnrt
    go_wp2_with fail
    refine (rnew_calls z zb b r HZ.out HZB.out HBB.out HR.out _).mono ?_
    rintro e w4 ⟨⟨_, rfl⟩ | ⟨hrt, _⟩, hw4⟩
    · have HA := Aside0.mk (below_go HA.out hw4)
      clear hw4 d0 d1 d2 d3
      go_wp2
      go_ret
      exact ⟨rfl, HA.out⟩
    · exact absurd hrt HNRT.out
  obtain ⟨zn, zbn, bn, rfl, rfl, rfl, hz6, hz256, hzb2, hb1, hb2⟩ := small_rt hrt
  have HRT := Aside0.mk hrt
  have HD := Aside0.mk hD
  obtain ⟨d0, d1, d2, d3⟩ := HX.out
  clear hrt hD
  go_wp2_with fail
  refine (rnew_calls (zn : Int) (zbn : Int) (bn : Int) r HZ.out HZB.out HBB.out HR.out _).mono ?_
  rintro e w4 ⟨⟨hnrt, _⟩ | ⟨_, rb, vr, rfl, hRD, hrb⟩, hw4⟩
  · exact absurd HRT.out hnrt
  have hB23 : w2.heap.size ≤ w3.heap.size := by have := (Array.getElem?_eq_some_iff.1 HD.out.blk).1; omega
  obtain ⟨D0, R0, hT0⟩ := Two.new (w2 := w2) HD.out hxb hB23 hRD hrb hw4
  have HX := Aside0.mk (HX.out.below hw4)
  have HA := Aside0.mk (below_go HA.out hw4)
  generalize w2.heap.size = B at *
  have HBT : Aside0 (Both w4 w4 xb rb B zn zbn bn r v vr) := ⟨⟨_, D0, R0, hT0, fun p hp => by rw [List.eq_of_mem_replicate hp]; simp, List.length_replicate, Below.refl _ _⟩⟩
  have HFEW := Aside0.mk (ops_few HLN.out HHV.out)
  have hn60 := HFEW.out.1
  have HGB := Aside0.mk hgB
  clear hw4 hRD hT0 hgB d0 d1 d2 d3 hxb hrb hB23
  go_wp2
  go_loopg [12] n (fun gk v12 wr => ∃ i : Nat, v12 = .int .i64 (i : Int) ∧ i ≤ n ∧ Aside0 (gk + i = n) ∧ Aside0 (Both w4 wr xb rb B zn zbn bn r v vr))
  case atStart => exact ⟨0, rfl, by omega, ⟨rfl⟩, HBT⟩
  case round =>
    obtain ⟨i, rfl, hi, HK, HS⟩ := hrel
    rename World => wr
    obtain ⟨zs, D, R, hT, hinv, hlz, hbr⟩ := HS.out
    have HT := Aside0.mk hT
    have HINV := Aside0.mk hinv
    have HLZ := Aside0.mk hlz
    have HBR := Aside0.mk (show Below w.heap.size w wr from HA.out.trans (hbr.mono HAW.out))
    have HB4 := Aside0.mk hbr
    have HXR := Aside0.mk (HX.out.belowB hbr HGB.out)
    clear hT hinv hlz hbr
    by_cases hlt : i < n
    · obtain ⟨o, ho⟩ : ∃ o, l.getD i op0 = o := ⟨_, rfl⟩
      obtain ⟨ad, F, cf, L, cl, rfl, c0, c1, c2, c3, c4, hk, hzi, hni, hF, hFC, hLl, hLC⟩ := op_at HC.out i hlt ho
      have c0 := pw_cell_below HBR.out c0
      have c1 := pw_cell_below HBR.out c1
      have c2 := pw_cell_below HBR.out c2
      have c3 := pw_cell_below HBR.out c3
      have c4 := pw_cell_below HBR.out c4
      have hom : o ∈ l := by
        rw [← ho, List.getD_eq_getElem?_getD, List.getElem?_eq_getElem (show i < l.length by rw [HLN.out]; exact hlt)]
        exact List.getElem_mem _
      have HOL := Aside0.mk (HFEW.out.2 o hom)
      have HO := Aside0.mk ho
      have HKI := Aside0.mk hk
      have HZI := Aside0.mk hzi
      have HNI := Aside0.mk hni
      have HFC := Aside0.mk hFC
      have HLC := Aside0.mk hLC
      obtain ⟨d0, d1, d2, d3⟩ := HXR.out
      have hadb : ad.block < w.heap.size := by
        obtain ⟨ad', _, _, _, _, e, k0, _⟩ := op_at HC.out i hlt ho
        injection e with e
        subst e
        have := World.block_lt_of_cell? w _ k0
        rwa [add_block] at this
      have HAB := Aside0.mk hadb
      have hlt' : (i : Int) < (n : Int) := by omega
      have hd9 : decide ((i : Int) < (n : Int)) = true := decide_eq_true hlt'
      clear ho hk hzi hni hFC hLC hom hF hLl hadb
      go_wp2
      have HAD := Aside0.mk (show (ad.add (i * 5)).block < B by rw [add_block]; exact Nat.lt_of_lt_of_le HAB.out HAW.out)
      have hnine := (⟨d0, d1, d2, d3, c0, c1, c2, c3, c4⟩ : wr.cell? ⟨g, 0, none⟩ = some (.int .i64 (zn : Int)) ∧ wr.cell? ⟨g, 1, none⟩ = some (.int .i64 (zbn : Int)) ∧ wr.cell? ⟨g, 2, none⟩ = some (.int .i64 (bn : Int)) ∧ wr.cell? ⟨g, 3, none⟩ = some (.int .i64 r) ∧ wr.cell? (ad.add (i * 5)) = some (.int .u8 o.1) ∧ wr.cell? ⟨(ad.add (i * 5)).block, (ad.add (i * 5)).off + 1, none⟩ = some (.int .i64 o.2.1) ∧ wr.cell? ⟨(ad.add (i * 5)).block, (ad.add (i * 5)).off + 2, none⟩ = some (.int .i64 o.2.2.1) ∧ wr.cell? ⟨(ad.add (i * 5)).block, (ad.add (i * 5)).off + 3, none⟩ = some (.slice F o.2.2.2.1.length cf) ∧ wr.cell? ⟨(ad.add (i * 5)).block, (ad.add (i * 5)).off + 4, none⟩ = some (.slice L o.2.2.2.2.length cl))
      have HNINE := Aside0.mk hnine
      clear hnine
      go_region_held3 (fun w' => w'.cell? ⟨g, 0, none⟩ = some (.int .i64 (zn : Int)) ∧ w'.cell? ⟨g, 1, none⟩ = some (.int .i64 (zbn : Int)) ∧ w'.cell? ⟨g, 2, none⟩ = some (.int .i64 (bn : Int)) ∧ w'.cell? ⟨g, 3, none⟩ = some (.int .i64 r) ∧ w'.cell? (ad.add (i * 5)) = some (.int .u8 o.1) ∧ w'.cell? ⟨(ad.add (i * 5)).block, (ad.add (i * 5)).off + 1, none⟩ = some (.int .i64 o.2.1) ∧ w'.cell? ⟨(ad.add (i * 5)).block, (ad.add (i * 5)).off + 2, none⟩ = some (.int .i64 o.2.2.1) ∧ w'.cell? ⟨(ad.add (i * 5)).block, (ad.add (i * 5)).off + 3, none⟩ = some (.slice F o.2.2.2.1.length cf) ∧ w'.cell? ⟨(ad.add (i * 5)).block, (ad.add (i * 5)).off + 4, none⟩ = some (.slice L o.2.2.2.2.length cl))
        (first | exact HNINE.out | exact HN5.out)
        (first | (go_at_call 20; (with_reducible refine (does_calls w F cf L cl o HKI.out HZI.out HNI.out HFC.out HLC.out HOL.out.1 xb rb B zn zbn bn r HRT.out hz256 hzb2 hb1 hb2 v vr zs D R _ HAW.out (below_drew HBR.out) (HT.out.below (below_drew (Below.refl _ _))) HINV.out HLZ.out).mono ?_); rintro e w5 ⟨rfl, hBo5⟩; have HBo5 := Aside0.mk hBo5; have HB5 := Aside0.mk (((below_drew (Below.refl _ _) : Below wr.heap.size wr wr.drew).mono HT.out.base).trans hBo5.bel); have HN5 := Aside0.mk (nine_at HB5.out HGB.out HAD.out HNINE.out); clear hBo5))
      clear c0 c1 c2 c3 c4 d0 d1 d2 d3
      obtain ⟨-, -, -, -, -, b1, -, -, -⟩ := HN5.out
      obtain ⟨zs5, D5, R5, hT5, hinv5, hlz5, hbr5⟩ := HBo5.out
      have HT5 := Aside0.mk hT5
      have HINV5 := Aside0.mk hinv5
      have HLZ5 := Aside0.mk hlz5
      clear hT5 hinv5 hlz5 hbr5
      have HB9 := Aside0.mk (HB4.out.trans HB5.out)
      clear b1
      go_wp2
      go_roundg (gk - 1)
      case measure => have := HK.out; omega
      case rel => exact ⟨i + 1, by congr 1, by omega, ⟨by have := HK.out; omega⟩, ⟨zs5, D5, R5, HT5.out, HINV5.out, HLZ5.out, HB9.out⟩⟩
    · obtain rfl : i = n := by omega
      have hd9 : decide ((i : Int) < (i : Int)) = false := decide_eq_false (by omega)
      obtain ⟨d0, d1, d2, d3⟩ := HXR.out
      have HSM := Aside0.mk (inv_small hb2 hzb2 HINV.out)
      have HDL := Aside0.mk HT.out.dl
      have HXL := Aside0.mk HT.out.xlt
      have HBS := Aside0.mk HT.out.base
      go_wp2
      go_region_held3 (fun w' => w'.cell? ⟨g, 0, none⟩ = some (.int .i64 (zn : Int)) ∧ w'.cell? ⟨g, 1, none⟩ = some (.int .i64 (zbn : Int)) ∧ w'.cell? ⟨g, 2, none⟩ = some (.int .i64 (bn : Int)) ∧ w'.cell? ⟨g, 3, none⟩ = some (.int .i64 r))
        (first | exact ⟨d0, d1, d2, d3⟩ | exact ⟨pw_cell_below hw5 d0, pw_cell_below hw5 d1, pw_cell_below hw5 d2, pw_cell_below hw5 d3⟩ | exact ⟨pw_cell_below hw6 (pw_cell_below hw5 d0), pw_cell_below hw6 (pw_cell_below hw5 d1), pw_cell_below hw6 (pw_cell_below hw5 d2), pw_cell_below hw6 (pw_cell_below hw5 d3)⟩)
        (first
          | (go_at_call 21; (with_reducible refine (zones_calls xb B D zn zbn r bn (by omega) hb2 _ v _ (HT.out.below (below_drew (Below.refl _ _))).dev HSM.out.2.2.2.2 (by rw [List.length_map, HLZ.out]; exact hz256)).mono ?_); rintro e w5 ⟨v5, rfl, hN5, hw5⟩; (rw [partZ_flat (by omega) HINV.out] at hN5); obtain ⟨A5, n5, k5, rfl, -, hC5⟩ := N_open hN5; have HC5 := Aside0.mk hC5; clear hC5 hN5)
          | (go_at_call 30; (with_reducible refine (open_calls zn zbn bn r HRT.out ⟨HZ.out, HZB.out, HBB.out, HR.out⟩ hzb2 hb1 hb2 A5 n5 k5 zs HINV.out HLZ.out _ HC5.out).mono ?_); rintro e w6 ⟨xo, vo, rfl, hDo, hxo, hw6⟩))
      have HW5 := Aside0.mk (show Below wr.heap.size wr w5 from Below.trans (below_drew (Below.refl _ _)) hw5)
      have HW6 := Aside0.mk hw6
      have HD6 := Aside0.mk ((HT.out.dev.below HW5.out).below hw6)
      have HO6 := Aside0.mk (hDo.tight (ok' := fun k => w5.heap.size ≤ k ∧ k < w6.heap.size) (fun k h1 _ h2 => ⟨h1, h2⟩))
      have HXO := Aside0.mk (show w5.heap.size ≤ xo ∧ xo < w6.heap.size from ⟨hxo, (Array.getElem?_eq_some_iff.1 hDo.blk).1⟩)
      have HSZ := Aside0.mk (show wr.heap.size ≤ w5.heap.size ∧ w5.heap.size ≤ w6.heap.size from ⟨HW5.out.size, hw6.size⟩)
      have HB6 := Aside0.mk (HBR.out.trans ((HW5.out.trans (hw6.mono HW5.out.size)).mono HBR.out.size))
      have HDB := Aside0.mk (show ∀ k, D k → w.heap.size ≤ k from fun k hk => Nat.le_trans HAW.out (HDL.out k hk).1)
      have hws := HBR.out.size
      have HWS := Aside0.mk hws
      clear d0 d1 d2 d3 hw5 hw6 hDo hxo hws
      go_wp2_with fail
      refine (crash_calls xb B (fun k => D k ∨ w6.heap.size ≤ k) zn zbn r bn (by omega) hb2 _ (HINV.out.fit (by omega) hb2 hzb2) v A2 _ kl la _ (HD6.out.tight (fun k h _ _ => .inl h)) (fun k hk => .inr hk) (fun w1 hc => Kd.C_below HLA.out (HB6.out.trans (hc.to_below HB6.out.size (fun k hk => hk.elim (fun h => HDB.out k h) (fun h => Nat.le_trans HB6.out.size h)))))).mono ?_
      rintro e w7 ⟨rfl, hD7, hC7⟩
      have hs7 := hC7.kept.1
      have HO7 := Aside0.mk (HO6.out.chg hC7 (fun hs => by have h1 := HXO.out; have h2 := HSZ.out; exact hs.elim (fun h => by have := (HDL.out _ h).2; omega) (fun h => by omega)) (fun k hk hs => by have h2 := HSZ.out; exact hs.elim (fun h => by have := (HDL.out _ h).2; omega) (fun h => by omega)))
      have HD7 := Aside0.mk (hD7.tight (ok' := fun k => (D k ∨ w6.heap.size ≤ k) ∧ k < w7.heap.size) (fun k h1 _ h2 => ⟨h1, h2⟩))
      have HB7 := Aside0.mk (HB6.out.trans (hC7.to_below HB6.out.size (fun k hk => hk.elim (fun h => HDB.out k h) (fun h => Nat.le_trans HB6.out.size h))))
      have HS7 := Aside0.mk hs7
      clear hD7 hC7 hs7
      go_wp2_with fail
      refine (crash_calls xo _ (fun k => (w5.heap.size ≤ k ∧ k < w6.heap.size) ∨ w7.heap.size ≤ k) zn zbn r bn (by omega) hb2 _ (HINV.out.fit (by omega) hb2 hzb2) vo A2 _ kl la _ (HO7.out.tight (fun k h _ _ => .inl h)) (fun k hk => .inr hk) (fun w1 hc => Kd.C_below HLA.out (HB7.out.trans (hc.to_below HB7.out.size (fun k hk => by have h1 := HSZ.out; have h2 := HWS.out; have h3 := HB7.out.size; omega))))).mono ?_
      rintro e w8 ⟨rfl, hO8, hC8⟩
      have hs8 := hC8.kept.1
      have HD8 := Aside0.mk (HD7.out.chg hC8 (fun hs => by have h1 := HXL.out.1; have h2 := HSZ.out; have h3 := HS7.out; omega) (fun k hk hs => by have h2 := HSZ.out; have h3 := HS7.out; rcases hk.1 with h | h; (have := (HDL.out _ h).2; omega); omega))
      have HO8 := Aside0.mk (hO8.tight (ok' := fun k => ((w5.heap.size ≤ k ∧ k < w6.heap.size) ∨ w7.heap.size ≤ k) ∧ k < w8.heap.size) (fun k h1 _ h2 => ⟨h1, h2⟩))
      have HB8 := Aside0.mk (HB7.out.trans (hC8.to_below HB7.out.size (fun k hk => by have h1 := HSZ.out; have h2 := HWS.out; have h3 := HB7.out.size; omega)))
      have HF := Aside0.mk (flat_crash (b := bn) (ls := la) (by omega) HINV.out)
      have HI := Aside0.mk (inv_crash (ls := la) HINV.out)
      have HLN1 := Aside0.mk (show (zs.mapIdx (rcrashF bn la)).length = zn by rw [List.length_mapIdx]; exact HLZ.out)
      have HTW := Aside0.mk (crash_twice (b := bn) (la := la) (lb := lb) (zs := zs))
      obtain ⟨z1, hz1⟩ : ∃ z1, zs.mapIdx (rcrashF bn la) = z1 := ⟨_, rfl⟩
      rw [hz1] at HF HI HLN1 HTW
      have HSM1 := Aside0.mk (inv_small hb2 hzb2 HI.out)
      have HS8 := Aside0.mk hs8
      have HD8 := Aside0.mk (show Dev w8 xb B (fun k => (D k ∨ w6.heap.size ≤ k) ∧ k < w7.heap.size) (zn : Int) (zbn : Int) (bn : Int) r (z1.map flat) v from by rw [HF.out]; exact HD8.out)
      have HO8 := Aside0.mk (show Dev w8 xo _ (fun k => ((w5.heap.size ≤ k ∧ k < w6.heap.size) ∨ w7.heap.size ≤ k) ∧ k < w8.heap.size) (zn : Int) (zbn : Int) (bn : Int) r (z1.map flat) vo from by rw [HF.out]; exact HO8.out)
      clear hO8 hC8 hs8 hz1
      go_wp2_with fail
      refine (zones_calls xb B _ zn zbn r bn (by omega) hb2 _ v _ HD8.out HSM1.out.2.2.2.2 (by rw [List.length_map, HLN1.out]; exact hz256)).mono ?_
      rintro e w9 ⟨v9, rfl, hN9, hw9⟩
      rw [partZ_flat (by omega) HI.out] at hN9
      have HN9 := Aside0.mk hN9
      obtain ⟨A9, n9, k9, rfl, -, -⟩ := N_open hN9
      have HD9 := Aside0.mk (HD8.out.below hw9)
      have HO9 := Aside0.mk (HO8.out.below hw9)
      have HB9 := Aside0.mk (HB8.out.trans (hw9.mono HB8.out.size))
      have HS9 := Aside0.mk hw9.size
      clear hN9 hw9
      go_wp2_with fail
      refine (crash_calls xb B (fun k => ((D k ∨ w6.heap.size ≤ k) ∧ k < w7.heap.size) ∨ w9.heap.size ≤ k) zn zbn r bn (by omega) hb2 _ (HI.out.fit (by omega) hb2 hzb2) v A3 _ kb lb _ (HD9.out.tight (fun k h _ _ => .inl h)) (fun k hk => .inr hk) (fun w1 hc => Kd.C_below HLB.out (HB9.out.trans (hc.to_below HB9.out.size (fun k hk => hk.elim (fun h => h.1.elim (fun h => HDB.out k h) (fun h => by have := HB6.out.size; omega)) (fun h => Nat.le_trans HB9.out.size h)))))).mono ?_
      rintro e wa ⟨rfl, hDa, hCa⟩
      rw [← flat_crash (by omega) HI.out, HTW.out] at hDa
      have HDa := Aside0.mk hDa
      have HNa := Aside0.mk (Kd.N_kept HN9.out hCa.kept (fun k hk hs => by have h1 := HS8.out; exact hs.elim (fun h => by have := h.2; have := hk.1; omega) (fun h => by have := hk.2; omega)))
      have HOa := Aside0.mk (HO9.out.chg hCa (fun hs => by have h1 := HXO.out; have h2 := HSZ.out; have h3 := HS7.out; have h4 := HS8.out; have h5 := HS9.out; exact hs.elim (fun h => h.1.elim (fun h => by have := (HDL.out _ h).2; omega) (fun h => by omega)) (fun h => by omega))
        (fun k hk hs => by have h2 := HSZ.out; have h3 := HS7.out; have h4 := HS8.out; have h5 := HS9.out; exact hs.elim (fun h => h.1.elim (fun h' => by have := (HDL.out _ h').2; omega) (fun h' => by have := h.2; have := hk.1; omega)) (fun h => by have := hk.2; omega)))
      have HBa := Aside0.mk (HB9.out.trans (hCa.to_below HB9.out.size (fun k hk => hk.elim (fun h => h.1.elim (fun h => HDB.out k h) (fun h => by have := HB6.out.size; omega)) (fun h => Nat.le_trans HB9.out.size h))))
      clear hDa hCa
      go_wp2_with fail
      refine (zones_calls xb B _ zn zbn r bn (by omega) hb2 _ v _ HDa.out HSM1.out.2.2.2.2 (by rw [List.length_map, HLN1.out]; exact hz256)).mono ?_
      rintro e wb ⟨vb, rfl, hNb, hwb⟩
      rw [partZ_flat (by omega) HI.out] at hNb
      obtain ⟨Ab, mb, kb', rfl, -, hCb⟩ := N_open hNb
      obtain ⟨A9', n9', k9', he9, -, hC9⟩ := N_open (Kd.N_below HNa.out hwb)
      obtain ⟨rfl, rfl, rfl⟩ : A9 = A9' ∧ n9 = n9' ∧ k9 = k9' := by simp only [Value.slice.injEq] at he9; exact he9
      have HCb := Aside0.mk hCb
      have HC9 := Aside0.mk hC9
      have HOb := Aside0.mk (HOa.out.below hwb)
      have HBb := Aside0.mk (HBa.out.trans (hwb.mono HBa.out.size))
      clear hNb hCb hC9 he9 hwb
      go_wp2_with fail
      refine (szones_calls Ab A9 mb n9 kb' k9 z1 z1 _ HCb.out HC9.out).mono ?_
      rintro e wc ⟨rfl, m1, rfl⟩
      rw [decide_eq_true rfl]
      have HC9 := Aside0.mk (Kd.C_below HC9.out (pw_below_drewN (Below.refl _ _) m1))
      have HOc := Aside0.mk (HOb.out.below (pw_below_drewN (Below.refl _ _) m1))
      have HBc := Aside0.mk (HBb.out.trans ((pw_below_drewN (Below.refl _ _) m1).mono HBb.out.size))
      go_wp2_with fail
      refine (zones_calls xo _ _ zn zbn r bn (by omega) hb2 _ vo _ HOc.out HSM1.out.2.2.2.2 (by rw [List.length_map, HLN1.out]; exact hz256)).mono ?_
      rintro e wd ⟨vd, rfl, hNd, hwd⟩
      rw [partZ_flat (by omega) HI.out] at hNd
      obtain ⟨Ad, md, kd, rfl, -, hCd⟩ := N_open hNd
      have HCd := Aside0.mk hCd
      have HC9 := Aside0.mk (Kd.C_below HC9.out hwd)
      have HBd := Aside0.mk (HBc.out.trans (hwd.mono HBc.out.size))
      clear hNd hCd hwd
      go_wp2_with fail
      refine (szones_calls Ad A9 md n9 kd k9 z1 z1 _ HCd.out HC9.out).mono ?_
      rintro e we ⟨rfl, m2, rfl⟩
      rw [decide_eq_true rfl]
      have HBe := Aside0.mk (HBd.out.trans ((pw_below_drewN (Below.refl _ _) m2).mono HBd.out.size))
      go_wp2
      go_ret
      exact ⟨rfl, HBe.out⟩
end Go.Proofs.Ytmkjglnggkkpeaa.Dv
