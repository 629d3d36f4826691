/- ZoneDoes walks whole. -/
import Derived.Test.YtmkjglnggkkpeaaDoes
namespace Go.Proofs.Ytmkjglnggkkpeaa.Dv
open Go.RowKit Go.Proofs.YtmkjglnggkkpeaaW.PrintWords Go.Proofs.YtmkjglnggkkpeaaW.PrintMore Go.Proofs.Ytmkjglnggkkpeaa.Base Go.Proofs.Ytmkjglnggkkpeaa.Shp
set_option linter.unusedVariables false
set_option linter.unusedSimpArgs false
theorem at_form {b : Int} {ps : List Prt} {i : Int} {e : Ending} (h : AtR b ps i e) : ∃ x y : Int, e = .returned (.tuple #[.int .i64 x, .int .i64 y]) := by
  rcases h with ⟨_, h⟩ | ⟨_, h⟩
  · exact ⟨_, _, h⟩
  · exact ⟨_, _, h⟩
theorem ops_few {l : List OpT} {n : Nat} (hl : l.length = n) (h : heavyB l = false) : n ≤ 60 ∧ ∀ o ∈ l, o.2.2.2.1.length ≤ 200 ∧ o.2.2.2.2.length ≤ 20 := by
  unfold heavyB at h
  simp only [Bool.or_eq_false_iff, decide_eq_false_iff_not, List.any_eq_false] at h
  refine ⟨by omega, fun o ho => ?_⟩
  have := h.2 o ho
  unfold bigB at this
  simp at this
  omega
theorem nine_at {wr w5 : World} {B g : Nat} {p : Addr} {a0 a1 a2 a3 b0 b1 b2 b3 b4 : Value} (hb : Below B wr w5) (hg : g < B) (hp : p.block < B)
    (h : wr.cell? ⟨g, 0, none⟩ = some a0 ∧ wr.cell? ⟨g, 1, none⟩ = some a1 ∧ wr.cell? ⟨g, 2, none⟩ = some a2 ∧ wr.cell? ⟨g, 3, none⟩ = some a3 ∧ wr.cell? p = some b0 ∧ wr.cell? ⟨p.block, p.off + 1, none⟩ = some b1 ∧ wr.cell? ⟨p.block, p.off + 2, none⟩ = some b2 ∧ wr.cell? ⟨p.block, p.off + 3, none⟩ = some b3 ∧ wr.cell? ⟨p.block, p.off + 4, none⟩ = some b4) :
    w5.cell? ⟨g, 0, none⟩ = some a0 ∧ w5.cell? ⟨g, 1, none⟩ = some a1 ∧ w5.cell? ⟨g, 2, none⟩ = some a2 ∧ w5.cell? ⟨g, 3, none⟩ = some a3 ∧ w5.cell? p = some b0 ∧ w5.cell? ⟨p.block, p.off + 1, none⟩ = some b1 ∧ w5.cell? ⟨p.block, p.off + 2, none⟩ = some b2 ∧ w5.cell? ⟨p.block, p.off + 3, none⟩ = some b3 ∧ w5.cell? ⟨p.block, p.off + 4, none⟩ = some b4 := by
  rw [hb.cell (p := ⟨g, 0, none⟩) hg, hb.cell (p := ⟨g, 1, none⟩) hg, hb.cell (p := ⟨g, 2, none⟩) hg, hb.cell (p := ⟨g, 3, none⟩) hg, hb.cell hp, hb.cell (p := ⟨p.block, p.off + 1, none⟩) hp, hb.cell (p := ⟨p.block, p.off + 2, none⟩) hp, hb.cell (p := ⟨p.block, p.off + 3, none⟩) hp, hb.cell (p := ⟨p.block, p.off + 4, none⟩) hp]
  exact h
theorem Both.bel {w w' : World} {xb rb B zn zbn bn : Nat} {r : Int} {v vr : Value} (h : Both w w' xb rb B zn zbn bn r v vr) : Below B w w' := by
  obtain ⟨_, _, _, _, _, _, h⟩ := h
  exact h
/-- New ones. -/
theorem Two.new {w2 w3 w4 : World} {xb rb : Nat} {zn zbn bn : Nat} {r : Int} {v vr : Value} (hD : Dev w3 xb w2.heap.size (fun k => w2.heap.size ≤ k) (zn : Int) (zbn : Int) (bn : Int) r (List.replicate zn ([], 0)) v) (hx : w2.heap.size ≤ xb) (h23 : w2.heap.size ≤ w3.heap.size)
    (hR : RDv w4 rb w3.heap.size (fun k => w3.heap.size ≤ k) (zn : Int) (zbn : Int) (bn : Int) r (List.replicate zn ([], 0)) vr) (hr : w3.heap.size ≤ rb) (h4 : Below w3.heap.size w3 w4) :
    ∃ D R, Two w4 xb rb w2.heap.size (zn : Int) (zbn : Int) (bn : Int) r ((List.replicate zn (([], 0) : Zn)).map flat) (List.replicate zn ([], 0)) v vr D R := by
  have hxl := (Array.getElem?_eq_some_iff.1 hD.blk).1
  have hs := h4.size
  refine ⟨fun k => w2.heap.size ≤ k ∧ k < w3.heap.size, fun k => w3.heap.size ≤ k ∧ k < w4.heap.size, ?_, ⟨hR.blk, Kd.N_lower (Kd.N_mono (Kd.N_bound hR.row) (fun k hk => hk)) h23⟩, fun k hk => ⟨hk.1, by omega⟩, fun k hk => ⟨by omega, hk.2⟩, fun k hk hr => by omega, by omega, fun hd => by omega, fun hd => by omega, ⟨hx, by omega⟩⟩
  rw [List.map_replicate]
  exact (hD.tight (fun k h1 _ h2 => ⟨h1, h2⟩)).below h4
set_option maxRecDepth 100000 in
set_option maxHeartbeats 4000000 in
theorem zdoes_walk (w : World) (s : Int × Int × Int × Int) (hs : IsI s.1 ∧ IsI s.2.1 ∧ IsI s.2.2.1 ∧ IsI s.2.2.2) (A : Option Addr) (n c : Nat) (l : List OpT) (hnc : n ≤ c) (hC : opK.C w A n l) :
    Calls Try.prog 6 #[.agg #[.int .i64 s.1, .int .i64 s.2.1, .int .i64 s.2.2.1, .int .i64 s.2.2.2], .slice A n c] w fun e w' => e = .returned (.bool true) ∧ Below w.heap.size w w' := by
  obtain ⟨z, zb, b, r⟩ := s
  obtain ⟨hz, hzb, hb, hr⟩ := hs
  dsimp only at hz hzb hb hr ⊢
  have HZ := Aside0.mk hz
  have HZB := Aside0.mk hzb
  have HBB := Aside0.mk hb
  have HR := Aside0.mk hr
  have HA := Aside0.mk (alloc_below w (.cells #[.int .i64 z, .int .i64 zb, .int .i64 b, .int .i64 r] 23))
  have HX := Aside0.mk (Box.new w z zb b r)
  have HC := Aside0.mk hC
  obtain ⟨hln, hnm⟩ := C_len hC
  have HLN := Aside0.mk hln
  obtain ⟨d0, d1, d2, d3⟩ := HX.out
  clear hz hzb hb hr hC hln
  go_enter Try.func6, Try.ntmps6
  go_wp2_with fail
  obtain ⟨W, hW⟩ : ∃ W, (w.alloc (.cells #[.int .i64 z, .int .i64 zb, .int .i64 b, .int .i64 r] 23)) = W := ⟨_, rfl⟩
  obtain ⟨g, hg⟩ : ∃ g, w.heap.size = g := ⟨_, rfl⟩
  rw [hW] at HX HA ⊢
  rw [hg] at HX ⊢
  have HG := Aside0.mk hg
  clear hW hg d0 d1 d2 d3
  refine (small_calls z zb b r HZ.out HZB.out HBB.out HR.out _).mono ?_
  rintro e w1 ⟨rfl, hw1⟩
  have HX := Aside0.mk (HX.out.below hw1)
  have HA := Aside0.mk (below_go HA.out hw1)
  obtain ⟨sm, hsm⟩ : ∃ sm, (decide (z ≤ 12) && decide (zb ≤ 16) && decide (b ≤ 128)) = sm := ⟨_, rfl⟩
  rw [hsm]
  clear hw1 hsm
  cases sm with
  | false =>
    go_wp2_with fail
    refine (known_calls _).mono ?_
    rintro e w2 ⟨rfl, hw2⟩
    have HA := Aside0.mk (below_go HA.out hw2)
    clear hw2
    go_wp2
    go_ret
    exact ⟨rfl, HA.out⟩
  | true =>
  go_wp2_with fail
  refine (heavy_calls A n c l _ (Kd.C_below HC.out HA.out)).mono ?_
  rintro e w2 ⟨rfl, rfl⟩
  obtain ⟨hv, hhv⟩ : ∃ hv, heavyB l = hv := ⟨_, rfl⟩
  rw [hhv]
  have HHV := Aside0.mk hhv
  clear hhv
  cases hv with
  | true =>
    go_wp2_with fail
    refine (known_calls _).mono ?_
    rintro e w2 ⟨rfl, hw2⟩
    have HA := Aside0.mk (below_go HA.out hw2)
    clear hw2
    go_wp2
    go_ret
    exact ⟨rfl, HA.out⟩
  | false =>
  go_wp2_with fail
  refine (known_calls _).mono ?_
  rintro e w2 ⟨rfl, hw2⟩
  have HX := Aside0.mk (HX.out.below hw2)
  have HA := Aside0.mk (below_go HA.out hw2)
  clear hw2
  obtain ⟨d0, d1, d2, d3⟩ := HX.out
  have HX2 := HX
  go_wp2_with fail
  refine (new_calls z zb b r HZ.out HZB.out HBB.out HR.out _).mono ?_
  rintro e w3 ⟨hcase, hw3⟩
  have HX := Aside0.mk (HX.out.below hw3)
  have HAW := Aside0.mk (show w.heap.size ≤ w2.heap.size from HA.out.size)
  have hgB : g < w2.heap.size := World.block_lt_of_cell? _ _ HX2.out.d0
  have HA := Aside0.mk (below_go HA.out hw3)
  clear hw3 d0 d1 d2 d3
  rcases hcase with ⟨hnrt, rfl⟩ | ⟨hrt, xb, v, rfl, hD, hxb⟩
  · have HNRT := Aside0.mk hnrt
    obtain ⟨d0, d1, d2, d3⟩ := HX.out
    clear hnrt
    go_wp2_with fail
    refine (rnew_calls z zb b r HZ.out HZB.out HBB.out HR.out _).mono ?_
    rintro e w4 ⟨⟨_, rfl⟩ | ⟨hrt, _⟩, hw4⟩
    · have HA := Aside0.mk (below_go HA.out hw4)
      clear hw4 d0 d1 d2 d3
      go_wp2
      go_ret
      exact ⟨rfl, HA.out⟩
    · exact absurd hrt HNRT.out
  obtain ⟨zn, zbn, bn, rfl, rfl, rfl, hz6, hz256, hzb2, hb1, hb2⟩ := small_rt hrt
  have HRT := Aside0.mk hrt
  have HD := Aside0.mk hD
  obtain ⟨d0, d1, d2, d3⟩ := HX.out
  clear hrt hD
  go_wp2_with fail
  refine (rnew_calls (zn : Int) (zbn : Int) (bn : Int) r HZ.out HZB.out HBB.out HR.out _).mono ?_
  rintro e w4 ⟨⟨hnrt, _⟩ | ⟨_, rb, vr, rfl, hRD, hrb⟩, hw4⟩
  · exact absurd HRT.out hnrt
  have hB23 : w2.heap.size ≤ w3.heap.size := by have := (Array.getElem?_eq_some_iff.1 HD.out.blk).1; omega
  obtain ⟨D0, R0, hT0⟩ := Two.new (w2 := w2) HD.out hxb hB23 hRD hrb hw4
  have HX := Aside0.mk (HX.out.below hw4)
  have HA := Aside0.mk (below_go HA.out hw4)
  generalize w2.heap.size = B at *
  have HBT : Aside0 (Both w4 w4 xb rb B zn zbn bn r v vr) := ⟨⟨_, D0, R0, hT0, fun p hp => by rw [List.eq_of_mem_replicate hp]; simp, List.length_replicate, Below.refl _ _⟩⟩
  have HFEW := Aside0.mk (ops_few HLN.out HHV.out)
  have hn60 := HFEW.out.1
  have HGB := Aside0.mk hgB
  clear hw4 hRD hT0 hgB d0 d1 d2 d3 hxb hrb hB23
  go_wp2
  go_loopg [8, 9, 10, 11, 12, 13] n (fun gk v8 v9 v10 v11 v12 v13 wr => ∃ i : Nat, v8 = .int .i64 (i : Int) ∧ i ≤ n ∧ Aside0 (gk + i = n) ∧ Aside0 (Both w4 wr xb rb B zn zbn bn r v vr))
  case atStart => exact ⟨0, rfl, by omega, ⟨rfl⟩, HBT⟩
  case round =>
    obtain ⟨i, rfl, hi, HK, HS⟩ := hrel
    rename World => wr
    obtain ⟨zs, D, R, hT, hinv, hlz, hbr⟩ := HS.out
    have HT := Aside0.mk hT
    have HINV := Aside0.mk hinv
    have HLZ := Aside0.mk hlz
    have HBR := Aside0.mk (show Below w.heap.size w wr from HA.out.trans (hbr.mono HAW.out))
    have HB4 := Aside0.mk hbr
    have HXR := Aside0.mk (HX.out.belowB hbr HGB.out)
    clear hT hinv hlz hbr
    by_cases hlt : i < n
    · obtain ⟨o, ho⟩ : ∃ o, l.getD i op0 = o := ⟨_, rfl⟩
      obtain ⟨ad, F, cf, L, cl, rfl, c0, c1, c2, c3, c4, hk, hzi, hni, hF, hFC, hLl, hLC⟩ := op_at HC.out i hlt ho
      have c0 := pw_cell_below HBR.out c0
      have c1 := pw_cell_below HBR.out c1
      have c2 := pw_cell_below HBR.out c2
      have c3 := pw_cell_below HBR.out c3
      have c4 := pw_cell_below HBR.out c4
      have hom : o ∈ l := by
        rw [← ho, List.getD_eq_getElem?_getD, List.getElem?_eq_getElem (show i < l.length by rw [HLN.out]; exact hlt)]
        exact List.getElem_mem _
      have HOL := Aside0.mk (HFEW.out.2 o hom)
      have HO := Aside0.mk ho
      have HKI := Aside0.mk hk
      have HZI := Aside0.mk hzi
      have HNI := Aside0.mk hni
      have HFC := Aside0.mk hFC
      have HLC := Aside0.mk hLC
      obtain ⟨d0, d1, d2, d3⟩ := HXR.out
      have hadb : ad.block < w.heap.size := by
        obtain ⟨ad', _, _, _, _, e, k0, _⟩ := op_at HC.out i hlt ho
        injection e with e
        subst e
        have := World.block_lt_of_cell? w _ k0
        rwa [add_block] at this
      have HAB := Aside0.mk hadb
      have hlt' : (i : Int) < (n : Int) := by omega
      have hd9 : decide ((i : Int) < (n : Int)) = true := decide_eq_true hlt'
      clear ho hk hzi hni hFC hLC hom hF hLl hadb
      go_wp2
      have HAD := Aside0.mk (show (ad.add (i * 5)).block < B by rw [add_block]; exact Nat.lt_of_lt_of_le HAB.out HAW.out)
      have hnine := (⟨d0, d1, d2, d3, c0, c1, c2, c3, c4⟩ : wr.cell? ⟨g, 0, none⟩ = some (.int .i64 (zn : Int)) ∧ wr.cell? ⟨g, 1, none⟩ = some (.int .i64 (zbn : Int)) ∧ wr.cell? ⟨g, 2, none⟩ = some (.int .i64 (bn : Int)) ∧ wr.cell? ⟨g, 3, none⟩ = some (.int .i64 r) ∧ wr.cell? (ad.add (i * 5)) = some (.int .u8 o.1) ∧ wr.cell? ⟨(ad.add (i * 5)).block, (ad.add (i * 5)).off + 1, none⟩ = some (.int .i64 o.2.1) ∧ wr.cell? ⟨(ad.add (i * 5)).block, (ad.add (i * 5)).off + 2, none⟩ = some (.int .i64 o.2.2.1) ∧ wr.cell? ⟨(ad.add (i * 5)).block, (ad.add (i * 5)).off + 3, none⟩ = some (.slice F o.2.2.2.1.length cf) ∧ wr.cell? ⟨(ad.add (i * 5)).block, (ad.add (i * 5)).off + 4, none⟩ = some (.slice L o.2.2.2.2.length cl))
      have HNINE := Aside0.mk hnine
      clear hnine
      go_region_held3 (fun w' => w'.cell? ⟨g, 0, none⟩ = some (.int .i64 (zn : Int)) ∧ w'.cell? ⟨g, 1, none⟩ = some (.int .i64 (zbn : Int)) ∧ w'.cell? ⟨g, 2, none⟩ = some (.int .i64 (bn : Int)) ∧ w'.cell? ⟨g, 3, none⟩ = some (.int .i64 r) ∧ w'.cell? (ad.add (i * 5)) = some (.int .u8 o.1) ∧ w'.cell? ⟨(ad.add (i * 5)).block, (ad.add (i * 5)).off + 1, none⟩ = some (.int .i64 o.2.1) ∧ w'.cell? ⟨(ad.add (i * 5)).block, (ad.add (i * 5)).off + 2, none⟩ = some (.int .i64 o.2.2.1) ∧ w'.cell? ⟨(ad.add (i * 5)).block, (ad.add (i * 5)).off + 3, none⟩ = some (.slice F o.2.2.2.1.length cf) ∧ w'.cell? ⟨(ad.add (i * 5)).block, (ad.add (i * 5)).off + 4, none⟩ = some (.slice L o.2.2.2.2.length cl))
        (first | exact HNINE.out | exact HN5.out)
        (first | (go_at_call 20; (with_reducible refine (does_calls w F cf L cl o HKI.out HZI.out HNI.out HFC.out HLC.out HOL.out.1 xb rb B zn zbn bn r HRT.out hz256 hzb2 hb1 hb2 v vr zs D R _ HAW.out (below_drew HBR.out) (HT.out.below (below_drew (Below.refl _ _))) HINV.out HLZ.out).mono ?_); rintro e w5 ⟨rfl, hBo5⟩; have HBo5 := Aside0.mk hBo5; have HB5 := Aside0.mk (((below_drew (Below.refl _ _) : Below wr.heap.size wr wr.drew).mono HT.out.base).trans hBo5.bel); have HN5 := Aside0.mk (nine_at HB5.out HGB.out HAD.out HNINE.out); clear hBo5))
      clear c0 c1 c2 c3 c4 d0 d1 d2 d3
      obtain ⟨-, -, -, -, -, b1, -, -, -⟩ := HN5.out
      obtain ⟨zs5, D5, R5, hT5, hinv5, hlz5, hbr5⟩ := HBo5.out
      have HT5 := Aside0.mk hT5
      have HINV5 := Aside0.mk hinv5
      have HLZ5 := Aside0.mk hlz5
      clear hT5 hinv5 hlz5 hbr5
      go_wp2_with fail
      refine (at_calls xb B D5 zn zbn bn r (by omega) (by omega) _ v o.2.1 HZI.out _ HT5.out.dev).mono ?_
      rintro e w6 ⟨hA6, hw6⟩
      obtain ⟨x, y, rfl⟩ := at_form hA6
      have HA6 := Aside0.mk hA6
      have HT6 := Aside0.mk (HT5.out.below hw6)
      have HB6 := Aside0.mk (HB5.out.trans (hw6.mono HT5.out.base))
      have b1 := pw_cell_below hw6 b1
      clear hA6 hw6
      go_wp2_with fail
      refine (rat_calls rb B R5 zn zbn bn r zs5 vr o.2.1 HZI.out _ HT6.out.ref).mono ?_
      rintro e w7 ⟨hA7, hw7⟩
      obtain rfl := (at_agree (by omega) HINV5.out HA6.out hA7).symm
      have HT7 := Aside0.mk (HT6.out.below hw7)
      have HB7 := Aside0.mk (HB6.out.trans (hw7.mono HT6.out.base))
      clear hA7 hw7 b1
      have HSM := Aside0.mk (inv_small hb2 hzb2 HINV5.out)
      go_wp2_with fail
      refine (zones_calls xb B D5 zn zbn r bn (by omega) hb2 _ v _ HT7.out.dev HSM.out.2.2.2.2 (by rw [List.length_map, HLZ5.out]; exact hz256)).mono ?_
      rintro e w8 ⟨v8, rfl, hN8, hw8⟩
      rw [partZ_flat (by omega) HINV5.out] at hN8
      obtain ⟨A8, n8, k8, rfl, -, hC8⟩ := N_open hN8
      have HC8 := Aside0.mk hC8
      have HT8 := Aside0.mk (HT7.out.below hw8)
      have HB8 := Aside0.mk (HB7.out.trans (hw8.mono HT7.out.base))
      clear hN8 hC8 hw8
      go_wp2_with fail
      refine (rzones_calls rb B R5 zn zbn bn r zs5 vr (by rw [HLZ5.out]; omega) HSM.out.2.2.2.1 _ HT8.out.ref).mono ?_
      rintro e w9 ⟨v9, rfl, hN9, hw9⟩
      obtain ⟨A9, n9, k9, rfl, -, hC9⟩ := N_open hN9
      have HC9 := Aside0.mk hC9
      have HC8 := Aside0.mk (Kd.C_below HC8.out hw9)
      have HT9 := Aside0.mk (HT8.out.below hw9)
      have HB9 := Aside0.mk (HB8.out.trans (hw9.mono HT8.out.base))
      clear hN9 hC9 hw9
      go_wp2_with fail
      refine (szones_calls A8 A9 n8 n9 k8 k9 zs5 zs5 _ HC8.out HC9.out).mono ?_
      rintro e wz ⟨rfl, m, rfl⟩
      rw [decide_eq_true rfl]
      have HTZ := Aside0.mk (HT9.out.below (pw_below_drewN (Below.refl _ _) m))
      have HBZ := Aside0.mk ((HB4.out.trans HB9.out).trans ((pw_below_drewN (Below.refl _ _) m).mono HT9.out.base))
      go_wp2
      go_roundg (gk - 1)
      case measure => have := HK.out; omega
      case rel => exact ⟨i + 1, by congr 1, by omega, ⟨by have := HK.out; omega⟩, ⟨zs5, D5, R5, HTZ.out, HINV5.out, HLZ5.out, HBZ.out⟩⟩
    · obtain rfl : i = n := by omega
      have hd9 : decide ((i : Int) < (i : Int)) = false := decide_eq_false (by omega)
      obtain ⟨d0, d1, d2, d3⟩ := HXR.out
      go_wp2
      go_region_held3 (fun w' => w'.cell? ⟨g, 0, none⟩ = some (.int .i64 (zn : Int)) ∧ w'.cell? ⟨g, 1, none⟩ = some (.int .i64 (zbn : Int)) ∧ w'.cell? ⟨g, 2, none⟩ = some (.int .i64 (bn : Int)) ∧ w'.cell? ⟨g, 3, none⟩ = some (.int .i64 r))
        (first | exact ⟨d0, d1, d2, d3⟩ | exact ⟨pw_cell_below hw5 d0, pw_cell_below hw5 d1, pw_cell_below hw5 d2, pw_cell_below hw5 d3⟩)
        (first | (go_at_call 27; (with_reducible refine (shape_calls xb B D zn zbn bn r _ v _ (HT.out.below (below_drew (Below.refl _ _))).dev).mono ?_); rintro e w5 ⟨rfl, hw5⟩))
      have HW5 := Aside0.mk (HBR.out.trans ((below_drew (Below.refl _ _) : Below wr.heap.size wr wr.drew).trans hw5 |>.mono HBR.out.size))
      go_wp2
      go_ret
      exact ⟨rfl, HW5.out⟩
end Go.Proofs.Ytmkjglnggkkpeaa.Dv
