/- ZoneOwn walks whole. -/
import Derived.Test.YtmkjglnggkkpeaaZoneDoes
namespace Go.Proofs.Ytmkjglnggkkpeaa.Dv
open Go.RowKit Go.Proofs.YtmkjglnggkkpeaaW.PrintWords Go.Proofs.YtmkjglnggkkpeaaW.PrintMore Go.Proofs.Ytmkjglnggkkpeaa.Base Go.Proofs.Ytmkjglnggkkpeaa.Shp
set_option linter.unusedVariables false
set_option linter.unusedSimpArgs false
theorem at_val {b zb : Nat} {zs : List Zn} (hb : 0 < b) (h : ZInv b zb zs) {i : Nat} (hi : i < zs.length) {p : Zn} (hp : zs.getD i ([], 0) = p) {e : Ending} (h1 : AtR (b : Int) (zs.map flat) (i : Int) e) : e = .returned (.tuple #[.int .i64 (p.1.length : Int), .int .i64 p.2]) := by
  have hh : hasB zs.length (i : Int) = true := hasB_true (by omega) (by omega)
  rcases h1 with ⟨a1, a2⟩ | ⟨a1, a2⟩
  · rw [hasB_map, hh] at a1; cases a1
  · rw [Int.toNat_natCast, map_getD, flat_countI hb (h.get hi).2.2, hp] at a2
    exact a2
theorem read_val {b zb : Nat} {zs : List Zn} (hb : 0 < b) (h : ZInv b zb zs) {i q : Nat} (hi : i < zs.length) {p : Zn} (hp : zs.getD i ([], 0) = p) (hq : q < p.1.length) {er : Int} {bs : List UInt8} (h1 : ReadR (b : Int) (zs.map flat) (i : Int) (q : Int) er bs) : er = 0 ∧ bs.length = b := by
  have hh : hasB zs.length (i : Int) = true := hasB_true (by omega) (by omega)
  have hg := (h.get hi).2.2
  rw [hp] at hg
  rcases h1 with ⟨a1, a2, a3⟩ | ⟨a1, a2, a3, a4⟩ | ⟨a1, a2, a3, a4⟩
  · rw [hasB_map, hh] at a1; cases a1
  · rw [Int.toNat_natCast, map_getD, flat_countI hb (h.get hi).2.2, hp] at a2
    omega
  · refine ⟨a3, ?_⟩
    rw [a4]
    simp only [Int.toNat_natCast, map_getD]
    rw [hp, show ((q : Int) * (b : Int)).toNat = q * b from by rw [← Int.natCast_mul, Int.toNat_natCast]]
    have := flat_get (xs := p.1) hq hg
    rw [show (flat p).1 = p.1.flatten from rfl, this, List.getD_eq_getElem?_getD, List.getElem?_eq_getElem hq]
    exact hg _ (List.getElem_mem hq)
set_option maxRecDepth 100000 in
set_option maxHeartbeats 4000000 in
theorem zown_walk (w : World) (s : Int × Int × Int × Int) (hs : IsI s.1 ∧ IsI s.2.1 ∧ IsI s.2.2.1 ∧ IsI s.2.2.2) (A : Option Addr) (n c : Nat) (l : List OpT) (hnc : n ≤ c) (hC : opK.C w A n l) :
    Calls Try.prog 5 #[.agg #[.int .i64 s.1, .int .i64 s.2.1, .int .i64 s.2.2.1, .int .i64 s.2.2.2], .slice A n c] w fun e w' => e = .returned (.bool true) ∧ Below w.heap.size w w' := by
  obtain ⟨z, zb, b, r⟩ := s
  obtain ⟨hz, hzb, hb, hr⟩ := hs
  dsimp only at hz hzb hb hr ⊢
  have HZ := Aside0.mk hz
  have HZB := Aside0.mk hzb
  have HBB := Aside0.mk hb
  have HR := Aside0.mk hr
  have HA := Aside0.mk (alloc_below w (.cells #[.int .i64 z, .int .i64 zb, .int .i64 b, .int .i64 r] 23))
  have HX := Aside0.mk (Box.new w z zb b r)
  have HC := Aside0.mk hC
  obtain ⟨hln, hnm⟩ := C_len hC
  have HLN := Aside0.mk hln
  obtain ⟨d0, d1, d2, d3⟩ := HX.out
  clear hz hzb hb hr hC hln
  go_enter Try.func5, Try.ntmps5
  go_wp2_with fail
  obtain ⟨W, hW⟩ : ∃ W, (w.alloc (.cells #[.int .i64 z, .int .i64 zb, .int .i64 b, .int .i64 r] 23)) = W := ⟨_, rfl⟩
  obtain ⟨g, hg⟩ : ∃ g, w.heap.size = g := ⟨_, rfl⟩
  rw [hW] at HX HA ⊢
  rw [hg] at HX ⊢
  have HG := Aside0.mk hg
  clear hW hg d0 d1 d2 d3
  refine (small_calls z zb b r HZ.out HZB.out HBB.out HR.out _).mono ?_
  rintro e w1 ⟨rfl, hw1⟩
  have HX := Aside0.mk (HX.out.below hw1)
  have HA := Aside0.mk (below_go HA.out hw1)
  obtain ⟨sm, hsm⟩ : ∃ sm, (decide (z ≤ 12) && decide (zb ≤ 16) && decide (b ≤ 128)) = sm := ⟨_, rfl⟩
  rw [hsm]
  clear hw1 hsm
  cases sm with
  | false =>
    go_wp2_with fail
    refine (known_calls _).mono ?_
    rintro e w2 ⟨rfl, hw2⟩
    have HA := Aside0.mk (below_go HA.out hw2)
    clear hw2
    go_wp2
    go_ret
    exact ⟨rfl, HA.out⟩
  | true =>
  go_wp2_with fail
  refine (heavy_calls A n c l _ (Kd.C_below HC.out HA.out)).mono ?_
  rintro e w2 ⟨rfl, rfl⟩
  obtain ⟨hv, hhv⟩ : ∃ hv, heavyB l = hv := ⟨_, rfl⟩
  rw [hhv]
  have HHV := Aside0.mk hhv
  clear hhv
  cases hv with
  | true =>
    go_wp2_with fail
    refine (known_calls _).mono ?_
    rintro e w2 ⟨rfl, hw2⟩
    have HA := Aside0.mk (below_go HA.out hw2)
    clear hw2
    go_wp2
    go_ret
    exact ⟨rfl, HA.out⟩
  | false =>
  go_wp2_with fail
  refine (known_calls _).mono ?_
  rintro e w2 ⟨rfl, hw2⟩
  have HX := Aside0.mk (HX.out.below hw2)
  have HA := Aside0.mk (below_go HA.out hw2)
  clear hw2
  obtain ⟨d0, d1, d2, d3⟩ := HX.out
  have HX2 := HX
  go_wp2_with fail
  refine (new_calls z zb b r HZ.out HZB.out HBB.out HR.out _).mono ?_
  rintro e w3 ⟨hcase, hw3⟩
  have HX := Aside0.mk (HX.out.below hw3)
  have HAW := Aside0.mk (show w.heap.size ≤ w2.heap.size from HA.out.size)
  have hgB : g < w2.heap.size := World.block_lt_of_cell? _ _ HX2.out.d0
  have HA := Aside0.mk (below_go HA.out hw3)
  clear hw3 d0 d1 d2 d3
  rcases hcase with ⟨hnrt, rfl⟩ | ⟨hrt, xb, v, rfl, hD, hxb⟩
  · have HNRT := Aside0.mk hnrt
    obtain ⟨d0, d1, d2, d3⟩ := HX.out
    clear hnrt
    go_wp2_with fail
    refine (rnew_calls z zb b r HZ.out HZB.out HBB.out HR.out _).mono ?_
    rintro e w4 ⟨⟨_, rfl⟩ | ⟨hrt, _⟩, hw4⟩
    · have HA := Aside0.mk (below_go HA.out hw4)
      clear hw4 d0 d1 d2 d3
      go_wp2
      go_ret
      exact ⟨rfl, HA.out⟩
    · exact absurd hrt HNRT.out
  obtain ⟨zn, zbn, bn, rfl, rfl, rfl, hz6, hz256, hzb2, hb1, hb2⟩ := small_rt hrt
  have HRT := Aside0.mk hrt
  have HD := Aside0.mk hD
  obtain ⟨d0, d1, d2, d3⟩ := HX.out
  clear hrt hD
  go_wp2_with fail
  refine (rnew_calls (zn : Int) (zbn : Int) (bn : Int) r HZ.out HZB.out HBB.out HR.out _).mono ?_
  rintro e w4 ⟨⟨hnrt, _⟩ | ⟨_, rb, vr, rfl, hRD, hrb⟩, hw4⟩
  · exact absurd HRT.out hnrt
  have hB23 : w2.heap.size ≤ w3.heap.size := by have := (Array.getElem?_eq_some_iff.1 HD.out.blk).1; omega
  obtain ⟨D0, R0, hT0⟩ := Two.new (w2 := w2) HD.out hxb hB23 hRD hrb hw4
  have HX := Aside0.mk (HX.out.below hw4)
  have HA := Aside0.mk (below_go HA.out hw4)
  generalize w2.heap.size = B at *
  have HBT : Aside0 (Both w4 w4 xb rb B zn zbn bn r v vr) := ⟨⟨_, D0, R0, hT0, fun p hp => by rw [List.eq_of_mem_replicate hp]; simp, List.length_replicate, Below.refl _ _⟩⟩
  have HFEW := Aside0.mk (ops_few HLN.out HHV.out)
  have hn60 := HFEW.out.1
  have HGB := Aside0.mk hgB
  clear hw4 hRD hT0 hgB d0 d1 d2 d3 hxb hrb hB23
  go_wp2
  go_loopg [8] n (fun gk v8 wr => ∃ i : Nat, v8 = .int .i64 (i : Int) ∧ i ≤ n ∧ Aside0 (gk + i = n) ∧ Aside0 (Both w4 wr xb rb B zn zbn bn r v vr))
  case atStart => exact ⟨0, rfl, by omega, ⟨rfl⟩, HBT⟩
  case round =>
    obtain ⟨i, rfl, hi, HK, HS⟩ := hrel
    rename World => wr
    obtain ⟨zs, D, R, hT, hinv, hlz, hbr⟩ := HS.out
    have HT := Aside0.mk hT
    have HINV := Aside0.mk hinv
    have HLZ := Aside0.mk hlz
    have HBR := Aside0.mk (show Below w.heap.size w wr from HA.out.trans (hbr.mono HAW.out))
    have HB4 := Aside0.mk hbr
    have HXR := Aside0.mk (HX.out.belowB hbr HGB.out)
    clear hT hinv hlz hbr
    by_cases hlt : i < n
    · obtain ⟨o, ho⟩ : ∃ o, l.getD i op0 = o := ⟨_, rfl⟩
      obtain ⟨ad, F, cf, L, cl, rfl, c0, c1, c2, c3, c4, hk, hzi, hni, hF, hFC, hLl, hLC⟩ := op_at HC.out i hlt ho
      have c0 := pw_cell_below HBR.out c0
      have c1 := pw_cell_below HBR.out c1
      have c2 := pw_cell_below HBR.out c2
      have c3 := pw_cell_below HBR.out c3
      have c4 := pw_cell_below HBR.out c4
      have hom : o ∈ l := by
        rw [← ho, List.getD_eq_getElem?_getD, List.getElem?_eq_getElem (show i < l.length by rw [HLN.out]; exact hlt)]
        exact List.getElem_mem _
      have HOL := Aside0.mk (HFEW.out.2 o hom)
      have HO := Aside0.mk ho
      have HKI := Aside0.mk hk
      have HZI := Aside0.mk hzi
      have HNI := Aside0.mk hni
      have HFC := Aside0.mk hFC
      have HLC := Aside0.mk hLC
      obtain ⟨d0, d1, d2, d3⟩ := HXR.out
      have hadb : ad.block < w.heap.size := by
        obtain ⟨ad', _, _, _, _, e, k0, _⟩ := op_at HC.out i hlt ho
        injection e with e
        subst e
        have := World.block_lt_of_cell? w _ k0
        rwa [add_block] at this
      have HAB := Aside0.mk hadb
      have hlt' : (i : Int) < (n : Int) := by omega
      have hd9 : decide ((i : Int) < (n : Int)) = true := decide_eq_true hlt'
      clear ho hk hzi hni hFC hLC hom hF hLl hadb
      go_wp2
      have HAD := Aside0.mk (show (ad.add (i * 5)).block < B by rw [add_block]; exact Nat.lt_of_lt_of_le HAB.out HAW.out)
      have hnine := (⟨d0, d1, d2, d3, c0, c1, c2, c3, c4⟩ : wr.cell? ⟨g, 0, none⟩ = some (.int .i64 (zn : Int)) ∧ wr.cell? ⟨g, 1, none⟩ = some (.int .i64 (zbn : Int)) ∧ wr.cell? ⟨g, 2, none⟩ = some (.int .i64 (bn : Int)) ∧ wr.cell? ⟨g, 3, none⟩ = some (.int .i64 r) ∧ wr.cell? (ad.add (i * 5)) = some (.int .u8 o.1) ∧ wr.cell? ⟨(ad.add (i * 5)).block, (ad.add (i * 5)).off + 1, none⟩ = some (.int .i64 o.2.1) ∧ wr.cell? ⟨(ad.add (i * 5)).block, (ad.add (i * 5)).off + 2, none⟩ = some (.int .i64 o.2.2.1) ∧ wr.cell? ⟨(ad.add (i * 5)).block, (ad.add (i * 5)).off + 3, none⟩ = some (.slice F o.2.2.2.1.length cf) ∧ wr.cell? ⟨(ad.add (i * 5)).block, (ad.add (i * 5)).off + 4, none⟩ = some (.slice L o.2.2.2.2.length cl))
      have HNINE := Aside0.mk hnine
      clear hnine
      go_region_held3 (fun w' => w'.cell? ⟨g, 0, none⟩ = some (.int .i64 (zn : Int)) ∧ w'.cell? ⟨g, 1, none⟩ = some (.int .i64 (zbn : Int)) ∧ w'.cell? ⟨g, 2, none⟩ = some (.int .i64 (bn : Int)) ∧ w'.cell? ⟨g, 3, none⟩ = some (.int .i64 r) ∧ w'.cell? (ad.add (i * 5)) = some (.int .u8 o.1) ∧ w'.cell? ⟨(ad.add (i * 5)).block, (ad.add (i * 5)).off + 1, none⟩ = some (.int .i64 o.2.1) ∧ w'.cell? ⟨(ad.add (i * 5)).block, (ad.add (i * 5)).off + 2, none⟩ = some (.int .i64 o.2.2.1) ∧ w'.cell? ⟨(ad.add (i * 5)).block, (ad.add (i * 5)).off + 3, none⟩ = some (.slice F o.2.2.2.1.length cf) ∧ w'.cell? ⟨(ad.add (i * 5)).block, (ad.add (i * 5)).off + 4, none⟩ = some (.slice L o.2.2.2.2.length cl))
        (first | exact HNINE.out | exact HN5.out)
        (first | (go_at_call 20; (with_reducible refine (does_calls w F cf L cl o HKI.out HZI.out HNI.out HFC.out HLC.out HOL.out.1 xb rb B zn zbn bn r HRT.out hz256 hzb2 hb1 hb2 v vr zs D R _ HAW.out (below_drew HBR.out) (HT.out.below (below_drew (Below.refl _ _))) HINV.out HLZ.out).mono ?_); rintro e w5 ⟨rfl, hBo5⟩; have HBo5 := Aside0.mk hBo5; have HB5 := Aside0.mk (((below_drew (Below.refl _ _) : Below wr.heap.size wr wr.drew).mono HT.out.base).trans hBo5.bel); have HN5 := Aside0.mk (nine_at HB5.out HGB.out HAD.out HNINE.out); clear hBo5))
      clear c0 c1 c2 c3 c4 d0 d1 d2 d3
      obtain ⟨-, -, -, -, -, b1, -, -, -⟩ := HN5.out
      obtain ⟨zs5, D5, R5, hT5, hinv5, hlz5, hbr5⟩ := HBo5.out
      have HT5 := Aside0.mk hT5
      have HINV5 := Aside0.mk hinv5
      have HLZ5 := Aside0.mk hlz5
      clear hT5 hinv5 hlz5 hbr5
      have HB9 := Aside0.mk (HB4.out.trans HB5.out)
      clear b1
      go_wp2
      go_roundg (gk - 1)
      case measure => have := HK.out; omega
      case rel => exact ⟨i + 1, by congr 1, by omega, ⟨by have := HK.out; omega⟩, ⟨zs5, D5, R5, HT5.out, HINV5.out, HLZ5.out, HB9.out⟩⟩
    · obtain rfl : i = n := by omega
      have hd9 : decide ((i : Int) < (i : Int)) = false := decide_eq_false (by omega)
      obtain ⟨d0, d1, d2, d3⟩ := HXR.out
      have HX5 := HXR
      clear d0 d1 d2 d3
      go_wp2_with fail
      go_loopg [9, 10, 11, 12, 13, 14] zn (fun gk v9 v10 v11 v12 v13 v14 wp => ∃ z : Nat, v9 = .int .i64 (z : Int) ∧ z ≤ zn ∧ Aside0 (gk + z = zn) ∧ Aside0 (Two wp xb rb B zn zbn bn r (zs.map flat) zs v vr D R ∧ Below B wr wp))
      case atStart => exact ⟨0, rfl, by omega, ⟨rfl⟩, ⟨HT.out, Below.refl _ _⟩⟩
      case round =>
        obtain ⟨z, rfl, hz, HK2, HS2⟩ := hrel
        obtain ⟨g1, rfl⟩ : ∃ g1 : Nat, g1 = gk := ⟨_, rfl⟩
        rename World => wp
        obtain ⟨d0, d1, d2, d3⟩ := HX5.out.belowB HS2.out.2 HGB.out
        by_cases hzl : z < zn
        · obtain ⟨p, hp⟩ : ∃ p, zs.getD z ([], 0) = p := ⟨_, rfl⟩
          have hz' : (z : Int) < (zn : Int) := by omega
          have hd8 : decide ((z : Int) < (zn : Int)) = true := decide_eq_true hz'
          have HP := Aside0.mk hp
          have HZL := Aside0.mk (show z < zs.length by rw [HLZ.out]; exact hzl)
          have hpl : p.1.length ≤ 5000 := by
            rw [← hp]
            have := (HINV.out.get HZL.out).2.1
            omega
          clear hp
          go_wp2_with fail
          refine (at_calls xb B D zn zbn bn r (by omega) (by omega) _ v (z : Int) ⟨by omega, by omega⟩ _ HS2.out.1.dev).mono ?_
          rintro e w6 ⟨hA6, hw6⟩
          obtain rfl := at_val (by omega) HINV.out HZL.out HP.out hA6
          have HT6 := Aside0.mk (HS2.out.1.below hw6)
          have HB6 := Aside0.mk (HS2.out.2.trans (hw6.mono HS2.out.1.base))
          clear hA6 hw6 d0 d1 d2 d3
          go_wp2_with fail
          go_loopg [12, 13, 14] p.1.length (fun gk v12 v13 v14 wq => ∃ q : Nat, v12 = .int .i64 (q : Int) ∧ q ≤ p.1.length ∧ Aside0 (gk + q = p.1.length) ∧ Aside0 (Two wq xb rb B zn zbn bn r (zs.map flat) zs v vr D R ∧ Below B wr wq))
          case atStart => exact ⟨0, rfl, by omega, ⟨rfl⟩, ⟨HT6.out, HB6.out⟩⟩
          case round =>
            obtain ⟨q, rfl, hq, HK3, HS3⟩ := hrel
            rename World => wq
            by_cases hql : q < p.1.length
            · have hq' : (q : Int) < (p.1.length : Int) := by omega
              have hd7 : decide ((q : Int) < (p.1.length : Int)) = true := decide_eq_true hq'
              go_wp2_with fail
              refine (read_calls xb B D zn zbn bn r HRT.out _ v (z : Int) (q : Int) ⟨by omega, by omega⟩ ⟨by omega, by omega⟩ _ HS3.out.1.dev (inv_small hb2 hzb2 HINV.out).1).mono ?_
              rintro e w7 ⟨⟨u, er, bs, rfl, hR7, hO7⟩, hw7⟩
              obtain ⟨rfl, hbl⟩ := read_val (by omega) HINV.out HZL.out HP.out hql hR7
              obtain ⟨y0, hy0⟩ : ∃ y0, bs.getD 0 0 = y0 := ⟨_, rfl⟩
              obtain ⟨fc, hfc⟩ := flip_byte y0
              obtain ⟨go, n2, cap2, rfl, hnn, hg5, hcell, hfr, hst⟩ := hO7.store 0 (by omega) fc
              rw [hy0] at hcell
              have hn2 : 1 ≤ n2 ∧ n2 ≤ 5000 := by omega
              obtain ⟨hn21, hn22⟩ := hn2
              have HT7 := Aside0.mk (HS3.out.1.below hw7)
              have HGO := Aside0.mk (show wq.heap.size ≤ go from hg5)
              have HB7 := Aside0.mk (HS3.out.2.trans (hw7.mono HS3.out.1.base))
              clear hst hnn hy0 hg5 hbl hR7 hO7 hw7
              go_wp2
              go_roundg (gk - 1)
              case measure => have := HK3.out; omega
              case rel =>
                have hcs : Chg w7 (w7.setCell ⟨go, 0, none⟩ (.int .u8 (fc.toNat : Int))) (fun k => k = go) := (Chg.refl w7 (fun k => k = go)).set (p := ⟨go, 0, none⟩) (.inl rfl) _
                have hx := HS3.out.1.xlt
                have hgo := HGO.out
                exact ⟨q + 1, by congr 1, by omega, ⟨by have := HK3.out; omega⟩, ⟨HT7.out.chgS hcs (by omega) (by omega) (fun k hk e => by have := (HS3.out.1.dl k hk).2; omega) (fun k hk e => by have := (HS3.out.1.rl k hk).2; omega), HB7.out.trans (hcs.to_below HT7.out.base (fun k e => by have := HS3.out.1.base; omega))⟩⟩
            · obtain rfl : q = p.1.length := by omega
              have hd7 : decide ((p.1.length : Int) < (p.1.length : Int)) = false := decide_eq_false (by omega)
              go_wp2
              go_roundg (g1 - 1)
              case measure => have := HK2.out; omega
              case rel => exact ⟨z + 1, by congr 1, by omega, ⟨by have := HK2.out; omega⟩, ⟨HS3.out.1, HS3.out.2⟩⟩
        · obtain rfl : z = zn := by omega
          have hd8 : decide ((z : Int) < (z : Int)) = false := decide_eq_false (by omega)
          have HSM := Aside0.mk (inv_small hb2 hzb2 HINV.out)
          go_wp2_with fail
          refine (zones_calls xb B D z zbn r bn (by omega) hb2 _ v _ HS2.out.1.dev HSM.out.2.2.2.2 (by rw [List.length_map, HLZ.out]; exact hz256)).mono ?_
          rintro e w8 ⟨v8, rfl, hN8, hw8⟩
          rw [partZ_flat (by omega) HINV.out] at hN8
          obtain ⟨A8, n8, k8, rfl, -, hC8⟩ := N_open hN8
          have HC8 := Aside0.mk hC8
          have HT8 := Aside0.mk (HS2.out.1.below hw8)
          have HB8 := Aside0.mk (HS2.out.2.trans (hw8.mono HS2.out.1.base))
          clear hN8 hC8 hw8 d0 d1 d2 d3
          go_wp2_with fail
          refine (rzones_calls rb B R z zbn bn r zs vr (by rw [HLZ.out]; omega) HSM.out.2.2.2.1 _ HT8.out.ref).mono ?_
          rintro e w9 ⟨v9, rfl, hN9, hw9⟩
          obtain ⟨A9, n9, k9, rfl, -, hC9⟩ := N_open hN9
          have HC9 := Aside0.mk hC9
          have HC8 := Aside0.mk (Kd.C_below HC8.out hw9)
          have HB9 := Aside0.mk (HB8.out.trans (hw9.mono HT8.out.base))
          have HBS9 := Aside0.mk (show B ≤ w9.heap.size from Nat.le_trans HT8.out.base hw9.size)
          clear hN9 hC9 hw9
          go_wp2_with fail
          refine (szones_calls A8 A9 n8 n9 k8 k9 zs zs _ HC8.out HC9.out).mono ?_
          rintro e wz ⟨rfl, m, rfl⟩
          rw [decide_eq_true rfl]
          have HBZ := Aside0.mk (HBR.out.trans ((HB9.out.trans ((pw_below_drewN (Below.refl _ _) m).mono HBS9.out)).mono HAW.out))
          go_wp2
          go_ret
          exact ⟨rfl, HBZ.out⟩
end Go.Proofs.Ytmkjglnggkkpeaa.Dv
