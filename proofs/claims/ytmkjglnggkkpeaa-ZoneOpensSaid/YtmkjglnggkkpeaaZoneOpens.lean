/- ZoneOpens walks whole (under way). -/
import Derived.Test.YtmkjglnggkkpeaaOpenAll
import Derived.Test.YtmkjglnggkkpeaaZoneMarks
import Derived.StillTailTactics
namespace Go.Proofs.Ytmkjglnggkkpeaa.Dv
open Go.RowKit Go.Proofs.YtmkjglnggkkpeaaW.PrintWords Go.Proofs.YtmkjglnggkkpeaaW.PrintMore Go.Proofs.Ytmkjglnggkkpeaa.Base Go.Proofs.Ytmkjglnggkkpeaa.Shp
set_option linter.unusedVariables false
set_option linter.unusedSimpArgs false
set_option maxRecDepth 100000 in
set_option maxHeartbeats 4000000 in
theorem zopens_walk (w : World) (s : Int × Int × Int × Int) (hs : IsI s.1 ∧ IsI s.2.1 ∧ IsI s.2.2.1 ∧ IsI s.2.2.2) (A : Option Addr) (n c : Nat) (l : List Zn) (hnc : n ≤ c) (hC : zoneK.C w A n l) :
    Calls Try.prog 8 #[.agg #[.int .i64 s.1, .int .i64 s.2.1, .int .i64 s.2.2.1, .int .i64 s.2.2.2], .slice A n c] w fun e w' => e = .returned (.bool true) ∧ Below w.heap.size w w' := by
  obtain ⟨z, zb, b, r⟩ := s
  dsimp only at hs ⊢
  have HII := Aside0.mk hs
  have HA := Aside0.mk (alloc_below w (.cells #[.int .i64 z, .int .i64 zb, .int .i64 b, .int .i64 r] 23))
  have HX := Aside0.mk (Box.new w z zb b r)
  have HC := Aside0.mk hC
  obtain ⟨hln, hnm⟩ := C_len hC
  have HLN := Aside0.mk hln
  obtain ⟨d0, d1, d2, d3⟩ := HX.out
  clear hs hC hln
  go_enter Try.func8, Try.ntmps8
  go_wp2_with fail
  obtain ⟨W, hW⟩ : ∃ W, (w.alloc (.cells #[.int .i64 z, .int .i64 zb, .int .i64 b, .int .i64 r] 23)) = W := ⟨_, rfl⟩
  obtain ⟨g, hg⟩ : ∃ g, w.heap.size = g := ⟨_, rfl⟩
  rw [hW] at HX HA ⊢
  rw [hg] at HX ⊢
  have HG := Aside0.mk hg
  clear hW hg d0 d1 d2 d3
  refine (small_calls z zb b r HII.out.1 HII.out.2.1 HII.out.2.2.1 HII.out.2.2.2 _).mono ?_
  rintro e w1 ⟨rfl, hw1⟩
  have HX := Aside0.mk (HX.out.below hw1)
  have HA := Aside0.mk (below_go HA.out hw1)
  obtain ⟨sm, hsm⟩ : ∃ sm, (decide (z ≤ 12) && decide (zb ≤ 16) && decide (b ≤ 128)) = sm := ⟨_, rfl⟩
  rw [hsm]
  clear hw1 hsm
  cases sm with
  | false =>
    go_wp2_with fail
    refine (known_calls _).mono ?_
    rintro e w2 ⟨rfl, hw2⟩
    have HA := Aside0.mk (below_go HA.out hw2)
    clear hw2
    go_wp2
    go_ret
    exact ⟨rfl, HA.out⟩
  | true =>
  go_wp2_with fail
  refine (heavyz_calls A n c l 150 (by omega) _ (Kd.C_below HC.out HA.out)).mono ?_
  rintro e w2 ⟨hv, rfl, rfl⟩
  cases hv with
  | true =>
    go_wp2_with fail
    refine (known_calls _).mono ?_
    rintro e w2 ⟨rfl, hw2⟩
    have HA := Aside0.mk (below_go HA.out hw2)
    clear hw2
    go_wp2
    go_ret
    exact ⟨rfl, HA.out⟩
  | false =>
  go_wp2_with fail
  refine (known_calls _).mono ?_
  rintro e w2 ⟨rfl, hw2⟩
  have HX := Aside0.mk (HX.out.below hw2)
  have HA := Aside0.mk (below_go HA.out hw2)
  clear hw2
  obtain ⟨d0, d1, d2, d3⟩ := HX.out
  by_cases hno : ¬ Rt z zb b r ∨ (n : Int) ≠ z
  · go_wp2_with fail
    refine (ropen_nil z zb b r HII.out A n c hno _).mono ?_
    rintro e w3 ⟨rfl, hw3⟩
    have HA := Aside0.mk (below_go HA.out hw3)
    obtain ⟨e0, e1, e2, e3⟩ := HX.out.below hw3
    clear hw3 d0 d1 d2 d3
    go_wp2_with fail
    refine (open_nil z zb b r HII.out A n c hno _).mono ?_
    rintro e w4 ⟨rfl, hw4⟩
    have HA := Aside0.mk (below_go HA.out hw4)
    clear hw4 e0 e1 e2 e3 hno
    go_wp2
    go_ret
    exact ⟨rfl, HA.out⟩
  · have hrt : Rt z zb b r := by
      by_cases h : Rt z zb b r
      · exact h
      · exact absurd (.inl h) hno
    have hnz : (n : Int) = z := by
      by_cases h : (n : Int) = z
      · exact h
      · exact absurd (.inr h) hno
    obtain ⟨zn, zbn, bn, rfl, rfl, rfl, hz6, hz256, hzb2, hb1, hb2⟩ := small_rt hrt
    have HRT := Aside0.mk hrt
    have HNZ := Aside0.mk (show l.length = zn by rw [HLN.out]; omega)
    clear hno hrt hnz
    go_wp2_with fail
    refine (ropen_gen zn zbn bn r HRT.out HII.out hz256 hzb2 hb1 hb2 A n c l HNZ.out _ (Kd.C_below HC.out HA.out)).mono ?_
    rintro e w3 ⟨hr, hw3⟩
    obtain ⟨e0, e1, e2, e3⟩ := HX.out.below hw3
    have HA := Aside0.mk (below_go HA.out hw3)
    have HW3 := Aside0.mk hw3
    clear hw3 d0 d1 d2 d3
    rcases hr with ⟨hall, rb, vr, rfl, hRD, hrb⟩ | ⟨hnall, rfl⟩
    · have hinv : ZInv bn zbn l := fun p hp => by
        obtain ⟨h1, h2, h3, h4⟩ := hall p hp
        exact ⟨⟨h2, h3⟩, by omega, fun x hx => by have := h4 x hx; omega⟩
      have HINV := Aside0.mk hinv
      have HALL := Aside0.mk hall
      have HSM := Aside0.mk (inv_small hb2 hzb2 hinv)
      have HRD := Aside0.mk hRD
      clear hall hinv hRD
      go_wp2_with fail
      refine (open_gen zn zbn bn r HRT.out HII.out hzb2 hb1 hb2 A n c l HNZ.out _ (Kd.C_below HC.out HA.out)).mono ?_
      rintro e w4 ⟨⟨_, xo, vo, rfl, hDo, hxo⟩ | ⟨hna, _⟩, hw4⟩
      case inr => exact absurd HALL.out hna
      have HA4 := Aside0.mk (below_go HA.out hw4)
      have HR4 := Aside0.mk (HRD.out.below hw4)
      have HD4 := Aside0.mk hDo
      clear hDo hw4 e0 e1 e2 e3
      go_wp2_with fail
      have HD4 := Aside0.mk (HD4.out.tight (ok' := fun k => k < w4.heap.size) (fun k _ _ h => h))
      refine (T.zones_calls xo _ _ zn zbn r bn (by omega) hb2 _ vo _ HD4.out HSM.out.2.2.2.2 (by rw [List.length_map, HNZ.out]; exact hz256)).mono ?_
      rintro e w5 ⟨v5, rfl, hN5, hw5⟩
      rw [partZ_flat (by omega) HINV.out] at hN5
      have HN5 := Aside0.mk hN5
      obtain ⟨A5, n5, k5, rfl, -, hC5⟩ := N_open (T.N_plain hN5)
      have HR5 := Aside0.mk (HR4.out.below hw5)
      have HD5 := Aside0.mk (HD4.out.below hw5)
      have HA5 := Aside0.mk (below_go HA4.out hw5)
      have HC5 := Aside0.mk hC5
      clear hN5 hC5 hw5
      go_wp2_with fail
      refine (rzones_calls rb _ _ zn zbn bn r l vr (by rw [HNZ.out]; omega) HSM.out.2.2.2.1 _ HR5.out).mono ?_
      rintro e w6 ⟨v6, rfl, hN6, hw6⟩
      obtain ⟨A6, n6, k6, rfl, -, hC6⟩ := N_open hN6
      have HC6 := Aside0.mk hC6
      have HC5 := Aside0.mk (Kd.C_below HC5.out hw6)
      have HN6 := Aside0.mk (Kd.N_below HN5.out hw6)
      have HD6 := Aside0.mk (HD5.out.below hw6)
      have HA6 := Aside0.mk (below_go HA5.out hw6)
      clear hN6 hC6 hw6
      go_wp2_with fail
      refine (szones_calls A5 A6 n5 n6 k5 k6 l l _ HC5.out HC6.out).mono ?_
      rintro e w7 ⟨rfl, m7, rfl⟩
      rw [decide_eq_true rfl]
      have HC5 := Aside0.mk (Kd.C_below HC5.out (pw_below_drewN (Below.refl _ _) m7))
      have HN7 := Aside0.mk (Kd.N_below HN6.out (pw_below_drewN (Below.refl _ _) m7))
      have HD7 := Aside0.mk (HD6.out.below (pw_below_drewN (Below.refl _ _) m7))
      have HA7 := Aside0.mk (below_go HA6.out (pw_below_drewN (Below.refl _ _) m7))
      go_wp2_with fail
      refine (szones_calls A5 A n5 n k5 c l l _ HC5.out (Kd.C_below HC.out HA7.out)).mono ?_
      rintro e w8 ⟨rfl, m8, rfl⟩
      rw [decide_eq_true rfl]
      have HN8 := Aside0.mk (Kd.N_below HN7.out (pw_below_drewN (Below.refl _ _) m8))
      have HD8 := Aside0.mk (HD7.out.below (pw_below_drewN (Below.refl _ _) m8))
      have HA8 := Aside0.mk (below_go HA7.out (pw_below_drewN (Below.refl _ _) m8))
      have HXO := Aside0.mk (show xo < w4.heap.size from (Array.getElem?_eq_some_iff.1 HD4.out.blk).1)
      obtain ⟨lo, hlo⟩ : ∃ lo, w4.heap.size = lo := ⟨_, rfl⟩
      obtain ⟨up, hhi⟩ : ∃ up, w5.heap.size = up := ⟨_, rfl⟩
      rw [hlo] at HN8 HXO HD8
      rw [hhi] at HN8
      have HLO := Aside0.mk (show w.heap.size ≤ lo by rw [← hlo]; exact HA4.out.size)
      clear hlo hhi
      obtain ⟨W8, hW8⟩ : ∃ W8, ((w6.drewN m7).drewN m8) = W8 := ⟨_, rfl⟩
      rw [hW8] at HN8 HD8 HA8 ⊢
      clear hW8
      have HF8 := Aside0.mk (Kd.N_F HN8.out)
      have HN5L := Aside0.mk (Kd.N_reads' HN8.out).1
      have HPOS := Aside0.mk (show ∀ i k, i < n5 → k < (l.getD i ([], 0)).1.length → 0 < ((l.getD i ([], 0)).1.getD k []).length from fun i k hi hk => by
        have hil : i < l.length := by have := HN5L.out; omega
        have hp : l.getD i ([], 0) ∈ l := by rw [List.getD_eq_getElem?_getD, List.getElem?_eq_getElem hil]; exact List.getElem_mem _
        obtain ⟨h1, h2, h3, h4⟩ := HALL.out _ hp
        have hx : (l.getD i ([], 0)).1.getD k [] ∈ (l.getD i ([], 0)).1 := by
          generalize (l.getD i ([], 0)).1 = q at hk ⊢
          rw [List.getD_eq_getElem?_getD, List.getElem?_eq_getElem hk]; exact List.getElem_mem _
        have := h4 _ hx
        omega)
      have hn5 : n5 ≤ 256 := by have := HN5L.out; have := HNZ.out; omega
      go_wp2
      go_loopg [10, 11] n5 (fun g1 v10 v11 wr => ∃ i : Nat, v10 = .int .i64 (i : Int) ∧ i ≤ n5 ∧ Aside0 (g1 + i = n5) ∧ Aside0 (Flip W8 wr lo up))
      case atStart => exact ⟨0, rfl, by omega, ⟨rfl⟩, ⟨Flip.refl⟩⟩
      case round =>
        obtain ⟨i, rfl, hile, HK, HFL⟩ := hrel
        by_cases hlt : i < n5
        · have hd0 : decide ((i : Int) < (n5 : Int)) = true := decide_eq_true (by omega)
          have hd0' : decide (i < n5) = true := decide_eq_true hlt
          have hi0 : (0 : Int) ≤ (i : Int) := by omega
          have hi1 : (i : Int) < (n5 : Int) := by omega
          obtain ⟨ad, B, cb, rfl, hc0, hFB⟩ := T.at1 HF8.out i hlt
          have HPI := Aside0.mk (fun k => HPOS.out i k hlt)
          obtain ⟨bs, hbs⟩ : ∃ bs, (l.getD i ([], 0)).1 = bs := ⟨_, rfl⟩
          rw [hbs] at hc0 hFB HPI
          obtain ⟨nb, hnb⟩ : ∃ nb, bs.length = nb := ⟨_, rfl⟩
          rw [hnb] at hc0 hFB HPI
          have hnbm := Kd.F_max hFB
          have HC0 := Aside0.mk hc0
          have HFB := Aside0.mk hFB
          clear hbs hnb hc0 hFB
          go_wp2
          go_loopg [11] nb (fun g2 v11 w2 => ∃ k : Nat, v11 = .int .i64 (k : Int) ∧ k ≤ nb ∧ Aside0 (g2 + k = nb) ∧ Aside0 (Flip W8 w2 lo up))
          case atStart => exact ⟨0, rfl, by omega, ⟨rfl⟩, HFL⟩
          case round =>
            obtain ⟨k, rfl, hkle, HK2, HFL2⟩ := hrel
            have c1 := HFL2.out.slice HC0.out
            by_cases hk : k < nb
            · have hdk : decide ((k : Int) < (nb : Int)) = true := decide_eq_true (by omega)
              have hdk' : decide (k < nb) = true := decide_eq_true hk
              have hk0 : (0 : Int) ≤ (k : Int) := by omega
              have hk1 : (k : Int) < (nb : Int) := by omega
              obtain ⟨bd, D, dc, rfl, hc2, hokD, hfz, b, hcb⟩ := T.at2 HFB.out k hk (HPI.out k hk)
              rw [show D.add 0 = D from rfl] at hfz hcb
              have c2 := HFL2.out.slice hc2
              obtain ⟨b', c3⟩ := HFL2.out.byte hcb
              have z3 := (HFL2.out.fz D).trans hfz -- := (HFL2.out.fz _).trans hfz
              obtain ⟨b2, hb2⟩ : ∃ b2 : UInt8, bits .xor .u8 (b'.toNat : Int) 255 = (b2.toNat : Int) := ⟨b' ^^^ 255, by rw [show (255 : Int) = ((255 : Nat) : Int) from rfl, u8_xor_nat _ _ b'.toNat_lt (by omega)]; simp⟩
              have hL : (0 : Int) < ((bs.getD k []).length : Int) := by have := HPI.out k hk; omega
              obtain ⟨lk, hlk⟩ : ∃ lk, (bs.getD k []).length = lk := ⟨_, rfl⟩
              rw [hlk] at c2 hL
              have hL' : 0 < lk := by omega
              have hL2 : ¬ lk = 0 := by omega
              have HCB := Aside0.mk hcb
              have HOK := Aside0.mk hokD
              clear hlk hcb hc2 hfz hokD
              go_wp2
              go_still_tail 19, (by kernel_rfl)
              change wpList _ _ _ _ _ wr.drew
              have HFD := Aside0.mk HFL2.out.drew
              obtain ⟨W9, hW9⟩ : ∃ W9, wr.drew = W9 := ⟨_, rfl⟩
              rw [hW9] at HFD ⊢
              have c4 : W9.cell? D = some (.int .u8 (b'.toNat : Int)) := by rw [← hW9]; exact c3
              have z4 : W9.frozen? D = false := by rw [← hW9]; exact z3
              clear hW9 c3 z3 c1 c2
              go_wp2
              go_roundg (gk - 1)
              case measure => have := HK2.out; omega
              case rel => exact ⟨k + 1, by congr 1, by omega, ⟨by have := HK2.out; omega⟩, ⟨HFD.out.set HCB.out ⟨b, rfl⟩ HOK.out ⟨b2, rfl⟩⟩⟩
            · obtain rfl : k = nb := by omega
              have hdk : decide ((k : Int) < (k : Int)) = false := decide_eq_false (by omega)
              go_wp2
              go_roundg (n5 - i - 1)
              case measure => have := HK.out; omega
              case rel => exact ⟨i + 1, by congr 1, by omega, ⟨by omega⟩, HFL2⟩
        · obtain rfl : i = n5 := by omega
          have hd0 : decide ((i : Int) < (i : Int)) = false := decide_eq_false (by omega)
          go_wp2_with fail
          have HAr := Aside0.mk (Below.trans HA8.out (HFL.out.chg.to_below (B := w.heap.size) HA8.out.size (fun k hk => by have := HLO.out; have := hk.1; omega)))
          have HDr := Aside0.mk (HD8.out.chg HFL.out.chg (by have := HXO.out; omega) (fun k hk => by have h1 : k < lo := hk; omega))
          refine (zones_calls xo _ _ zn zbn r bn (by omega) hb2 _ vo _ HDr.out HSM.out.2.2.2.2 (by rw [List.length_map, HNZ.out]; exact hz256)).mono ?_
          rintro e w9 ⟨v9, rfl, hN9, hw9⟩
          rw [partZ_flat (by omega) HINV.out] at hN9
          obtain ⟨A9, n9, k9, rfl, -, hC9⟩ := N_open hN9
          have HC9 := Aside0.mk hC9
          have HA9 := Aside0.mk (below_go HAr.out hw9)
          clear hN9 hC9 hw9
          go_wp2_with fail
          refine (szones_calls A9 A n9 n k9 c l l _ HC9.out (Kd.C_below HC.out HA9.out)).mono ?_
          rintro e w10 ⟨rfl, m10, rfl⟩
          rw [decide_eq_true rfl]
          go_wp2
          go_ret
          exact ⟨rfl, below_go HA9.out (pw_below_drewN (Below.refl _ _) m10)⟩
    · have HNA := Aside0.mk hnall
      clear hnall
      go_wp2_with fail
      refine (open_gen zn zbn bn r HRT.out HII.out hzb2 hb1 hb2 A n c l HNZ.out _ (Kd.C_below HC.out HA.out)).mono ?_
      rintro e w4 ⟨⟨hall, _⟩ | ⟨_, rfl⟩, hw4⟩
      · exact absurd hall HNA.out
      · have HA := Aside0.mk (below_go HA.out hw4)
        clear hw4 e0 e1 e2 e3
        go_wp2
        go_ret
        exact ⟨rfl, HA.out⟩
theorem opn_zone : Opn Try.prog 55 zoneK :=
  Opn.struct Try.underlying55 (by kernel_rfl) (OpnFs.cons rfl (by kernel_rfl) (Opn.slice Try.underlying31 (by kernel_rfl) (Opn.slice Try.underlying32 (by kernel_rfl) (Opn.byte Try.underlying5)))
    (OpnFs.last rfl (by kernel_rfl) (Opn.num Try.underlying3)))
end Go.Proofs.Ytmkjglnggkkpeaa.Dv
