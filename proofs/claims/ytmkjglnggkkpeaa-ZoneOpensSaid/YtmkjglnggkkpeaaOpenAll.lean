/- Merged by genmerge.py: OpenG RefOpen OpenNil HeavyZ. -/
import Derived.Test.YtmkjglnggkkpeaaOpen
/- zone.Open of any zones, as many as the shape says. -/
namespace Go.Proofs.Ytmkjglnggkkpeaa.Dv
open Go.RowKit Go.Proofs.YtmkjglnggkkpeaaW.PrintWords Go.Proofs.YtmkjglnggkkpeaaW.PrintMore Go.Proofs.Ytmkjglnggkkpeaa.Base Go.Proofs.Ytmkjglnggkkpeaa.Shp
set_option linter.unusedVariables false
set_option linter.unusedSimpArgs false
set_option maxRecDepth 100000 in
set_option maxHeartbeats 4000000 in
theorem open_gen (zn zbn bn : Nat) (r : Int) (hrt : Rt zn zbn bn r) (hI : IsI zn ∧ IsI zbn ∧ IsI bn ∧ IsI r) (hzb2 : zbn ≤ 4096) (hb1 : 64 ≤ bn) (hb2 : bn ≤ 4096) (A : Option Addr) (n c : Nat) (zs : List Zn) (hlz : zs.length = zn) (w : World) (hC : zoneK.C w A n zs) :
    Calls Try.prog 30 #[.agg #[.int .i64 (zn : Int), .int .i64 (zbn : Int), .int .i64 (bn : Int), .int .i64 r], .slice A n c] w
      fun e w' => (((∀ p ∈ zs, FitZ zbn bn p) ∧ ∃ xb v, e = .returned (.pointer (some ⟨xb, 0, none⟩)) ∧ Dev w' xb w.heap.size (fun k => w.heap.size ≤ k) zn zbn bn r (zs.map flat) v ∧ w.heap.size ≤ xb) ∨ ((¬ ∀ p ∈ zs, FitZ zbn bn p) ∧ e = .returned (.pointer none))) ∧ Below w.heap.size w w' := by
  obtain ⟨hl, hm⟩ := C_len hC
  obtain rfl : n = zn := by omega
  have HL := Aside0.mk hl
  have HC := Aside0.mk hC
  have HRT := Aside0.mk hrt
  have HII := Aside0.mk hI
  have HA := Aside0.mk (alloc_below w (.cells #[.int .i64 (n : Int), .int .i64 (zbn : Int), .int .i64 (bn : Int), .int .i64 r] 23))
  have HX := Aside0.mk (Box.new w n zbn bn r)
  obtain ⟨d0, d1, d2, d3⟩ := HX.out
  clear hl hlz hC hrt hI
  go_enter Try.func30, Try.ntmps30
  go_wp2_with fail
  obtain ⟨W, hW⟩ : ∃ W, (w.alloc (.cells #[.int .i64 (n : Int), .int .i64 (zbn : Int), .int .i64 (bn : Int), .int .i64 r] 23)) = W := ⟨_, rfl⟩
  obtain ⟨g, hg⟩ : ∃ g, w.heap.size = g := ⟨_, rfl⟩
  rw [hW] at HX HA ⊢
  rw [hg] at HX ⊢
  have HG := Aside0.mk hg
  clear hW hg d0 d1 d2 d3
  refine (new_calls (n : Int) (zbn : Int) (bn : Int) r HII.out.1 HII.out.2.1 HII.out.2.2.1 HII.out.2.2.2 _).mono ?_
  rintro e w1 ⟨⟨hn, _⟩ | ⟨_, xb, v, rfl, hD, hxb⟩, hw1⟩
  · exact absurd HRT.out hn
  obtain ⟨A1, m, cp, rfl, hm1, hmc, -, hmm⟩ := hD.form
  have hgB : g < W.heap.size := World.block_lt_of_cell? _ _ HX.out.d0
  have HD := Aside0.mk hD
  have HXB := Aside0.mk hxb
  have HB1 := Aside0.mk (below_go HA.out hw1)
  have HX1 := Aside0.mk (HX.out.below hw1)
  have HWB := Aside0.mk (show w.heap.size ≤ W.heap.size from HA.out.size)
  have HGB := Aside0.mk hgB
  obtain rfl : m = n := by rw [hm1, List.length_replicate]; omega
  obtain ⟨d0, d1, d2, d3⟩ := HX1.out
  clear hm1 hD hxb hw1 hgB
  go_wp2
  clear d0 d1 d2 d3
  go_loopg [6, 7, 21] m (fun gk v6 v7 v21 wr => ∃ i : Nat, v21 = .int .i64 (i : Int) ∧ i ≤ m ∧ Aside0 (gk + i = m) ∧ Aside0 (Dev wr xb W.heap.size (fun k => W.heap.size ≤ k) m zbn bn r (upto (putF zs) i (List.replicate m ([], 0))) (.slice A1 m cp) ∧ Below w.heap.size w wr ∧ Below W.heap.size w1 wr ∧ ∀ p ∈ zs.take i, FitZ zbn bn p))
  case atStart => exact ⟨0, rfl, by omega, ⟨rfl⟩, ⟨by rw [upto_zero]; exact HD.out, HB1.out, (Below.refl _ _), fun p hp => by simp at hp⟩⟩
  case round =>
    obtain ⟨i, rfl, hi, HK, HS⟩ := hrel
    rename World => wr
    obtain ⟨d0, d1, d2, d3⟩ := HX1.out.belowB HS.out.2.2.1 HGB.out
    by_cases hlt : i < m
    · obtain ⟨p, hp⟩ : ∃ p, zs.getD i ([], 0) = p := ⟨_, rfl⟩
      obtain ⟨pa, B0, k0, rfl, e0, e1, hk0, hB, hIp⟩ := zones_at (Kd.C_below HC.out HS.out.2.1) i hlt hp
      have hil : i < zs.length := by rw [HL.out]; exact hlt
      have HTK := Aside0.mk (take_one ([], 0) hil hp)
      have HPM := Aside0.mk (show p ∈ zs by rw [← hp, List.getD_eq_getElem?_getD, List.getElem?_eq_getElem hil]; exact List.getElem_mem _)
      clear hil
      have HP := Aside0.mk hp
      have HIP := Aside0.mk hIp
      have HBY := Aside0.mk hB
      have hlt' : (i : Int) < (m : Int) := by omega
      have hd9 : decide ((i : Int) < (m : Int)) = true := decide_eq_true hlt'
      have HAZ := Aside0.mk (alloc_below wr (.cells #[.slice B0 p.1.length k0, .int .i64 p.2] 55))
      have HZ0 := Aside0.mk (show (wr.alloc (.cells #[.slice B0 p.1.length k0, .int .i64 p.2] 55)).heap[wr.heap.size]? = some (.cells #[.slice B0 p.1.length k0, .int .i64 p.2] 55 (0, 0)) from blk_here rfl)
      clear hp hIp hB hk0
      have d0 := pw_cell_below HAZ.out d0
      have d1 := pw_cell_below HAZ.out d1
      have d2 := pw_cell_below HAZ.out d2
      have d3 := pw_cell_below HAZ.out d3
      go_wp2_with fail
      obtain ⟨V, hV⟩ : ∃ V, wr.alloc (.cells #[.slice B0 p.1.length k0, .int .i64 p.2] 55) = V := ⟨_, rfl⟩
      obtain ⟨gz, hgz⟩ : ∃ gz, wr.heap.size = gz := ⟨_, rfl⟩
      rw [hV] at HAZ HZ0 d0 d1 d2 d3 ⊢
      rw [hgz] at HZ0 ⊢
      clear hV hgz
      refine (fits_calls (m : Int) (zbn : Int) (bn : Int) r B0 k0 p _ (Kd.C_below HBY.out HAZ.out)).mono ?_
      rintro e w3 ⟨rfl, hw3⟩
      by_cases hfit : FitZ (zbn : Int) (bn : Int) p
      case neg =>
        rw [decide_eq_false hfit]
        have HNF := Aside0.mk hfit
        have HB3 := Aside0.mk (HS.out.2.1.trans ((below_go HAZ.out hw3).mono HS.out.2.1.size))
        clear hfit hw3 d0 d1 d2 d3
        go_wp2
        go_ret
        exact ⟨.inr ⟨fun h => HNF.out (h p HPM.out), rfl⟩, HB3.out⟩
      rw [decide_eq_true hfit]
      have HFIT := Aside0.mk hfit
      have hfl : p.1.flatten.length ≤ 100000000 := by
        rw [flat_len (b := bn) (fun x hx => by have := hfit.2.2.2 x hx; omega)]
        have : p.1.length * bn ≤ 4096 * 4096 := Nat.mul_le_mul (by have := hfit.1; omega) hb2
        omega
      clear hfit
      have hbz : Below wr.heap.size wr w3 := below_go HAZ.out hw3
      have hz3 : w3.heap[gz]? = some (.cells #[.slice B0 p.1.length k0, .int .i64 p.2] 55 (0, 0)) := (hw3.block gz (Array.getElem?_eq_some_iff.1 HZ0.out).1).trans HZ0.out
      obtain ⟨z0, z1⟩ : w3.cell? ⟨gz, 0, none⟩ = some (.slice B0 p.1.length k0) ∧ w3.cell? ⟨gz, 1, none⟩ = some (.int .i64 p.2) := ⟨by simp [World.cell?, hz3], by simp [World.cell?, hz3]⟩
      have HD3 := Aside0.mk (HS.out.1.below hbz)
      have HB3 := Aside0.mk hbz
      have HBY3 := Aside0.mk (Kd.C_below HBY.out hbz)
      obtain ⟨-, -, -, -, k4⟩ := HD3.out.cells
      obtain ⟨q, hq⟩ : ∃ q, (upto (putF zs) i (List.replicate m ([], 0))).getD i ([], 0) = q := ⟨_, rfl⟩
      obtain ⟨ad, cp', BB, kk, oki, hv, c0, c1, hkk, hI, hBB, f0, f1, hoa, hax, hal, -, -, -, -⟩ := HD3.out.part (j := i) (by rw [upto_len, List.length_replicate]; exact hlt) hq
      obtain ⟨rfl, rfl⟩ : A1 = some ad ∧ cp = cp' := by simp only [Value.slice.injEq] at hv; exact ⟨hv.1, hv.2.2⟩
      have hab : (ad.add (i * 2)).block = ad.block := add_block _ _
      have HAB := Aside0.mk hab
      have HAL := Aside0.mk hal
      have HOA := Aside0.mk hoa
      have hn1 : ad.add (i * 2) ≠ ⟨(ad.add (i * 2)).block, (ad.add (i * 2)).off + 1, none⟩ := fun e => by have := congrArg Addr.off e; simp at this
      have hn2 := hn1.symm
      clear hbz hz3 hq hv hI hBB hab hoa hax hal hkk hw3 d0 d1 d2 d3 e0 e1
      go_wp2
      go_region_with (go_at_call 48; go_loud (refine (concat_calls B0 p.1.length k0 p.1 hfl _ (Kd.C_below HBY3.out (below_drew (Below.refl _ _)))).mono ?_; rintro e w8 ⟨v8, rfl, hO8, hw8⟩; obtain ⟨A8, n8, c8, rfl, -, -⟩ := Go.Proofs.Ytmkjglnggkkpeaa.Base.Own.reads hO8); go_loud (have k4 := pw_cell_below (w := w3.drew) hw8 k4; have z0 := pw_cell_below (w := w3.drew) hw8 z0; have z1 := pw_cell_below (w := w3.drew) hw8 z1; have c0 := pw_cell_below (w := w3.drew) hw8 c0; have c1 := pw_cell_below (w := w3.drew) hw8 c1; have f0 := pw_frozen_below (w := w3.drew) (p := ad.add (i * 2)) hw8 (by show (ad.add (i * 2)).block < _; rw [HAB.out]; exact HAL.out) f0; have f1 := pw_frozen_below (w := w3.drew) (p := ⟨(ad.add (i * 2)).block, (ad.add (i * 2)).off + 1, none⟩) hw8 (by show (ad.add (i * 2)).block < _; rw [HAB.out]; exact HAL.out) f1))
      all_goals
        have HO8 := Aside0.mk hO8
        have HW8 := Aside0.mk hw8
        clear k4 z0 z1 c0 c1 f0 f1 hO8 hw8 hn1 hn2
        go_wp2
        go_roundg (gk - 1)
        case measure => have := HK.out; omega
        case rel =>
          have hsz := HB3.out.size
          have hws := HWB.out
          have hwr := HS.out.2.2.1.size
          have hww : W.heap.size ≤ w1.heap.size := by have := (Array.getElem?_eq_some_iff.1 HD.out.blk).1; have := HXB.out; omega
          have hb8 : Below W.heap.size w1 w8 := HS.out.2.2.1.trans ((below_go HB3.out (Below.trans (below_drew (Below.refl _ _)) HW8.out)).mono (by omega))
          have hc8 : Below w.heap.size w w8 := HS.out.2.1.trans ((below_go HB3.out (Below.trans (below_drew (Below.refl _ _)) HW8.out)).mono (by omega))
          have hob : W.heap.size ≤ (ad.add (i * 2)).block := by rw [HAB.out]; exact HOA.out
          refine ⟨i + 1, by congr 1, by omega, ⟨by have := HK.out; omega⟩, ⟨?_, Below.setCell (Below.setCell hc8 (p := ad.add (i * 2)) (by omega) _) (p := ⟨(ad.add (i * 2)).block, (ad.add (i * 2)).off + 1, none⟩) (by show _ ≤ (ad.add (i * 2)).block; omega) _, Below.setCell (Below.setCell hb8 (p := ad.add (i * 2)) hob _) (p := ⟨(ad.add (i * 2)).block, (ad.add (i * 2)).off + 1, none⟩) hob _, fun y hy => by
            rw [HTK.out] at hy
            rcases List.mem_append.1 hy with hy | hy
            · exact HS.out.2.2.2 y hy
            · rw [List.mem_singleton.1 hy]; exact HFIT.out⟩⟩
          have h9 := (HD3.out.below (below_drew (Below.refl _ _))).put (j := i) (by rw [upto_len, List.length_replicate]; exact hlt) HW8.out HO8.out (fun k hk => by have h5 : w3.drew.heap.size = w3.heap.size := rfl; omega) (d := p.2) HIP.out
          rw [show ((p.1.flatten, p.2) : Prt) = putF zs i ((List.replicate m (([], 0) : Prt)).getD i ([], 0)) by unfold putF; rw [HP.out]; rfl, upto_set _ (by rw [List.length_replicate]; exact hlt)] at h9
          exact h9
    · obtain rfl : i = m := by omega
      have hd9 : decide ((i : Int) < (i : Int)) = false := decide_eq_false (by omega)
      go_wp2
      go_ret
      have h9 := HS.out.1
      rw [show upto (putF zs) i (List.replicate i ([], 0)) = (List.replicate i ([], 0)).mapIdx (putF zs) from by have := upto_all (putF zs) (List.replicate i ([], 0)); rwa [List.length_replicate] at this, put_all HL.out] at h9
      have h8 := HS.out.2.2.2
      rw [List.take_of_length_le (by rw [HL.out]; omega)] at h8
      exact ⟨.inl ⟨h8, xb, _, rfl, ⟨h9.blk, Kd.S_lower (Kd.S_mono h9.row (fun k hk => Nat.le_trans HWB.out hk)) HWB.out⟩, Nat.le_trans HWB.out HXB.out⟩, HS.out.2.1⟩
end Go.Proofs.Ytmkjglnggkkpeaa.Dv

/- The document's Open of any zones, as many as the shape says. -/
namespace Go.Proofs.Ytmkjglnggkkpeaa.Dv
open Go.RowKit Go.Proofs.YtmkjglnggkkpeaaW.PrintWords Go.Proofs.YtmkjglnggkkpeaaW.PrintMore Go.Proofs.Ytmkjglnggkkpeaa.Base Go.Proofs.Ytmkjglnggkkpeaa.Shp
set_option linter.unusedVariables false
set_option linter.unusedSimpArgs false
set_option maxRecDepth 100000 in
set_option maxHeartbeats 4000000 in
theorem ropen_gen (zn zbn bn : Nat) (r : Int) (hrt : Rt zn zbn bn r) (hI : IsI zn ∧ IsI zbn ∧ IsI bn ∧ IsI r) (hz2 : zn ≤ 256) (hzb2 : zbn ≤ 4096) (hb1 : 64 ≤ bn) (hb2 : bn ≤ 4096) (A : Option Addr) (n c : Nat) (zs : List Zn) (hlz : zs.length = zn) (w : World) (hC : zoneK.C w A n zs) :
    Calls Try.prog 32 #[.agg #[.int .i64 (zn : Int), .int .i64 (zbn : Int), .int .i64 (bn : Int), .int .i64 r], .slice A n c] w
      fun e w' => (((∀ p ∈ zs, FitZ zbn bn p) ∧ ∃ rb v, e = .returned (.pointer (some ⟨rb, 0, none⟩)) ∧ RDv w' rb w.heap.size (fun k => w.heap.size ≤ k) zn zbn bn r zs v ∧ w.heap.size ≤ rb) ∨ ((¬ ∀ p ∈ zs, FitZ zbn bn p) ∧ e = .returned (.pointer none))) ∧ Below w.heap.size w w' := by
  obtain ⟨hl, hm⟩ := C_len hC
  obtain rfl : n = zn := by omega
  have HL := Aside0.mk hl
  have HC := Aside0.mk hC
  have HRT := Aside0.mk hrt
  have HII := Aside0.mk hI
  have HA := Aside0.mk (alloc_below w (.cells #[.int .i64 (n : Int), .int .i64 (zbn : Int), .int .i64 (bn : Int), .int .i64 r] 23))
  have HX := Aside0.mk (Box.new w n zbn bn r)
  obtain ⟨d0, d1, d2, d3⟩ := HX.out
  clear hl hlz hC hrt hI
  go_enter Try.func32, Try.ntmps32
  go_wp2_with fail
  obtain ⟨W, hW⟩ : ∃ W, (w.alloc (.cells #[.int .i64 (n : Int), .int .i64 (zbn : Int), .int .i64 (bn : Int), .int .i64 r] 23)) = W := ⟨_, rfl⟩
  obtain ⟨g, hg⟩ : ∃ g, w.heap.size = g := ⟨_, rfl⟩
  rw [hW] at HX HA ⊢
  rw [hg] at HX ⊢
  have HG := Aside0.mk hg
  clear hW hg d0 d1 d2 d3
  refine (ref_right_calls (n : Int) (zbn : Int) (bn : Int) r HII.out.1 HII.out.2.1 HII.out.2.2.1 HII.out.2.2.2 _).mono ?_
  rintro e w1 ⟨rfl, hw1⟩
  rw [decide_eq_true HRT.out]
  have HX1 := Aside0.mk (HX.out.below hw1)
  have HB1 := Aside0.mk (below_go HA.out hw1)
  have hgB : g < w1.heap.size := World.block_lt_of_cell? _ _ HX1.out.d0
  have HGB := Aside0.mk hgB
  obtain ⟨d0, d1, d2, d3⟩ := HX1.out
  clear hw1 hgB
  go_wp2
  clear d0 d1 d2 d3
  go_loopg [6, 7, 8] n (fun gk v6 v7 v8 wr => ∃ i : Nat, v6 = .int .i64 (i : Int) ∧ i ≤ n ∧ Aside0 (gk + i = n) ∧ Aside0 (Below w1.heap.size w1 wr ∧ ∀ p ∈ zs.take i, FitZ zbn bn p))
  case atStart => exact ⟨0, rfl, by omega, ⟨rfl⟩, ⟨Below.refl _ _, fun p hp => by simp at hp⟩⟩
  case round =>
    obtain ⟨i, rfl, hi, HK, HS⟩ := hrel
    obtain ⟨g1, rfl⟩ : ∃ g1 : Nat, g1 = gk := ⟨_, rfl⟩
    rename World => wr
    obtain ⟨d0, d1, d2, d3⟩ := HX1.out.below HS.out.1
    have HBR := Aside0.mk (HB1.out.trans (HS.out.1.mono HB1.out.size))
    by_cases hlt : i < n
    · obtain ⟨p, hp⟩ : ∃ p, zs.getD i ([], 0) = p := ⟨_, rfl⟩
      obtain ⟨pa, B0, k0, rfl, e0, e1, hk0, hB, hIp⟩ := zones_at (Kd.C_below HC.out HBR.out) i hlt hp
      have hpm := (C_len hB).2
      have hil : i < zs.length := by rw [HL.out]; exact hlt
      have HTK := Aside0.mk (take_one ([], 0) hil hp)
      have HPM := Aside0.mk (show p ∈ zs by rw [← hp, List.getD_eq_getElem?_getD, List.getElem?_eq_getElem hil]; exact List.getElem_mem _)
      have HBY := Aside0.mk hB
      have hlt' : (i : Int) < (n : Int) := by omega
      have hd9 : decide ((i : Int) < (n : Int)) = true := decide_eq_true hlt'
      clear hil hp hIp hB hk0
      by_cases h1 : zbn < p.1.length
      · have hd1 : decide (zbn < p.1.length) = true := decide_eq_true h1
        have H1 := Aside0.mk h1
        clear h1
        go_wp2
        go_ret
        exact ⟨.inr ⟨fun h => by have h2 := (h p HPM.out).1; have := H1.out; omega, rfl⟩, HBR.out⟩
      have hd1 : decide (zbn < p.1.length) = false := decide_eq_false h1
      by_cases h2 : p.2 < 0
      · have hd2 : decide (p.2 < 0) = true := decide_eq_true h2
        have H2 := Aside0.mk h2
        clear h2 h1
        go_wp2
        go_ret
        exact ⟨.inr ⟨fun h => by have h2 := (h p HPM.out).2.1; have := H2.out; omega, rfl⟩, HBR.out⟩
      have hd2 : decide (p.2 < 0) = false := decide_eq_false h2
      by_cases h3 : ((p.1.length : Nat) : Int) < p.2
      · have hd3 : decide (((p.1.length : Nat) : Int) < p.2) = true := decide_eq_true h3
        have H3 := Aside0.mk h3
        clear h3 h2 h1
        go_wp2
        go_ret
        exact ⟨.inr ⟨fun h => by have h2 := (h p HPM.out).2.2.1; have := H3.out; omega, rfl⟩, HBR.out⟩
      have hd3 : decide (((p.1.length : Nat) : Int) < p.2) = false := decide_eq_false h3
      have HH := Aside0.mk (And.intro h1 (And.intro h2 h3))
      clear h1 h2 h3
      go_wp2
      clear hd1 hd2 hd3 e0 e1 d0 d1 d2 d3
      go_loopg [8] p.1.length (fun gk v8 wq => ∃ q : Nat, v8 = .int .i64 (q : Int) ∧ q ≤ p.1.length ∧ Aside0 (gk + q = p.1.length) ∧ Aside0 (Below w1.heap.size w1 wq ∧ ∀ x ∈ p.1.take q, (x.length : Int) = (bn : Int)))
      case atStart => exact ⟨0, rfl, by omega, ⟨rfl⟩, ⟨HS.out.1, fun x hx => by simp at hx⟩⟩
      case round =>
        obtain ⟨q, rfl, hq, HK2, HS2⟩ := hrel
        rename World => wq
        obtain ⟨d0, d1, d2, d3⟩ := HX1.out.below HS2.out.1
        have HBQ := Aside0.mk (HB1.out.trans (HS2.out.1.mono HB1.out.size))
        by_cases hql : q < p.1.length
        · obtain ⟨pp, hpp⟩ : ∃ pp, zs.getD i ([], 0) = pp := ⟨_, rfl⟩
          have hp9 : zs.getD i ([], 0) = p := by
            have h9 := HTK.out
            have hil : i < zs.length := by rw [HL.out]; exact hlt
            rw [take_one ([], 0) hil rfl] at h9
            have := List.append_cancel_left h9
            simpa using this
          obtain ⟨pa', C0, k1, hpa, e0, e1, hk1, hB, -⟩ := zones_at (Kd.C_below HC.out HBQ.out) i hlt hp9
          obtain rfl : pa = pa' := by injection hpa
          obtain ⟨pb, D0, k2, rfl, f0, hk2, hD⟩ := bytes_at hB q hql
          obtain ⟨x, hx⟩ : ∃ x, p.1.getD q [] = x := ⟨_, rfl⟩
          rw [hx] at f0 hk2 hD
          have HTX := Aside0.mk (take_one [] hql hx)
          have HXM := Aside0.mk (show x ∈ p.1 by rw [← hx, List.getD_eq_getElem?_getD, List.getElem?_eq_getElem hql]; exact List.getElem_mem _)
          have hq' : (q : Int) < (p.1.length : Int) := by omega
          have hd3 : decide ((q : Int) < (p.1.length : Int)) = true := decide_eq_true hq'
          clear hpp hp9 hpa hk1 hB hk2 hD hx
          by_cases hxb : (x.length : Int) = (bn : Int)
          · have hnb : ((x.length : Int) != (bn : Int)) = false := by rw [bne_eq_false_iff_eq]; exact hxb
            have hnb2 : (x.length != bn) = false := by rw [bne_eq_false_iff_eq]; omega
            have HXB := Aside0.mk hxb
            clear hxb
            go_wp2
            go_quiet (fail)
            go_wp2
            go_roundg (gk - 1)
            case measure => have := HK2.out; omega
            case rel => exact ⟨q + 1, by congr 1, by omega, ⟨by have := HK2.out; omega⟩, ⟨pw_below_drewN HS2.out.1 nq, fun y hy => by
              rw [HTX.out] at hy
              rcases List.mem_append.1 hy with hy | hy
              · exact HS2.out.2 y hy
              · rw [List.mem_singleton.1 hy]; exact HXB.out⟩⟩
          · have hnb : ((x.length : Int) != (bn : Int)) = true := by rw [bne_iff_ne]; exact hxb
            have hnb2 : (x.length != bn) = true := by rw [bne_iff_ne]; omega
            have HXB := Aside0.mk hxb
            clear hxb
            go_wp2
            go_quiet (fail)
            go_wp2
            go_ret
            exact ⟨.inr ⟨fun h => HXB.out ((h p HPM.out).2.2.2 x HXM.out), rfl⟩, pw_below_drewN HBQ.out nq⟩
        · obtain rfl : q = p.1.length := by omega
          have hd3 : decide ((p.1.length : Int) < (p.1.length : Int)) = false := decide_eq_false (by omega)
          go_wp2
          go_roundg (g1 - 1)
          case measure => have := HK.out; omega
          case rel => exact ⟨i + 1, by congr 1, by omega, ⟨by have := HK.out; omega⟩, ⟨HS2.out.1, fun y hy => by
            rw [HTK.out] at hy
            rcases List.mem_append.1 hy with hy | hy
            · exact HS.out.2 y hy
            · rw [List.mem_singleton.1 hy]
              have h5 := HS2.out.2
              rw [List.take_length] at h5
              have h6 := HH.out
              exact ⟨by omega, by omega, by omega, h5⟩⟩⟩
    · obtain rfl : i = n := by omega
      have hd9 : decide ((i : Int) < (i : Int)) = false := decide_eq_false (by omega)
      have hall := HS.out.2
      rw [List.take_of_length_le (by rw [HL.out]; omega)] at hall
      have hxs : ∀ p ∈ zs, p.1.length ≤ 5000 ∧ ∀ x ∈ p.1, x.length ≤ 100000000 := fun p hp => ⟨by have := (hall p hp).1; omega, fun x hx => by have := (hall p hp).2.2.2 x hx; omega⟩
      have HALL := Aside0.mk hall
      have HXS := Aside0.mk hxs
      clear hall hxs
      go_wp2
      go_region_held3 (fun w' => w'.cell? ⟨g, 0, none⟩ = some (.int .i64 (i : Int)) ∧ w'.cell? ⟨g, 1, none⟩ = some (.int .i64 (zbn : Int)) ∧ w'.cell? ⟨g, 2, none⟩ = some (.int .i64 (bn : Int)) ∧ w'.cell? ⟨g, 3, none⟩ = some (.int .i64 r))
        (first | exact ⟨d0, d1, d2, d3⟩ | exact ⟨pw_cell_below hw8 d0, pw_cell_below hw8 d1, pw_cell_below hw8 d2, pw_cell_below hw8 d3⟩ | exact ⟨pw_cell_below (alloc_below _ _) (pw_cell_below hw8 d0), pw_cell_below (alloc_below _ _) (pw_cell_below hw8 d1), pw_cell_below (alloc_below _ _) (pw_cell_below hw8 d2), pw_cell_below (alloc_below _ _) (pw_cell_below hw8 d3)⟩)
        (first | (go_at_call 46; (with_reducible refine (lentz_calls A i c zs (by omega) HXS.out _ (Kd.C_below HC.out (below_drew HBR.out))).mono ?_); rintro e w8 ⟨v8, rfl, hN8, hw8⟩; obtain ⟨A8, n8, k8, rfl, -, -⟩ := N_open hN8; have HN8 := Aside0.mk hN8; clear hN8))
      have HW8 := Aside0.mk (show Below wr.heap.size wr w8 from Below.trans (below_drew (Below.refl _ _)) hw8)
      clear d0 d1 d2 d3 hw8
      go_wp2
      go_ret
      have hs1 := HBR.out.size
      have hs8 := HW8.out.size
      have hdr : wr.drew.heap.size = wr.heap.size := rfl
      refine ⟨.inl ⟨HALL.out, w8.heap.size, .slice A8 n8 k8, rfl, ⟨blk_here rfl, ?_⟩, by omega⟩, HBR.out.trans ((HW8.out.mono hs1).trans ((alloc_below w8 _).mono (by omega)))⟩
      exact Kd.N_lower (Kd.N_mono (Kd.N_below HN8.out (alloc_below w8 _)) (fun k hk => by have := hk.1; omega)) (by omega)
end Go.Proofs.Ytmkjglnggkkpeaa.Dv

/- Both Opens where the shape may not be, or the number of zones is another one: nil. -/
namespace Go.Proofs.Ytmkjglnggkkpeaa.Dv
open Go.RowKit Go.Proofs.YtmkjglnggkkpeaaW.PrintWords Go.Proofs.YtmkjglnggkkpeaaW.PrintMore Go.Proofs.Ytmkjglnggkkpeaa.Base Go.Proofs.Ytmkjglnggkkpeaa.Shp
set_option linter.unusedVariables false
set_option linter.unusedSimpArgs false
set_option maxHeartbeats 1000000 in
theorem open_nil (z zb b r : Int) (hI : IsI z ∧ IsI zb ∧ IsI b ∧ IsI r) (A : Option Addr) (n c : Nat) (hno : ¬ Rt z zb b r ∨ (n : Int) ≠ z) (w : World) :
    Calls Try.prog 30 #[.agg #[.int .i64 z, .int .i64 zb, .int .i64 b, .int .i64 r], .slice A n c] w fun e w' => e = .returned (.pointer none) ∧ Below w.heap.size w w' := by
  have HII := Aside0.mk hI
  have HNO := Aside0.mk hno
  have HA := Aside0.mk (alloc_below w (.cells #[.int .i64 z, .int .i64 zb, .int .i64 b, .int .i64 r] 23))
  have HX := Aside0.mk (Box.new w z zb b r)
  obtain ⟨d0, d1, d2, d3⟩ := HX.out
  clear hI hno
  go_enter Try.func30, Try.ntmps30
  go_wp2_with fail
  refine (new_calls z zb b r HII.out.1 HII.out.2.1 HII.out.2.2.1 HII.out.2.2.2 _).mono ?_
  rintro e w1 ⟨⟨hn, rfl⟩ | ⟨hrt, xb, v, rfl, hD, hxb⟩, hw1⟩
  · have HB1 := Aside0.mk (below_go HA.out hw1)
    clear hn hw1 d0 d1 d2 d3
    go_wp2
    go_ret
    exact ⟨rfl, HB1.out⟩
  · have hnz : ((n : Int) != z) = true := by rw [bne_iff_ne]; exact HNO.out.resolve_left (fun h => h hrt)
    have HB1 := Aside0.mk (below_go HA.out hw1)
    obtain ⟨e0, e1, e2, e3⟩ := HX.out.below hw1
    clear hrt hD hxb hw1 d0 d1 d2 d3
    go_wp2
    go_ret
    exact ⟨rfl, HB1.out⟩
set_option maxHeartbeats 1000000 in
theorem ropen_nil (z zb b r : Int) (hI : IsI z ∧ IsI zb ∧ IsI b ∧ IsI r) (A : Option Addr) (n c : Nat) (hno : ¬ Rt z zb b r ∨ (n : Int) ≠ z) (w : World) :
    Calls Try.prog 32 #[.agg #[.int .i64 z, .int .i64 zb, .int .i64 b, .int .i64 r], .slice A n c] w fun e w' => e = .returned (.pointer none) ∧ Below w.heap.size w w' := by
  have HII := Aside0.mk hI
  have HNO := Aside0.mk hno
  have HA := Aside0.mk (alloc_below w (.cells #[.int .i64 z, .int .i64 zb, .int .i64 b, .int .i64 r] 23))
  have HX := Aside0.mk (Box.new w z zb b r)
  obtain ⟨d0, d1, d2, d3⟩ := HX.out
  clear hI hno
  go_enter Try.func32, Try.ntmps32
  go_wp2_with fail
  refine (ref_right_calls z zb b r HII.out.1 HII.out.2.1 HII.out.2.2.1 HII.out.2.2.2 _).mono ?_
  rintro e w1 ⟨rfl, hw1⟩
  have HB1 := Aside0.mk (below_go HA.out hw1)
  obtain ⟨e0, e1, e2, e3⟩ := HX.out.below hw1
  by_cases hrt : Rt z zb b r
  · rw [decide_eq_true hrt]
    have hnz : ((n : Int) != z) = true := by rw [bne_iff_ne]; exact HNO.out.resolve_left (fun h => h hrt)
    clear hrt hw1 d0 d1 d2 d3
    go_wp2
    go_ret
    exact ⟨rfl, HB1.out⟩
  · rw [decide_eq_false hrt]
    clear hrt hw1 d0 d1 d2 d3
    go_wp2
    go_ret
    exact ⟨rfl, HB1.out⟩
end Go.Proofs.Ytmkjglnggkkpeaa.Dv

/- coamingref00.Zones, Heavy: of zones; what they say is not needed, but that they say it. -/
namespace Go.Proofs.Ytmkjglnggkkpeaa.Dv
open Go.RowKit Go.Proofs.YtmkjglnggkkpeaaW.PrintWords Go.Proofs.YtmkjglnggkkpeaaW.PrintMore Go.Proofs.Ytmkjglnggkkpeaa.Base Go.Proofs.Ytmkjglnggkkpeaa.Shp
set_option linter.unusedVariables false
set_option linter.unusedSimpArgs false
attribute [local go_sem] max2_mx min2_mn max_two min_two
set_option maxHeartbeats 1000000 in
theorem zcount_calls (A : Option Addr) (n c : Nat) (xs : List Zn) (t : Nat) (ht : t ≤ 1000) (w : World) (h : zoneK.C w A n xs) :
    Calls Try.prog 49 #[.slice A n c, .int .i64 (t : Int)] w fun e w' => ∃ s : Nat, e = .returned (.int .i64 (s : Int)) ∧ s ≤ 2001 ∧ w = w' := by
  obtain ⟨hl, hm⟩ := C_len h
  have HL := Aside0.mk hl
  have HC := Aside0.mk h
  clear h hl
  go_enter Try.func49, Try.ntmps49
  go_wp2
  go_loopg [5, 6] n (fun g v5 v6 wr => ∃ i s : Nat, v6 = .int .i64 (i : Int) ∧ v5 = .int .i64 (s : Int) ∧ i ≤ n ∧ s ≤ 2001 ∧ Aside0 (g + i = n) ∧ w = wr)
  case atStart => exact ⟨0, 0, rfl, rfl, by omega, by omega, ⟨rfl⟩, rfl⟩
  case round =>
    obtain ⟨i, s, rfl, rfl, hi, hs, HK, rfl⟩ := hrel
    by_cases hlt : i < n
    · by_cases hst : s ≤ t
      · obtain ⟨p, hp⟩ : ∃ p, xs.getD i ([], 0) = p := ⟨_, rfl⟩
        obtain ⟨pa, B0, k0, rfl, e0, e1, hk0, hB, hIp⟩ := zones_at HC.out i hlt hp
        have hpm := (C_len hB).2
        obtain ⟨k, hk⟩ : ∃ k : Nat, mn (p.1.length : Int) (t : Int) = (k : Int) := by
          unfold mn
          split
          · exact ⟨_, rfl⟩
          · exact ⟨_, rfl⟩
        have hkt : k ≤ t := by
          unfold mn at hk
          split at hk <;> omega
        have hlt' : (i : Int) < (n : Int) := by omega
        have hd0 : decide ((i : Int) < (n : Int)) = true := decide_eq_true hlt'
        have hd1 : decide ((s : Int) ≤ (t : Int)) = true := decide_eq_true (by omega)
        have hd2 : decide (s ≤ t) = true := decide_eq_true hst
        clear hp hB hIp hk0
        go_wp2
        go_roundg (gk - 1)
        case measure => have := HK.out; omega
        case rel => exact ⟨i + 1, s + (1 + k), by congr 1, by congr 1, by omega, by omega, ⟨by have := HK.out; omega⟩, rfl⟩
      · have hlt' : (i : Int) < (n : Int) := by omega
        have hd0 : decide ((i : Int) < (n : Int)) = true := decide_eq_true hlt'
        have hd1 : decide ((s : Int) ≤ (t : Int)) = false := decide_eq_false (by omega)
        have hd2 : decide (s ≤ t) = false := decide_eq_false hst
        go_wp2
        go_ret
        exact ⟨s, rfl, by omega, rfl⟩
    · obtain rfl : i = n := by omega
      have hd0 : decide ((i : Int) < (i : Int)) = false := decide_eq_false (by omega)
      go_wp2
      go_ret
      exact ⟨s, rfl, by omega, rfl⟩
set_option maxHeartbeats 1000000 in
theorem heavyz_calls (A : Option Addr) (n c : Nat) (xs : List Zn) (t : Nat) (ht : t ≤ 1000) (w : World) (h : zoneK.C w A n xs) :
    Calls Try.prog 31 #[.slice A n c, .int .i64 (t : Int)] w fun e w' => ∃ b : Bool, e = .returned (.bool b) ∧ w = w' := by
  obtain ⟨hl, hm⟩ := C_len h
  have HL := Aside0.mk hl
  have HC := Aside0.mk h
  clear h hl
  go_enter Try.func31, Try.ntmps31
  go_wp2_with fail
  refine (zcount_calls A n c xs t ht _ HC.out).mono ?_
  rintro e w1 ⟨s, rfl, hs, rfl⟩
  by_cases hst : t < s
  · have hd1 : decide ((t : Int) < (s : Int)) = true := decide_eq_true (by omega)
    have hd2 : decide (t < s) = true := decide_eq_true hst
    go_wp2
    go_ret
    exact ⟨_, rfl, rfl⟩
  · have hd1 : decide ((t : Int) < (s : Int)) = false := decide_eq_false (by omega)
    have hd2 : decide (t < s) = false := decide_eq_false hst
    go_wp2
    go_loopg [5, 6] n (fun g v5 v6 wr => ∃ i : Nat, v5 = .int .i64 (i : Int) ∧ i ≤ n ∧ Aside0 (g + i = n) ∧ w = wr)
    case atStart => exact ⟨0, rfl, by omega, ⟨rfl⟩, rfl⟩
    case round =>
      obtain ⟨i, rfl, hi, HK, rfl⟩ := hrel
      obtain ⟨g1, rfl⟩ : ∃ g1 : Nat, g1 = gk := ⟨_, rfl⟩
      by_cases hlt : i < n
      · obtain ⟨p, hp⟩ : ∃ p, xs.getD i ([], 0) = p := ⟨_, rfl⟩
        obtain ⟨pa, B0, k0, rfl, e0, e1, hk0, hB, hIp⟩ := zones_at HC.out i hlt hp
        have hpm := (C_len hB).2
        have HB := Aside0.mk hB
        have hlt' : (i : Int) < (n : Int) := by omega
        have hd0 : decide ((i : Int) < (n : Int)) = true := decide_eq_true hlt'
        clear hp hB hIp hk0 e1
        go_wp2
        go_loopg [6] p.1.length (fun g v6 wr => ∃ q : Nat, v6 = .int .i64 (q : Int) ∧ q ≤ p.1.length ∧ Aside0 (g + q = p.1.length) ∧ w = wr)
        case atStart => exact ⟨0, rfl, by omega, ⟨rfl⟩, rfl⟩
        case round =>
          obtain ⟨q, rfl, hq, HK2, rfl⟩ := hrel
          by_cases hql : q < p.1.length
          · obtain ⟨pb, C0, d0, rfl, f0, hd, hC⟩ := bytes_at HB.out q hql
            obtain ⟨x, hx⟩ : ∃ x, p.1.getD q [] = x := ⟨_, rfl⟩
            rw [hx] at f0 hd hC
            have hxm := (C_len hC).2
            have hq' : (q : Int) < (p.1.length : Int) := by omega
            have hd3 : decide ((q : Int) < (p.1.length : Int)) = true := decide_eq_true hq'
            clear hx hd hC
            by_cases hx2 : 200 < x.length
            · have hd4 : decide (200 < (x.length : Int)) = true := decide_eq_true (by omega)
              go_wp2
              go_ret
              exact ⟨_, rfl, rfl⟩
            · have hd4 : decide (200 < (x.length : Int)) = false := decide_eq_false (by omega)
              go_wp2
              go_roundg (gk - 1)
              case measure => have := HK2.out; omega
              case rel => exact ⟨q + 1, by congr 1, by omega, ⟨by have := HK2.out; omega⟩, rfl⟩
          · obtain rfl : q = p.1.length := by omega
            have hd3 : decide ((p.1.length : Int) < (p.1.length : Int)) = false := decide_eq_false (by omega)
            go_wp2
            go_roundg (g1 - 1)
            case measure => have := HK.out; omega
            case rel => exact ⟨i + 1, by congr 1, by omega, ⟨by have := HK.out; omega⟩, rfl⟩
      · obtain rfl : i = n := by omega
        have hd0 : decide ((i : Int) < (i : Int)) = false := decide_eq_false (by omega)
        go_wp2
        go_ret
        exact ⟨_, rfl, rfl⟩
end Go.Proofs.Ytmkjglnggkkpeaa.Dv
