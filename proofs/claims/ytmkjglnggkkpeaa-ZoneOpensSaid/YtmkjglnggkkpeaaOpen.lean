/- zone.Open of zones that may be. -/
import Derived.Test.YtmkjglnggkkpeaaFits
import Derived.Test.YtmkjglnggkkpeaaConcat
namespace Go.Proofs.Ytmkjglnggkkpeaa.Dv
open Go.RowKit Go.Proofs.YtmkjglnggkkpeaaW.PrintWords Go.Proofs.YtmkjglnggkkpeaaW.PrintMore Go.Proofs.Ytmkjglnggkkpeaa.Base Go.Proofs.Ytmkjglnggkkpeaa.Shp
set_option linter.unusedVariables false
set_option linter.unusedSimpArgs false
def putF (zs : List Zn) (i : Nat) (_ : Prt) : Prt := flat (zs.getD i ([], 0))
theorem put_all {zs : List Zn} {n : Nat} (h : zs.length = n) : (List.replicate n (([], 0) : Prt)).mapIdx (putF zs) = zs.map flat := by
  apply List.ext_getElem?
  intro i
  rw [List.getElem?_mapIdx, List.getElem?_map, List.getElem?_replicate]
  by_cases hi : i < n
  · rw [if_pos hi, List.getElem?_eq_getElem (by omega)]
    show some (putF zs i ([], 0)) = some (flat _)
    unfold putF
    rw [List.getD_eq_getElem?_getD, List.getElem?_eq_getElem (by omega)]
    rfl
  · rw [if_neg hi, List.getElem?_eq_none (by omega)]
    rfl
set_option maxRecDepth 100000 in
set_option maxHeartbeats 4000000 in
theorem open_calls (zn zbn bn : Nat) (r : Int) (hrt : Rt zn zbn bn r) (hI : IsI zn ∧ IsI zbn ∧ IsI bn ∧ IsI r) (hzb2 : zbn ≤ 4096) (hb1 : 64 ≤ bn) (hb2 : bn ≤ 4096) (A : Option Addr) (n c : Nat) (zs : List Zn) (hinv : ZInv bn zbn zs) (hlz : zs.length = zn) (w : World) (hC : zoneK.C w A n zs) :
    Calls Try.prog 30 #[.agg #[.int .i64 (zn : Int), .int .i64 (zbn : Int), .int .i64 (bn : Int), .int .i64 r], .slice A n c] w
      fun e w' => ∃ xb v, e = .returned (.pointer (some ⟨xb, 0, none⟩)) ∧ Dev w' xb w.heap.size (fun k => w.heap.size ≤ k) zn zbn bn r (zs.map flat) v ∧ w.heap.size ≤ xb ∧ Below w.heap.size w w' := by
  obtain ⟨hl, hm⟩ := C_len hC
  obtain rfl : n = zn := by omega
  have HL := Aside0.mk hl
  have HC := Aside0.mk hC
  have HINV := Aside0.mk hinv
  have HRT := Aside0.mk hrt
  have HII := Aside0.mk hI
  have HA := Aside0.mk (alloc_below w (.cells #[.int .i64 (n : Int), .int .i64 (zbn : Int), .int .i64 (bn : Int), .int .i64 r] 23))
  have HX := Aside0.mk (Box.new w n zbn bn r)
  obtain ⟨d0, d1, d2, d3⟩ := HX.out
  clear hl hlz hC hinv hrt hI
  go_enter Try.func30, Try.ntmps30
  go_wp2_with fail
  obtain ⟨W, hW⟩ : ∃ W, (w.alloc (.cells #[.int .i64 (n : Int), .int .i64 (zbn : Int), .int .i64 (bn : Int), .int .i64 r] 23)) = W := ⟨_, rfl⟩
  obtain ⟨g, hg⟩ : ∃ g, w.heap.size = g := ⟨_, rfl⟩
  rw [hW] at HX HA ⊢
  rw [hg] at HX ⊢
  have HG := Aside0.mk hg
  clear hW hg d0 d1 d2 d3
  refine (new_calls (n : Int) (zbn : Int) (bn : Int) r HII.out.1 HII.out.2.1 HII.out.2.2.1 HII.out.2.2.2 _).mono ?_
  rintro e w1 ⟨⟨hn, _⟩ | ⟨_, xb, v, rfl, hD, hxb⟩, hw1⟩
  · exact absurd HRT.out hn
  obtain ⟨A1, m, cp, rfl, hm1, hmc, -, hmm⟩ := hD.form
  have hgB : g < W.heap.size := World.block_lt_of_cell? _ _ HX.out.d0
  have HD := Aside0.mk hD
  have HXB := Aside0.mk hxb
  have HB1 := Aside0.mk (below_go HA.out hw1)
  have HX1 := Aside0.mk (HX.out.below hw1)
  have HWB := Aside0.mk (show w.heap.size ≤ W.heap.size from HA.out.size)
  have HGB := Aside0.mk hgB
  obtain rfl : m = n := by rw [hm1, List.length_replicate]; omega
  obtain ⟨d0, d1, d2, d3⟩ := HX1.out
  clear hm1 hD hxb hw1 hgB
  go_wp2
  clear d0 d1 d2 d3
  go_loopg [6, 7, 21] m (fun gk v6 v7 v21 wr => ∃ i : Nat, v21 = .int .i64 (i : Int) ∧ i ≤ m ∧ Aside0 (gk + i = m) ∧ Aside0 (Dev wr xb W.heap.size (fun k => W.heap.size ≤ k) m zbn bn r (upto (putF zs) i (List.replicate m ([], 0))) (.slice A1 m cp) ∧ Below w.heap.size w wr ∧ Below W.heap.size w1 wr))
  case atStart => exact ⟨0, rfl, by omega, ⟨rfl⟩, ⟨by rw [upto_zero]; exact HD.out, HB1.out, (Below.refl _ _)⟩⟩
  case round =>
    obtain ⟨i, rfl, hi, HK, HS⟩ := hrel
    rename World => wr
    obtain ⟨d0, d1, d2, d3⟩ := HX1.out.belowB HS.out.2.2 HGB.out
    by_cases hlt : i < m
    · obtain ⟨p, hp⟩ : ∃ p, zs.getD i ([], 0) = p := ⟨_, rfl⟩
      obtain ⟨pa, B0, k0, rfl, e0, e1, hk0, hB, hIp⟩ := zones_at (Kd.C_below HC.out HS.out.2.1) i hlt hp
      have hfit : FitZ (zbn : Int) (bn : Int) p := by
        have h9 := HINV.out.get (i := i) (by rw [HL.out]; exact hlt)
        rw [hp] at h9
        exact ⟨by have := h9.2.1; omega, h9.1.1, h9.1.2, fun x hx => by have := h9.2.2 x hx; omega⟩
      have hfl : p.1.flatten.length ≤ 100000000 := by
        have h9 := HINV.out.get (i := i) (by rw [HL.out]; exact hlt)
        rw [hp] at h9
        rw [flat_len h9.2.2]
        have : p.1.length * bn ≤ 4096 * 4096 := Nat.mul_le_mul (by have := h9.2.1; omega) hb2
        omega
      have HFIT := Aside0.mk hfit
      have HP := Aside0.mk hp
      have HIP := Aside0.mk hIp
      have HBY := Aside0.mk hB
      have hlt' : (i : Int) < (m : Int) := by omega
      have hd9 : decide ((i : Int) < (m : Int)) = true := decide_eq_true hlt'
      have HAZ := Aside0.mk (alloc_below wr (.cells #[.slice B0 p.1.length k0, .int .i64 p.2] 55))
      have HZ0 := Aside0.mk (show (wr.alloc (.cells #[.slice B0 p.1.length k0, .int .i64 p.2] 55)).heap[wr.heap.size]? = some (.cells #[.slice B0 p.1.length k0, .int .i64 p.2] 55 (0, 0)) from blk_here rfl)
      clear hfit hp hIp hB hk0
      have d0 := pw_cell_below HAZ.out d0
      have d1 := pw_cell_below HAZ.out d1
      have d2 := pw_cell_below HAZ.out d2
      have d3 := pw_cell_below HAZ.out d3
      go_wp2_with fail
      obtain ⟨V, hV⟩ : ∃ V, wr.alloc (.cells #[.slice B0 p.1.length k0, .int .i64 p.2] 55) = V := ⟨_, rfl⟩
      obtain ⟨gz, hgz⟩ : ∃ gz, wr.heap.size = gz := ⟨_, rfl⟩
      rw [hV] at HAZ HZ0 d0 d1 d2 d3 ⊢
      rw [hgz] at HZ0 ⊢
      clear hV hgz
      refine (fits_calls (m : Int) (zbn : Int) (bn : Int) r B0 k0 p _ (Kd.C_below HBY.out HAZ.out)).mono ?_
      rintro e w3 ⟨rfl, hw3⟩
      rw [decide_eq_true HFIT.out]
      have hbz : Below wr.heap.size wr w3 := below_go HAZ.out hw3
      have hz3 : w3.heap[gz]? = some (.cells #[.slice B0 p.1.length k0, .int .i64 p.2] 55 (0, 0)) := (hw3.block gz (Array.getElem?_eq_some_iff.1 HZ0.out).1).trans HZ0.out
      obtain ⟨z0, z1⟩ : w3.cell? ⟨gz, 0, none⟩ = some (.slice B0 p.1.length k0) ∧ w3.cell? ⟨gz, 1, none⟩ = some (.int .i64 p.2) := ⟨by simp [World.cell?, hz3], by simp [World.cell?, hz3]⟩
      have HD3 := Aside0.mk (HS.out.1.below hbz)
      have HB3 := Aside0.mk hbz
      have HBY3 := Aside0.mk (Kd.C_below HBY.out hbz)
      obtain ⟨-, -, -, -, k4⟩ := HD3.out.cells
      obtain ⟨q, hq⟩ : ∃ q, (upto (putF zs) i (List.replicate m ([], 0))).getD i ([], 0) = q := ⟨_, rfl⟩
      obtain ⟨ad, cp', BB, kk, oki, hv, c0, c1, hkk, hI, hBB, f0, f1, hoa, hax, hal, -, -, -, -⟩ := HD3.out.part (j := i) (by rw [upto_len, List.length_replicate]; exact hlt) hq
      obtain ⟨rfl, rfl⟩ : A1 = some ad ∧ cp = cp' := by simp only [Value.slice.injEq] at hv; exact ⟨hv.1, hv.2.2⟩
      have hab : (ad.add (i * 2)).block = ad.block := add_block _ _
      have HAB := Aside0.mk hab
      have HAL := Aside0.mk hal
      have HOA := Aside0.mk hoa
      have hn1 : ad.add (i * 2) ≠ ⟨(ad.add (i * 2)).block, (ad.add (i * 2)).off + 1, none⟩ := fun e => by have := congrArg Addr.off e; simp at this
      have hn2 := hn1.symm
      clear hbz hz3 hq hv hI hBB hab hoa hax hal hkk hw3 d0 d1 d2 d3 e0 e1
      go_wp2
      go_region_with (go_at_call 48; go_loud (refine (concat_calls B0 p.1.length k0 p.1 hfl _ (Kd.C_below HBY3.out (below_drew (Below.refl _ _)))).mono ?_; rintro e w8 ⟨v8, rfl, hO8, hw8⟩; obtain ⟨A8, n8, c8, rfl, -, -⟩ := Go.Proofs.Ytmkjglnggkkpeaa.Base.Own.reads hO8); go_loud (have k4 := pw_cell_below (w := w3.drew) hw8 k4; have z0 := pw_cell_below (w := w3.drew) hw8 z0; have z1 := pw_cell_below (w := w3.drew) hw8 z1; have c0 := pw_cell_below (w := w3.drew) hw8 c0; have c1 := pw_cell_below (w := w3.drew) hw8 c1; have f0 := pw_frozen_below (w := w3.drew) (p := ad.add (i * 2)) hw8 (by show (ad.add (i * 2)).block < _; rw [HAB.out]; exact HAL.out) f0; have f1 := pw_frozen_below (w := w3.drew) (p := ⟨(ad.add (i * 2)).block, (ad.add (i * 2)).off + 1, none⟩) hw8 (by show (ad.add (i * 2)).block < _; rw [HAB.out]; exact HAL.out) f1))
      all_goals
        have HO8 := Aside0.mk hO8
        have HW8 := Aside0.mk hw8
        clear k4 z0 z1 c0 c1 f0 f1 hO8 hw8 hn1 hn2
        go_wp2
        go_roundg (gk - 1)
        case measure => have := HK.out; omega
        case rel =>
          have hsz := HB3.out.size
          have hws := HWB.out
          have hwr := HS.out.2.2.size
          have hww : W.heap.size ≤ w1.heap.size := by have := (Array.getElem?_eq_some_iff.1 HD.out.blk).1; have := HXB.out; omega
          have hb8 : Below W.heap.size w1 w8 := HS.out.2.2.trans ((below_go HB3.out (Below.trans (below_drew (Below.refl _ _)) HW8.out)).mono (by omega))
          have hc8 : Below w.heap.size w w8 := HS.out.2.1.trans ((below_go HB3.out (Below.trans (below_drew (Below.refl _ _)) HW8.out)).mono (by omega))
          have hob : W.heap.size ≤ (ad.add (i * 2)).block := by rw [HAB.out]; exact HOA.out
          refine ⟨i + 1, by congr 1, by omega, ⟨by have := HK.out; omega⟩, ⟨?_, Below.setCell (Below.setCell hc8 (p := ad.add (i * 2)) (by omega) _) (p := ⟨(ad.add (i * 2)).block, (ad.add (i * 2)).off + 1, none⟩) (by show _ ≤ (ad.add (i * 2)).block; omega) _, Below.setCell (Below.setCell hb8 (p := ad.add (i * 2)) hob _) (p := ⟨(ad.add (i * 2)).block, (ad.add (i * 2)).off + 1, none⟩) hob _⟩⟩
          have h9 := (HD3.out.below (below_drew (Below.refl _ _))).put (j := i) (by rw [upto_len, List.length_replicate]; exact hlt) HW8.out HO8.out (fun k hk => by have h5 : w3.drew.heap.size = w3.heap.size := rfl; omega) (d := p.2) HIP.out
          rw [show ((p.1.flatten, p.2) : Prt) = putF zs i ((List.replicate m (([], 0) : Prt)).getD i ([], 0)) by unfold putF; rw [HP.out]; rfl, upto_set _ (by rw [List.length_replicate]; exact hlt)] at h9
          exact h9
    · obtain rfl : i = m := by omega
      have hd9 : decide ((i : Int) < (i : Int)) = false := decide_eq_false (by omega)
      go_wp2
      go_ret
      have h9 := HS.out.1
      rw [show upto (putF zs) i (List.replicate i ([], 0)) = (List.replicate i ([], 0)).mapIdx (putF zs) from by have := upto_all (putF zs) (List.replicate i ([], 0)); rwa [List.length_replicate] at this, put_all HL.out] at h9
      refine ⟨xb, _, rfl, ⟨h9.blk, Kd.S_lower (Kd.S_mono h9.row (fun k hk => Nat.le_trans HWB.out hk)) HWB.out⟩, Nat.le_trans HWB.out HXB.out, HS.out.2.1⟩
end Go.Proofs.Ytmkjglnggkkpeaa.Dv
