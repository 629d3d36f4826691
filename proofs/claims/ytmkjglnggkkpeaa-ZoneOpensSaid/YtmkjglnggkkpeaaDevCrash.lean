/- Crash of a device. -/
import Derived.Test.YtmkjglnggkkpeaaDevLose
namespace Go.Proofs.Ytmkjglnggkkpeaa.Dv
open Go.RowKit Go.Proofs.YtmkjglnggkkpeaaW.PrintWords Go.Proofs.YtmkjglnggkkpeaaW.PrintMore Go.Proofs.Ytmkjglnggkkpeaa.Base Go.Proofs.Ytmkjglnggkkpeaa.Shp
set_option linter.unusedVariables false
set_option linter.unusedSimpArgs false
/-- A part is written anew, with bytes of the call's own. -/
theorem Dev.put {W w1 : World} {xb base : Nat} {ok : Nat → Prop} {z zb b r : Int} {ps : List Prt} {ad : Addr} {n cp : Nat} (h : Dev W xb base ok z zb b r ps (.slice (some ad) n cp)) {j : Nat} (hj : j < ps.length) (hb : Below W.heap.size W w1) {v1 : Value} {bs : List UInt8} (hR : Own w1 W.heap.size v1 bs)
    (hok : ∀ k, W.heap.size ≤ k → ok k) {d : Int} (hd : IsI d) :
    Dev ((w1.setCell (ad.add (j * 2)) v1).setCell ⟨(ad.add (j * 2)).block, (ad.add (j * 2)).off + 1, none⟩ (.int .i64 d)) xb base ok z zb b r (ps.set j (bs, d)) (.slice (some ad) n cp) := by
  obtain ⟨ad', cp', B, k, oki, hv, c0, c1, hk, hI, hB, f0, f1, hoa, hax, hal, -, -, -, -⟩ := h.part (j := j) hj rfl
  obtain ⟨rfl, rfl, rfl⟩ : ad = ad' ∧ n = ps.length ∧ cp = cp' := by simp only [Value.slice.injEq, Option.some.injEq] at hv; exact hv
  have hab : (ad.add (j * 2)).block = ad.block := add_block _ _
  refine ⟨blk_far (blk_far (h.below hb).blk (by rw [hab]; exact hax.symm) _) (by show xb ≠ (ad.add (j * 2)).block; rw [hab]; exact hax.symm) _, ?_⟩
  obtain ⟨g, rfl⟩ := Kd.R_head (Kd.S_R h.row)
  obtain ⟨oki, c, hcl, hM, hcc, hfr, hoki, hH⟩ := Kd.S_elem h.row ([], 0) (j : Int) (by omega) (by omega)
  have hs : partK.sz = 2 := rfl
  have ea : (⟨g, 0, none⟩ : Addr).add (j * 2) = ⟨g, j * 2, none⟩ := by rw [add_plain]
  have hbase : base ≤ W.heap.size := Nat.le_trans (Kd.S_base h.row g rfl) (Nat.le_of_lt hal)
  obtain ⟨H2, hg2⟩ := Kd.H_seg (Kd.H_below (Kd.H_widen hH) hb) (by omega) (by omega) (seg := [v1, .int .i64 d]) (j := 0) (by rw [hs]; exact Nat.le_refl 2) (fun q hq => by simp at hq; rcases hq with rfl | rfl; exact (Kd.R_val hR).2; rfl)
  rw [Int.toNat_natCast, hs] at H2 hg2
  rw [ea]
  have es : w1.setCells g (j * 2 + 0) [v1, .int .i64 d] = (w1.setCell ⟨g, j * 2, none⟩ v1).setCell ⟨g, j * 2 + 1, none⟩ (.int .i64 d) := rfl
  rw [es] at H2
  have hdr : c.drop (0 + [v1, Value.int .i64 d].length) = [] := List.drop_eq_nil_of_le (by rw [hcl, hs]; exact Nat.le_refl 2)
  rw [hdr] at H2
  have e1 : (Lit.int .i64 d).wf = true := by
    obtain ⟨d1, d2⟩ := hd
    simp [Lit.wf, IntKind.min, IntKind.max, IntKind.bits, IntKind.signed]
    omega
  have hgk : ∀ k, v1.ownBlock = some k → W.heap.size ≤ k := Kd.R_base hR
  have hne : ∀ k, some k = v1.ownBlock → k ≠ g := fun k hk e => by have := hgk k hk.symm; have : g < W.heap.size := hal; omega
  have := Kd.H_back H2 (x' := (bs, d)) (okp := fun k => some k = v1.ownBlock) ⟨[v1], [.int .i64 d], rfl, ⟨v1, rfl, Kd.R_far (Kd.R_far (Kd.R_lower (Kd.R_tight rfl hR) hbase) hne _) hne _⟩, ⟨rfl, e1⟩⟩ (fun k hk => .inr ⟨hok k (hgk k hk.symm), hgk k hk.symm⟩)
  rwa [Int.toNat_natCast] at this
def lossK : Kd (Int × Int) := Kd.pair (num .i64) (num .i64)
theorem loss_at {w : World} {A : Option Addr} {n : Nat} {xs : List (Int × Int)} (h : lossK.C w A n xs) (i : Nat) (hi : i < n) :
    ∃ ad, A = some ad ∧ w.cell? (ad.add (i * 2)) = some (.int .i64 (xs.getD i (0, 0)).1) ∧ w.cell? ⟨(ad.add (i * 2)).block, (ad.add (i * 2)).off + 1, none⟩ = some (.int .i64 (xs.getD i (0, 0)).2) ∧ IsI (xs.getD i (0, 0)).1 ∧ IsI (xs.getD i (0, 0)).2 := by
  obtain ⟨ad, c, e, _, hK, hc⟩ := ReadsRow.get_ h (0, 0) (i : Int) (by omega) (by omega)
  obtain ⟨c0, c1, rfl, ⟨rfl, h0⟩, ⟨rfl, h1⟩⟩ := hK
  rw [Int.toNat_natCast] at hc h0 h1
  refine ⟨ad, e, ?_, ?_, wf_i64 h0, wf_i64 h1⟩
  · exact hc 0 _ rfl
  · exact cell_fld (hc 1 _ rfl) (by omega)
/-- What a crash makes of part i. -/
def crashF (b : Nat) (ls : List (Int × Int)) (i : Nat) (p : Prt) : Prt :=
  (lostB b p.1 p.2 (ls.getD i (0, 0)).1 (ls.getD i (0, 0)).2, (((lostB b p.1 p.2 (ls.getD i (0, 0)).1 (ls.getD i (0, 0)).2).length / b : Nat) : Int))
/-- How parts are: durable blocks are there; no part is great. -/
def Fit (b : Nat) (ps : List Prt) : Prop := ∀ p ∈ ps, 0 ≤ p.2 ∧ p.2 ≤ ((p.1.length / b : Nat) : Int) ∧ p.1.length ≤ 100000000
theorem Fit.get {b : Nat} {ps : List Prt} (h : Fit b ps) {i : Nat} (hi : i < ps.length) {p : Prt} (hp : ps.getD i ([], 0) = p) : 0 ≤ p.2 ∧ p.2 ≤ ((p.1.length / b : Nat) : Int) ∧ p.1.length ≤ 100000000 :=
  h p (by rw [← hp, List.getD_eq_getElem?_getD, List.getElem?_eq_getElem hi]; exact List.getElem_mem _)
theorem lost_len {b : Nat} (bs : List UInt8) (du keep torn : Int) (hb : bs.length ≤ 100000000) (hb2 : b ≤ 4096) : (lostB b bs du keep torn).length ≤ 100004096 := by
  unfold lostB front
  rw [List.length_append, List.length_take]
  split
  · rw [List.length_append, List.length_take, List.length_replicate]
    have : (mn torn (b : Int)).toNat ≤ b := by unfold mn; split <;> omega
    omega
  · rw [List.length_nil]; omega
set_option maxHeartbeats 4000000 in
theorem crash_calls (xb base : Nat) (ok : Nat → Prop) (z zb r : Int) (bn : Nat) (hb1 : 0 < bn) (hb2 : bn ≤ 4096) (ps : List Prt) (hfit : Fit bn ps) (v : Value) (A : Option Addr) (nl kl : Nat) (ls : List (Int × Int)) (w : World) (h : Dev w xb base ok z zb bn r ps v) (hok : ∀ k, w.heap.size ≤ k → ok k) (hCk : ∀ w1, Chg w w1 ok → lossK.C w1 A nl ls) :
    Calls Try.prog 22 #[.pointer (some ⟨xb, 0, none⟩), .slice A nl kl] w fun e w' => e = .returned (.tuple #[]) ∧ Dev w' xb base ok z zb bn r (ps.mapIdx (crashF bn ls)) v ∧ Chg w w' ok := by
  have HD := Aside0.mk h
  obtain ⟨-, -, -, -, k4⟩ := h.cells
  obtain ⟨A0, m, cp, rfl, hm, hmc, -, hmm⟩ := h.form
  obtain ⟨hnl, hnm⟩ := C_len (hCk w (Chg.refl _ _))
  have HNL := Aside0.mk hnl
  have HM := Aside0.mk hm
  have HCK := Aside0.mk hCk
  have HOK := Aside0.mk hok
  have HFIT := Aside0.mk hfit
  clear h hm hok hCk hfit hnl
  go_enter Try.func22, Try.ntmps22
  go_wp2
  clear k4
  go_loopg [4, 5, 6, 12] m (fun g v4 v5 v6 v12 wr => ∃ i : Nat, v12 = .int .i64 (i : Int) ∧ i ≤ m ∧ Aside0 (g + i = m) ∧ Aside0 (Dev wr xb base ok z zb bn r (upto (crashF bn ls) i ps) (.slice A0 m cp) ∧ Chg w wr ok))
  case atStart => exact ⟨0, rfl, by omega, ⟨rfl⟩, ⟨by rw [upto_zero]; exact HD.out, Chg.refl _ _⟩⟩
  case round =>
    obtain ⟨i, rfl, hi, HK, HS⟩ := hrel
    by_cases hlt : i < m
    · obtain ⟨p, hp⟩ : ∃ p, ps.getD i ([], 0) = p := ⟨_, rfl⟩
      have HD1 := Aside0.mk HS.out.1
      obtain ⟨-, -, -, -, k4⟩ := HD1.out.cells
      obtain ⟨ad, cp', B, k, oki, hv, c0, c1, hk, hI, hB, f0, f1, hoa, hax, hal, hR, hoki, -, -⟩ := HD1.out.part (j := i) (by rw [upto_len, ← HM.out]; exact hlt) ((upto_getD _ _).trans hp)
      obtain ⟨rfl, rfl⟩ : A0 = some ad ∧ cp = cp' := by simp only [Value.slice.injEq] at hv; exact ⟨hv.1, hv.2.2⟩
      obtain ⟨hft1, hft2, hft3⟩ := HFIT.out.get (by rw [← HM.out]; exact hlt) hp
      have hab : (ad.add (i * 2)).block = ad.block := add_block _ _
      have HP := Aside0.mk hp
      have HAB := Aside0.mk hab
      have HO := Aside0.mk hoa
      have HX := Aside0.mk hax
      have HAL := Aside0.mk hal
      have HBY0 := Aside0.mk hB
      have HLC := Aside0.mk (HCK.out wr HS.out.2)
      clear hp hv hB hI hR hoki hab hoa hax hal
      obtain ⟨keep, hkeep⟩ : ∃ keep, (ls.getD i (0, 0)).1 = keep := ⟨_, rfl⟩
      obtain ⟨torn, htorn⟩ : ∃ torn, (ls.getD i (0, 0)).2 = torn := ⟨_, rfl⟩
      have HBW : Aside0 (Below wr.heap.size wr ((wr.alloc (.cells #[.slice B p.1.length k, .int .i64 p.2] 73)).alloc (.cells #[.int .i64 keep, .int .i64 torn] 67))) := ⟨((Below.refl _ _).alloc (Nat.le_refl _) _).alloc (by simp) _⟩
      have HCELL : Aside0 (((wr.alloc (.cells #[.slice B p.1.length k, .int .i64 p.2] 73)).alloc (.cells #[.int .i64 keep, .int .i64 torn] 67)).cell? ⟨wr.heap.size, 0, none⟩ = some (.slice B p.1.length k) ∧ ((wr.alloc (.cells #[.slice B p.1.length k, .int .i64 p.2] 73)).alloc (.cells #[.int .i64 keep, .int .i64 torn] 67)).cell? ⟨wr.heap.size, 1, none⟩ = some (.int .i64 p.2) ∧ ((wr.alloc (.cells #[.slice B p.1.length k, .int .i64 p.2] 73)).alloc (.cells #[.int .i64 keep, .int .i64 torn] 67)).cell? ⟨wr.heap.size + 1, 0, none⟩ = some (.int .i64 keep) ∧ ((wr.alloc (.cells #[.slice B p.1.length k, .int .i64 p.2] 73)).alloc (.cells #[.int .i64 keep, .int .i64 torn] 67)).cell? ⟨wr.heap.size + 1, 1, none⟩ = some (.int .i64 torn)) := ⟨by go_simp, by go_simp, by go_simp, by go_simp⟩
      by_cases hil : i < nl
      · obtain ⟨la, rfl, l0, l1, hkp, htn⟩ := loss_at HLC.out i hil
        rw [hkeep] at l0 hkp
        rw [htorn] at l1 htn
        have hA0 : Below wr.heap.size wr ((wr.alloc (.cells #[.slice B p.1.length k, .int .i64 p.2] 73)).alloc (.cells #[.int .i64 0, .int .i64 0] 67)) := ((Below.refl _ _).alloc (Nat.le_refl _) _).alloc (by simp) _
        have l0 := pw_cell_below hA0 l0
        have l1 := pw_cell_below hA0 l1
        have HKP := Aside0.mk hkp
        have HTN := Aside0.mk htn
        have HKE := Aside0.mk hkeep
        have HTO := Aside0.mk htorn
        clear hkeep htorn hkp htn hA0
        go_wp2
        obtain ⟨W, hW⟩ : ∃ W, ((wr.alloc (.cells #[.slice B p.1.length k, .int .i64 p.2] 73)).alloc (.cells #[.int .i64 keep, .int .i64 torn] 67)) = W := ⟨_, rfl⟩
        obtain ⟨p0, p1, x0, x1⟩ := HCELL.out
        have hBW := HBW.out
        rw [hW] at p0 p1 x0 x1 hBW ⊢
        have HBW := Aside0.mk hBW
        clear HCELL hW
        obtain ⟨gw, hgw⟩ : ∃ gw, wr.heap.size = gw := ⟨_, rfl⟩
        rw [hgw] at p0 p1 x0 x1 ⊢
        have HDW := Aside0.mk (HD1.out.below hBW)
        have HBYW := Aside0.mk (Kd.C_below HBY0.out hBW)
        have f0 := pw_frozen_below (p := ad.add (i * 2)) hBW (by show (ad.add (i * 2)).block < _; rw [HAB.out]; exact HAL.out) f0
        have f1 := pw_frozen_below (p := ⟨(ad.add (i * 2)).block, (ad.add (i * 2)).off + 1, none⟩) hBW (by show (ad.add (i * 2)).block < _; rw [HAB.out]; exact HAL.out) f1
        have c0 := pw_cell_below hBW c0
        have c1 := pw_cell_below hBW c1
        have k4 := pw_cell_below hBW k4
        have HALW := Aside0.mk (Nat.lt_of_lt_of_le HAL.out hBW.size)
        have hn1 : ad.add (i * 2) ≠ ⟨(ad.add (i * 2)).block, (ad.add (i * 2)).off + 1, none⟩ := fun e => by have := congrArg Addr.off e; simp at this
        have hn2 := hn1.symm
        clear hgw hBW
        go_region_with (go_at_call 44; go_loud (refine (lose_calls xb base ok z zb r bn hb1 hb2 _ _ B p.1.length k hk hft3 p.2 keep torn hft1 hft2 HKP.out HTN.out p.1 _ (HDW.out.below (below_drew (Below.refl _ _))) (Kd.C_below HBYW.out (below_drew (Below.refl _ _)))).mono ?_; rintro e w8 ⟨⟨v8, rfl, hO8⟩, hw8⟩; obtain ⟨A8, n8, c8, rfl, -, -⟩ := Own.reads hO8; obtain ⟨q8, hq8⟩ : ∃ q8, (lostB bn p.1 p.2 keep torn).length / bn = q8 := ⟨_, rfl⟩; rw [hq8]; have HQ8 := Aside0.mk hq8; clear hq8); go_loud (have k4 := pw_cell_below (w := W.drew) hw8 k4; have c0 := pw_cell_below (w := W.drew) hw8 c0; have c1 := pw_cell_below (w := W.drew) hw8 c1; have f0 := pw_frozen_below (w := W.drew) (p := ad.add (i * 2)) hw8 (by show (ad.add (i * 2)).block < _; rw [HAB.out]; exact HALW.out) f0; have f1 := pw_frozen_below (w := W.drew) (p := ⟨(ad.add (i * 2)).block, (ad.add (i * 2)).off + 1, none⟩) hw8 (by show (ad.add (i * 2)).block < _; rw [HAB.out]; exact HALW.out) f1))
        all_goals
          have HO8 := Aside0.mk hO8
          have HW8 := Aside0.mk hw8
          clear p0 p1 x0 x1 k4 c0 c1 f0 f1 hO8 hw8 hn1 hn2
          go_wp2
          go_roundg (gk - 1)
          case measure => have := HK.out; omega
          case rel =>
            have hll := lost_len (b := bn) p.1 p.2 keep torn hft3 hb2
            have hdl : q8 ≤ (lostB bn p.1 p.2 keep torn).length := by rw [← HQ8.out]; exact Nat.div_le_self _ _
            have hsz := HBW.out.size
            refine ⟨i + 1, by congr 1, by omega, ⟨by have := HK.out; omega⟩, ⟨?_, (((HS.out.2.below HBW.out).below (Below.trans (below_drew (Below.refl _ _)) HW8.out)).set (.inl (by rw [HAB.out]; exact HO.out)) _).set (.inl (by show ok (ad.add (i * 2)).block; rw [HAB.out]; exact HO.out)) _⟩⟩
            have := (HDW.out.below (below_drew (Below.refl _ _))).put (j := i) (by rw [upto_len, ← HM.out]; exact hlt) HW8.out HO8.out (fun k hk => HOK.out k (Nat.le_trans (Nat.le_trans HS.out.2.kept.1 hsz) hk)) (d := (q8 : Int)) ⟨by omega, by omega⟩
            rw [show ((lostB bn p.1 p.2 keep torn, (q8 : Int)) : Prt) = crashF bn ls i (ps.getD i ([], 0)) by rw [HP.out]; unfold crashF; rw [HKE.out, HTO.out, HQ8.out], upto_set _ (by rw [← HM.out]; exact hlt)] at this
            exact this
      · obtain rfl : keep = 0 := by rw [← hkeep, List.getD_eq_getElem?_getD, List.getElem?_eq_none (by rw [HNL.out]; omega)]; rfl
        obtain rfl : torn = 0 := by rw [← htorn, List.getD_eq_getElem?_getD, List.getElem?_eq_none (by rw [HNL.out]; omega)]; rfl
        have HKE := Aside0.mk hkeep
        have HTO := Aside0.mk htorn
        clear hkeep htorn
        go_wp2
        have HKP := Aside0.mk (show IsI 0 from ⟨by omega, by omega⟩)
        have HTN := HKP
        obtain ⟨W, hW⟩ : ∃ W, ((wr.alloc (.cells #[.slice B p.1.length k, .int .i64 p.2] 73)).alloc (.cells #[.int .i64 0, .int .i64 0] 67)) = W := ⟨_, rfl⟩
        obtain ⟨p0, p1, x0, x1⟩ := HCELL.out
        have hBW := HBW.out
        rw [hW] at p0 p1 x0 x1 hBW ⊢
        have HBW := Aside0.mk hBW
        clear HCELL hW
        obtain ⟨gw, hgw⟩ : ∃ gw, wr.heap.size = gw := ⟨_, rfl⟩
        rw [hgw] at p0 p1 x0 x1 ⊢
        have HDW := Aside0.mk (HD1.out.below hBW)
        have HBYW := Aside0.mk (Kd.C_below HBY0.out hBW)
        have f0 := pw_frozen_below (p := ad.add (i * 2)) hBW (by show (ad.add (i * 2)).block < _; rw [HAB.out]; exact HAL.out) f0
        have f1 := pw_frozen_below (p := ⟨(ad.add (i * 2)).block, (ad.add (i * 2)).off + 1, none⟩) hBW (by show (ad.add (i * 2)).block < _; rw [HAB.out]; exact HAL.out) f1
        have c0 := pw_cell_below hBW c0
        have c1 := pw_cell_below hBW c1
        have k4 := pw_cell_below hBW k4
        have HALW := Aside0.mk (Nat.lt_of_lt_of_le HAL.out hBW.size)
        have hn1 : ad.add (i * 2) ≠ ⟨(ad.add (i * 2)).block, (ad.add (i * 2)).off + 1, none⟩ := fun e => by have := congrArg Addr.off e; simp at this
        have hn2 := hn1.symm
        clear hgw hBW
        go_region_with (go_at_call 44; go_loud (refine (lose_calls xb base ok z zb r bn hb1 hb2 _ _ B p.1.length k hk hft3 p.2 0 0 hft1 hft2 HKP.out HTN.out p.1 _ (HDW.out.below (below_drew (Below.refl _ _))) (Kd.C_below HBYW.out (below_drew (Below.refl _ _)))).mono ?_; rintro e w8 ⟨⟨v8, rfl, hO8⟩, hw8⟩; obtain ⟨A8, n8, c8, rfl, -, -⟩ := Own.reads hO8; obtain ⟨q8, hq8⟩ : ∃ q8, (lostB bn p.1 p.2 0 0).length / bn = q8 := ⟨_, rfl⟩; rw [hq8]; have HQ8 := Aside0.mk hq8; clear hq8); go_loud (have k4 := pw_cell_below (w := W.drew) hw8 k4; have c0 := pw_cell_below (w := W.drew) hw8 c0; have c1 := pw_cell_below (w := W.drew) hw8 c1; have f0 := pw_frozen_below (w := W.drew) (p := ad.add (i * 2)) hw8 (by show (ad.add (i * 2)).block < _; rw [HAB.out]; exact HALW.out) f0; have f1 := pw_frozen_below (w := W.drew) (p := ⟨(ad.add (i * 2)).block, (ad.add (i * 2)).off + 1, none⟩) hw8 (by show (ad.add (i * 2)).block < _; rw [HAB.out]; exact HALW.out) f1))
        all_goals
          have HO8 := Aside0.mk hO8
          have HW8 := Aside0.mk hw8
          clear p0 p1 x0 x1 k4 c0 c1 f0 f1 hO8 hw8 hn1 hn2
          go_wp2
          go_roundg (gk - 1)
          case measure => have := HK.out; omega
          case rel =>
            have hll := lost_len (b := bn) p.1 p.2 0 0 hft3 hb2
            have hdl : q8 ≤ (lostB bn p.1 p.2 0 0).length := by rw [← HQ8.out]; exact Nat.div_le_self _ _
            have hsz := HBW.out.size
            refine ⟨i + 1, by congr 1, by omega, ⟨by have := HK.out; omega⟩, ⟨?_, (((HS.out.2.below HBW.out).below (Below.trans (below_drew (Below.refl _ _)) HW8.out)).set (.inl (by rw [HAB.out]; exact HO.out)) _).set (.inl (by show ok (ad.add (i * 2)).block; rw [HAB.out]; exact HO.out)) _⟩⟩
            have := (HDW.out.below (below_drew (Below.refl _ _))).put (j := i) (by rw [upto_len, ← HM.out]; exact hlt) HW8.out HO8.out (fun k hk => HOK.out k (Nat.le_trans (Nat.le_trans HS.out.2.kept.1 hsz) hk)) (d := (q8 : Int)) ⟨by omega, by omega⟩
            rw [show ((lostB bn p.1 p.2 0 0, (q8 : Int)) : Prt) = crashF bn ls i (ps.getD i ([], 0)) by rw [HP.out]; unfold crashF; rw [HKE.out, HTO.out, HQ8.out], upto_set _ (by rw [← HM.out]; exact hlt)] at this
            exact this
    · obtain rfl : i = m := by omega
      go_wp2
      go_returns
      exact ⟨rfl, by rw [← upto_all, ← HM.out]; exact HS.out.1, HS.out.2⟩
end Go.Proofs.Ytmkjglnggkkpeaa.Dv
