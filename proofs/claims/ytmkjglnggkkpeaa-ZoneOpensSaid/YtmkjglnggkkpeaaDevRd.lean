/- Read of a device. -/
import Derived.Test.YtmkjglnggkkpeaaDevRead
namespace Go.Proofs.Ytmkjglnggkkpeaa.Dv
open Go.RowKit Go.Proofs.YtmkjglnggkkpeaaW.PrintWords Go.Proofs.YtmkjglnggkkpeaaW.PrintMore Go.Proofs.Ytmkjglnggkkpeaa.Base Go.Proofs.Ytmkjglnggkkpeaa.Shp
set_option linter.unusedVariables false
set_option linter.unusedSimpArgs false

def ReadR (b : Int) (ps : List Prt) (zi bi : Int) (er : Int) (bs : List UInt8) : Prop :=
  (hasB ps.length zi = false ∧ er = 100 ∧ bs = []) ∨
  (hasB ps.length zi = true ∧ ¬ (0 ≤ bi ∧ bi < ((ps.getD zi.toNat ([], 0)).1.length : Int) / b) ∧ er = 102 ∧ bs = []) ∨
  (hasB ps.length zi = true ∧ (0 ≤ bi ∧ bi < ((ps.getD zi.toNat ([], 0)).1.length : Int) / b) ∧ er = 0 ∧ bs = ((ps.getD zi.toNat ([], 0)).1.drop (bi * b).toNat).take b.toNat)

/-- What Read answers: new bytes. -/
def ReadP (w w' : World) (b : Int) (ps : List Prt) (zi bi : Int) (e : Ending) : Prop := ∃ u er bs, e = .returned (.tuple #[u, .int .u16 er]) ∧ ReadR b ps zi bi er bs ∧ Own w' w.heap.size u bs
set_option maxHeartbeats 4000000 in
theorem read_calls (xb base : Nat) (ok : Nat → Prop) (z zb b r : Int) (hrt : Rt z zb b r) (ps : List Prt) (v : Value) (zi bi : Int) (hzi : IsI zi) (hbi : IsI bi) (w : World) (h : Dev w xb base ok z zb b r ps v)
    (hsz : ∀ p ∈ ps, p.1.length ≤ 100000000) :
    Calls Try.prog 17 #[.pointer (some ⟨xb, 0, none⟩), .agg #[.int .i64 zi, .int .i64 bi]] w
      fun e w' => ReadP w w' b ps zi bi e ∧ Below w.heap.size w w' := by
  have hA := alloc_below w (.cells #[.int .i64 zi, .int .i64 bi] 40)
  have HD := Aside0.mk (h.below hA)
  have HA := Aside0.mk hA
  have HSZ := Aside0.mk hsz
  obtain ⟨hb1, hb2⟩ := pow_rng hrt.2.2.2.2.1
  have HRT := Aside0.mk hrt
  obtain ⟨hzi1, hzi2⟩ := hzi
  obtain ⟨hbi1, hbi2⟩ := hbi
  clear hA h hsz hrt
  by_cases hh : 0 ≤ zi ∧ zi < (ps.length : Int)
  · have HH := Aside0.mk (hasB_true hh.1 hh.2)
    obtain ⟨j, rfl⟩ : ∃ j : Nat, zi = (j : Int) := ⟨zi.toNat, by omega⟩
    obtain ⟨p, hp⟩ : ∃ p, ps.getD j ([], 0) = p := ⟨_, rfl⟩
    obtain ⟨ad, cp, B, k, oki, rfl, c0, c1, hk, hI, hB, -, -, -, -, -, -, -, -, -⟩ := HD.out.part (by omega) hp
    have hpm : p.1.length ≤ 100000000 := HSZ.out p (by rw [← hp, List.getD_eq_getElem?_getD, List.getElem?_eq_getElem (by omega)]; exact List.getElem_mem _)
    have HP := Aside0.mk hp
    obtain ⟨m, hm⟩ : ∃ m, ps.length = m := ⟨_, rfl⟩
    have HM := Aside0.mk hm
    obtain ⟨hh0, hh1⟩ := hh
    obtain ⟨-, -, k2, -, k4⟩ := HD.out.cells
    rw [hm] at hh1 k4
    have hmm : m ≤ 9223372036854775807 := by
      obtain ⟨_, _, _, _, e2, _, _, e3⟩ := HD.out.form
      omega
    have HBY := Aside0.mk hB
    have d0 : (w.alloc (.cells #[.int .i64 (j : Int), .int .i64 bi] 40)).cell? ⟨w.heap.size, 0, none⟩ = some (.int .i64 (j : Int)) := by go_simp
    have d1 : (w.alloc (.cells #[.int .i64 (j : Int), .int .i64 bi] 40)).cell? ⟨w.heap.size, 1, none⟩ = some (.int .i64 bi) := by go_simp
    clear hp hm hB hI
    go_enter Try.func17, Try.ntmps17
    go_wp2_with fail
    refine (has_calls xb base ok z zb b r ps _ (j : Int) ⟨by omega, by omega⟩ _ HD.out).mono ?_
    rintro e w2 ⟨rfl, rfl⟩
    rw [HH.out]
    obtain ⟨W, hW⟩ : ∃ W, w.alloc (.cells #[.int .i64 (j : Int), .int .i64 bi] 40) = W := ⟨_, rfl⟩
    obtain ⟨g, hg⟩ : ∃ g, w.heap.size = g := ⟨_, rfl⟩
    rw [hW] at HD HA c0 c1 k2 k4 d0 d1 HBY ⊢
    rw [hg] at HA d0 d1 ⊢
    have HG := Aside0.mk hg
    clear hW hg
    go_wp2
    go_region_held3 (fun w' => w'.cell? ⟨xb, 4, none⟩ = some (.slice (some ad) m cp) ∧ w'.cell? ⟨g, 0, none⟩ = some (.int .i64 (j : Int)) ∧ w'.cell? (ad.add (j * 2)) = some (.slice B p.1.length k) ∧ w'.cell? ⟨(ad.add (j * 2)).block, (ad.add (j * 2)).off + 1, none⟩ = some (.int .i64 p.2) ∧ Below W.heap.size W w')
      (first | exact ⟨k4, d0, c0, c1, below_drew (Below.refl _ _)⟩ | exact ⟨pw_cell_below (alloc_below _ _) k4, pw_cell_below (alloc_below _ _) d0, pw_cell_below (alloc_below _ _) c0, pw_cell_below (alloc_below _ _) c1, below_go (below_drew (Below.refl _ _)) (alloc_below _ _)⟩)
      (fail)
    go_split_ands
    have hbw := ‹Below W.heap.size W _›
    have HB2 := Aside0.mk hbw
    have HD2 := Aside0.mk (HD.out.below hbw)
    have HBY2 := Aside0.mk (Kd.C_below HBY.out hbw)
    have HW2 := Aside0.mk (below_then HA.out (by have h1 := HA.out.size; have h2 := HG.out; omega) hbw)
    have e0 : (W.alloc (.cells #[.slice B p.1.length k, .int .i64 p.2] 73)).drew.cell? ⟨W.heap.size, 0, none⟩ = some (.slice B p.1.length k) := by go_simp
    have e1 : (W.alloc (.cells #[.slice B p.1.length k, .int .i64 p.2] 73)).drew.cell? ⟨W.heap.size, 1, none⟩ = some (.int .i64 p.2) := by go_simp
    have d0 := pw_cell_below hbw d0
    have d1 := pw_cell_below hbw d1
    have k2 := pw_cell_below hbw k2
    clear hbw HB2 c0 c1 k4
    generalize (W.alloc (.cells #[.slice B p.1.length k, .int .i64 p.2] 73)).drew = W2 at *
    generalize W.heap.size = g2 at *
    obtain ⟨q, hq⟩ : ∃ q, (p.1.length : Int) / b = q := ⟨_, rfl⟩
    have HQ := Aside0.mk hq
    by_cases hn : bi < 0
    · go_wp2
      go_quiet (fail)
      have HW3 := Aside0.mk (pw_below_drewN HW2.out nq)
      go_wp2
      go_ret2
      exact ⟨⟨_, 102, [], rfl, .inr (.inl ⟨HH.out, fun h => by omega, rfl, rfl⟩), Own.nil _ _⟩, by rw [HG.out]; exact HW3.out⟩
    · go_wp2
      have hnd : decide (bi < 0) = false := decide_eq_false (by omega)
      go_region_held3 (fun w' => w'.cell? ⟨g, 1, none⟩ = some (.int .i64 bi) ∧ w'.cell? ⟨g2, 0, none⟩ = some (.slice B p.1.length k) ∧ w'.cell? ⟨g2, 1, none⟩ = some (.int .i64 p.2) ∧ Below W2.heap.size W2 w')
        (first | exact ⟨d1, e0, e1, below_drew (Below.refl _ _)⟩ | exact ⟨pw_cell_below hw8 (by assumption), pw_cell_below hw8 (by assumption), pw_cell_below hw8 (by assumption), below_go (below_drew (Below.refl _ _)) hw8⟩ | (go_split_ands; exact ⟨pw_cell_below hw8 (by assumption), pw_cell_below hw8 (by assumption), pw_cell_below hw8 (by assumption), below_go (by assumption) hw8⟩))
        (first | (go_at_call 35; (with_reducible refine (count_calls xb base ok z zb b r (by omega) (by omega) ps _ B p.1.length k (by omega) p.2 _ (HD2.out.below (below_drew (Below.refl _ _)))).mono ?_); rintro e w8 ⟨rfl, hw8⟩))
      go_split_ands
      have hbw := ‹Below W2.heap.size W2 _›
      have k2 := pw_cell_below hbw k2
      have HW8 := Aside0.mk (below_then HW2.out (by have h1 := HW2.out.size; have h2 := HG.out; omega) hbw)
      have HBY8 := Aside0.mk (Kd.C_below HBY2.out hbw)
      clear hbw hw8 hnd d0 d1 e0 e1 HBY2 HD2 HBY HD
      by_cases hlt : bi < q
      · have hd : ¬ q ≤ bi := by omega
        have hmul1 : q * b ≤ (p.1.length : Int) := by rw [← hq]; exact Int.ediv_mul_le _ (by omega)
        have hmul2 : (bi + 1) * b ≤ q * b := Int.mul_le_mul_of_nonneg_right (by omega) (by omega)
        have hmul3 : (bi + 1) * b = bi * b + b := by rw [Int.add_mul, Int.one_mul]
        have hmul4 : 0 ≤ bi * b := Int.mul_nonneg (by omega) (by omega)
        obtain ⟨t, ht⟩ : ∃ t : Nat, bi * b = (t : Int) := ⟨(bi * b).toNat, by omega⟩
        obtain ⟨bn, hbn⟩ : ∃ bn : Nat, b = (bn : Int) := ⟨b.toNat, by omega⟩
        have htl : t + bn ≤ p.1.length := by omega
        have ew : wrap64 (bi * (bn : Int)) = (t : Int) := by rw [← hbn, ht]; exact IntWalk.wrap64_in _ (by omega)
        obtain ⟨i0, hi0, hzz⟩ := Option.map_eq_some_iff.1 info_u8
        simp only [Prod.mk.injEq] at hzz
        have hcut := cut_mid (P := Try.prog) 32 5 .i64 .i64 Try.underlying32 hi0 1 hzz.2.1 B p.1.length k (t : Int) ((t : Int) + (bn : Int)) (by omega) (by omega) (by omega) hk
        rw [Int.toNat_natCast, show ((t : Int) + (bn : Int)).toNat - t = bn by omega] at hcut
        obtain ⟨B1, hB1⟩ : ∃ B1, (if k = t then B else B.map (·.add (t * 1))) = B1 := ⟨_, rfl⟩
        rw [hB1] at hcut
        have HCC := Aside0.mk (show byte.C _ B1 bn ((p.1.drop t).take bn) from by
          have h1 := C_drop HBY8.out hk t (by omega)
          rw [← hB1]
          exact C_take h1 bn (by omega))
        have HT := Aside0.mk ht
        have HBN := Aside0.mk hbn
        clear hmul1 hmul2 hmul3 hmul4 ht hB1 hzz hi0
        go_wp2
        go_quiet (fail)
        have HW9 := Aside0.mk (pw_below_drewN HW8.out nq)
        have HC9 := Aside0.mk (Kd.C_below HCC.out (pw_below_drewN (Below.refl _ _) nq))
        have k2 := pw_cell_below (pw_below_drewN (Below.refl w8.heap.size w8) nq) k2
        have e8 := pw_cell_below (pw_below_drewN (Below.refl w8.heap.size w8) nq) ‹w8.cell? ⟨g2, 0, none⟩ = some (.slice B p.1.length k)›
        rw [ew]
        generalize w8.drewN nq = w10 at *
        rw [hbn] at k2
        have ew2 : IntKind.i64.wrap ((t : Int) + (bn : Int)) = (t : Int) + (bn : Int) := IntWalk.i64_in _ (by omega)
        have HBI := Aside0.mk (show 0 ≤ bi ∧ bi < q from ⟨by omega, hlt⟩)
        clear ew hbn hd hlt hn
        go_wp2
        go_region_held3 (fun w' => w'.cell? ⟨xb, 2, none⟩ = some (.int .i64 (bn : Int)) ∧ w'.cell? ⟨g2, 0, none⟩ = some (.slice B p.1.length k))
          (first | exact ⟨k2, e8⟩ | exact ⟨pw_cell_below hw11 k2, pw_cell_below hw11 e8⟩)
          (first | (go_at_call 36; (with_reducible refine (clone_calls B1 bn (k - t) _ (by omega) _ (Kd.C_below HC9.out (below_drew (Below.refl _ _)))).mono ?_); rintro e w11 ⟨v11, rfl, hO11, hw11⟩))
        go_wp2
        go_ret2
        have hsz11 := HW9.out.size
        have hOw : Own w11 w.heap.size v11 ((p.1.drop t).take bn) := Kd.R_lower hO11 (show w.heap.size ≤ w10.drew.heap.size from hsz11)
        have hbi := HBI.out
        have hBel : Below w.heap.size w w11 := by
          have h1 := HW9.out
          rw [← HG.out] at h1
          exact h1.trans (below_go (below_drew (Below.refl _ _)) hw11 |>.mono hsz11)
        refine ⟨⟨v11, 0, (p.1.drop t).take bn, rfl, .inr (.inr ⟨HH.out, ?_, rfl, ?_⟩), hOw⟩, hBel⟩
        · rw [Int.toNat_natCast, HP.out, HQ.out]; exact hbi
        · rw [Int.toNat_natCast, HP.out, HT.out, Int.toNat_natCast, HBN.out, Int.toNat_natCast]
      · have hd : q ≤ bi := by omega
        go_wp2
        go_ret2
        exact ⟨⟨_, 102, [], rfl, .inr (.inl ⟨HH.out, fun h => by rw [Int.toNat_natCast, HP.out, HQ.out] at h; omega, rfl, rfl⟩), Own.nil _ _⟩, by rw [HG.out]; exact HW8.out⟩
  · have HH := Aside0.mk (hasB_false hh)
    clear hh
    go_enter Try.func17, Try.ntmps17
    go_wp2_with fail
    refine (has_calls xb base ok z zb b r ps v zi ⟨hzi1, hzi2⟩ _ HD.out).mono ?_
    rintro e w2 ⟨rfl, rfl⟩
    rw [HH.out]
    go_wp2
    go_ret2
    exact ⟨⟨_, 100, [], rfl, .inl ⟨HH.out, rfl, rfl⟩, Own.nil _ _⟩, HA.out⟩
end Go.Proofs.Ytmkjglnggkkpeaa.Dv
