/- Read of the document's device. -/
import Derived.Test.YtmkjglnggkkpeaaRefFlush
namespace Go.Proofs.Ytmkjglnggkkpeaa.Dv
open Go.RowKit Go.Proofs.YtmkjglnggkkpeaaW.PrintWords Go.Proofs.YtmkjglnggkkpeaaW.PrintMore Go.Proofs.Ytmkjglnggkkpeaa.Base Go.Proofs.Ytmkjglnggkkpeaa.Shp
set_option linter.unusedVariables false
set_option linter.unusedSimpArgs false
def RReadR (zs : List Zn) (zi bi : Int) (er : Int) (bs : List UInt8) : Prop :=
  (hasB zs.length zi = false ∧ er = 100 ∧ bs = []) ∨
  (hasB zs.length zi = true ∧ ¬ (0 ≤ bi ∧ bi < (((zs.getD zi.toNat ([], 0)).1.length : Nat) : Int)) ∧ er = 102 ∧ bs = []) ∨
  (hasB zs.length zi = true ∧ (0 ≤ bi ∧ bi < (((zs.getD zi.toNat ([], 0)).1.length : Nat) : Int)) ∧ er = 0 ∧ bs = (zs.getD zi.toNat ([], 0)).1.getD bi.toNat [])
def RReadP (w w' : World) (zs : List Zn) (zi bi : Int) (e : Ending) : Prop := ∃ u er bs, e = .returned (.tuple #[u, .int .i64 er]) ∧ RReadR zs zi bi er bs ∧ Own w' w.heap.size u bs
set_option maxHeartbeats 4000000 in
theorem rread_calls (rb base : Nat) (ok : Nat → Prop) (z zb b r : Int) (zs : List Zn) (v : Value) (zi bi : Int) (hzi : IsI zi) (hbi : IsI bi) (w : World) (h : RDv w rb base ok z zb b r zs v) (hsz : ∀ p ∈ zs, ∀ x ∈ p.1, x.length ≤ 100000000) :
    Calls Try.prog 37 #[.pointer (some ⟨rb, 0, none⟩), .agg #[.int .i64 zi, .int .i64 bi]] w fun e w' => RReadP w w' zs zi bi e ∧ Below w.heap.size w w' := by
  have HA := Aside0.mk (alloc_below w (.cells #[.int .i64 zi, .int .i64 bi] 40))
  have HD := Aside0.mk (h.below HA.out)
  obtain ⟨A, m, cp, rfl, hm, hmc, hmm⟩ := h.form
  obtain ⟨hz1, hz2⟩ := hzi
  obtain ⟨hb1, hb2⟩ := hbi
  have HM := Aside0.mk hm
  have HSZ := Aside0.mk hsz
  obtain ⟨-, -, -, -, k4⟩ := HD.out.cells
  have d0 : (w.alloc (.cells #[.int .i64 zi, .int .i64 bi] 40)).cell? ⟨w.heap.size, 0, none⟩ = some (.int .i64 zi) := by go_simp
  have d1 : (w.alloc (.cells #[.int .i64 zi, .int .i64 bi] 40)).cell? ⟨w.heap.size, 1, none⟩ = some (.int .i64 bi) := by go_simp
  clear h hm hsz
  by_cases h0 : 0 ≤ zi
  · by_cases h1 : zi < (m : Int)
    · have HH := Aside0.mk (show hasB zs.length zi = true from hasB_true h0 (by rw [← HM.out]; exact h1))
      obtain ⟨j, rfl⟩ : ∃ j : Nat, zi = (j : Int) := ⟨zi.toNat, by omega⟩
      obtain ⟨p, hp⟩ : ∃ p, zs.getD j ([], 0) = p := ⟨_, rfl⟩
      obtain ⟨ad, cp', B, k, hv, c0, c1, hk, hI, hF, -, -, -, -, -, -, -, -⟩ := HD.out.zone (j := j) (by rw [← HM.out]; omega) hp
      obtain ⟨rfl, rfl⟩ : A = some ad ∧ cp = cp' := by simp only [Value.slice.injEq] at hv; exact ⟨hv.1, hv.2.2⟩
      have HF := Aside0.mk (Kd.F_now hF)
      have hpm := (C_len HF.out).2
      have HP := Aside0.mk hp
      have hd1 : decide ((j : Int) < 0) = false := decide_eq_false (by omega)
      have hd2 : decide ((m : Int) ≤ (j : Int)) = false := decide_eq_false (by omega)
      have hd3 : decide (m ≤ j) = false := decide_eq_false (by omega)
      clear hp hv hI hF hk c1
      by_cases hb0 : 0 ≤ bi
      · obtain ⟨q, rfl⟩ : ∃ q : Nat, bi = (q : Int) := ⟨bi.toNat, by omega⟩
        by_cases hbl : q < p.1.length
        · obtain ⟨pb, A0, k0, rfl, e0, hk0, hC0⟩ := bytes_at HF.out q hbl
          have HCB := Aside0.mk hC0
          have hxl : (p.1.getD q []).length ≤ 100000000 := HSZ.out p (by rw [← HP.out, List.getD_eq_getElem?_getD, List.getElem?_eq_getElem (show j < zs.length by rw [← HM.out]; omega)]; exact List.getElem_mem _) _ (by rw [List.getD_eq_getElem?_getD, List.getElem?_eq_getElem hbl]; exact List.getElem_mem _)
          obtain ⟨x, hx⟩ : ∃ x, p.1.getD q [] = x := ⟨_, rfl⟩
          rw [hx] at e0 hk0 HCB hxl
          have HXX := Aside0.mk hx
          have hd4 : decide ((q : Int) < 0) = false := decide_eq_false (by omega)
          have hd5 : decide ((p.1.length : Int) ≤ (q : Int)) = false := decide_eq_false (by omega)
          have hd6 : decide (p.1.length ≤ q) = false := decide_eq_false (by omega)
          clear hx hC0
          go_enter Try.func37, Try.ntmps37
          go_wp2
          obtain ⟨W, hW⟩ : ∃ W, w.alloc (.cells #[.int .i64 (j : Int), .int .i64 (q : Int)] 40) = W := ⟨_, rfl⟩
          obtain ⟨g, hg⟩ : ∃ g, w.heap.size = g := ⟨_, rfl⟩
          rw [hW] at HD HA HCB c0 k4 d0 d1 e0 ⊢
          rw [hg] at d0 d1 ⊢
          clear hW hg
          go_quiet (fail)
          have HA2 := Aside0.mk (pw_below_drewN HA.out nq)
          have HCB := Aside0.mk (Kd.C_below HCB.out (pw_below_drewN (Below.refl _ _) nq))
          have c0 := pw_cell_below (pw_below_drewN (Below.refl W.heap.size W) nq) c0
          have k4 := pw_cell_below (pw_below_drewN (Below.refl W.heap.size W) nq) k4
          have d0 := pw_cell_below (pw_below_drewN (Below.refl W.heap.size W) nq) d0
          have d1 := pw_cell_below (pw_below_drewN (Below.refl W.heap.size W) nq) d1
          have e0 := pw_cell_below (pw_below_drewN (Below.refl W.heap.size W) nq) e0
          generalize W.drewN nq = W2 at *
          go_wp2
          go_quiet (fail)
          have HA3 := Aside0.mk (pw_below_drewN HA2.out nq)
          have HCB := Aside0.mk (Kd.C_below HCB.out (pw_below_drewN (Below.refl _ _) nq))
          have c0 := pw_cell_below (pw_below_drewN (Below.refl W2.heap.size W2) nq) c0
          have k4 := pw_cell_below (pw_below_drewN (Below.refl W2.heap.size W2) nq) k4
          have d0 := pw_cell_below (pw_below_drewN (Below.refl W2.heap.size W2) nq) d0
          have d1 := pw_cell_below (pw_below_drewN (Below.refl W2.heap.size W2) nq) d1
          have e0 := pw_cell_below (pw_below_drewN (Below.refl W2.heap.size W2) nq) e0
          generalize W2.drewN nq = W3 at *
          go_wp2
          go_region_held3 (fun w' => w'.cell? ⟨rb, 4, none⟩ = some (.slice (some ad) m cp) ∧ w'.cell? ⟨g, 0, none⟩ = some (.int .i64 (j : Int)) ∧ w'.cell? ⟨g, 1, none⟩ = some (.int .i64 (q : Int)) ∧ w'.cell? (ad.add (j * 2)) = some (.slice (some pb) p.1.length k) ∧ w'.cell? (pb.add q) = some (.slice A0 x.length k0))
            (first | exact ⟨k4, d0, d1, c0, e0⟩ | exact ⟨pw_cell_below hw8 k4, pw_cell_below hw8 d0, pw_cell_below hw8 d1, pw_cell_below hw8 c0, pw_cell_below hw8 e0⟩)
            (first | (go_at_call 50; (with_reducible refine (lent_calls A0 x.length k0 x (by omega) _ (Kd.C_below HCB.out (below_drew (Below.refl _ _)))).mono ?_); rintro e w8 ⟨v8, rfl, hO8, hw8⟩))
          go_wp2
          go_ret2
          have hsz := HA3.out.size
          exact ⟨⟨v8, 0, x, rfl, .inr (.inr ⟨HH.out, by rw [Int.toNat_natCast, HP.out]; exact ⟨by omega, by omega⟩, rfl, by rw [Int.toNat_natCast, Int.toNat_natCast, HP.out, HXX.out]⟩), Kd.R_lower hO8 (show w.heap.size ≤ W3.drew.heap.size from hsz)⟩, HA3.out.trans ((below_drew (Below.refl _ _)).trans hw8 |>.mono hsz)⟩
        · have HBL := Aside0.mk hbl
          have hd4 : decide ((q : Int) < 0) = false := decide_eq_false (by omega)
          have hd5 : decide ((p.1.length : Int) ≤ (q : Int)) = true := decide_eq_true (by omega)
          have hd6 : decide (p.1.length ≤ q) = true := decide_eq_true (by omega)
          go_enter Try.func37, Try.ntmps37
          go_wp2
          obtain ⟨W, hW⟩ : ∃ W, w.alloc (.cells #[.int .i64 (j : Int), .int .i64 (q : Int)] 40) = W := ⟨_, rfl⟩
          obtain ⟨g, hg⟩ : ∃ g, w.heap.size = g := ⟨_, rfl⟩
          rw [hW] at HD HA c0 k4 d0 d1 ⊢
          rw [hg] at d0 d1 ⊢
          clear hW hg
          go_quiet (fail)
          have HA2 := Aside0.mk (pw_below_drewN HA.out nq)
          have c0 := pw_cell_below (pw_below_drewN (Below.refl W.heap.size W) nq) c0
          have k4 := pw_cell_below (pw_below_drewN (Below.refl W.heap.size W) nq) k4
          have d0 := pw_cell_below (pw_below_drewN (Below.refl W.heap.size W) nq) d0
          have d1 := pw_cell_below (pw_below_drewN (Below.refl W.heap.size W) nq) d1
          generalize W.drewN nq = W2 at *
          go_wp2
          go_quiet (fail)
          have HA3 := Aside0.mk (pw_below_drewN HA2.out nq)
          go_wp2
          go_ret2
          exact ⟨⟨_, 102, [], rfl, .inr (.inl ⟨HH.out, by rw [Int.toNat_natCast, HP.out]; have := HBL.out; omega, rfl, rfl⟩), Own.nil _ _⟩, HA3.out⟩
      · have HB0 := Aside0.mk hb0
        have hd4 : decide (bi < 0) = true := decide_eq_true (by omega)
        go_enter Try.func37, Try.ntmps37
        go_wp2
        obtain ⟨W, hW⟩ : ∃ W, w.alloc (.cells #[.int .i64 (j : Int), .int .i64 bi] 40) = W := ⟨_, rfl⟩
        obtain ⟨g, hg⟩ : ∃ g, w.heap.size = g := ⟨_, rfl⟩
        rw [hW] at HD HA c0 k4 d0 d1 ⊢
        rw [hg] at d0 d1 ⊢
        clear hW hg
        go_quiet (fail)
        have HA2 := Aside0.mk (pw_below_drewN HA.out nq)
        have c0 := pw_cell_below (pw_below_drewN (Below.refl W.heap.size W) nq) c0
        have k4 := pw_cell_below (pw_below_drewN (Below.refl W.heap.size W) nq) k4
        have d0 := pw_cell_below (pw_below_drewN (Below.refl W.heap.size W) nq) d0
        have d1 := pw_cell_below (pw_below_drewN (Below.refl W.heap.size W) nq) d1
        generalize W.drewN nq = W2 at *
        go_wp2
        go_quiet (fail)
        have HA3 := Aside0.mk (pw_below_drewN HA2.out nq)
        go_wp2
        go_ret2
        exact ⟨⟨_, 102, [], rfl, .inr (.inl ⟨HH.out, fun h => by have := HB0.out; omega, rfl, rfl⟩), Own.nil _ _⟩, HA3.out⟩
    · have HH := Aside0.mk (show hasB zs.length zi = false from hasB_false (fun h => h1 (by rw [HM.out]; exact h.2)))
      have hd1 : decide (zi < 0) = false := decide_eq_false (by omega)
      have hd2 : decide ((m : Int) ≤ zi) = true := decide_eq_true (by omega)
      go_enter Try.func37, Try.ntmps37
      go_wp2
      go_quiet (fail)
      have HA2 := Aside0.mk (pw_below_drewN HA.out nq)
      go_wp2
      go_ret2
      exact ⟨⟨_, 100, [], rfl, .inl ⟨HH.out, rfl, rfl⟩, Own.nil _ _⟩, HA2.out⟩
  · have HH := Aside0.mk (show hasB zs.length zi = false from hasB_false (fun h => h0 h.1))
    have hd1 : decide (zi < 0) = true := decide_eq_true (by omega)
    go_enter Try.func37, Try.ntmps37
    go_wp2
    go_quiet (fail)
    have HA2 := Aside0.mk (pw_below_drewN HA.out nq)
    go_wp2
    go_ret2
    exact ⟨⟨_, 100, [], rfl, .inl ⟨HH.out, rfl, rfl⟩, Own.nil _ _⟩, HA2.out⟩
end Go.Proofs.Ytmkjglnggkkpeaa.Dv
