/- SameBlocks, SameZones. -/
import Derived.Test.YtmkjglnggkkpeaaZones
import Derived.Laws.BytesArg
import Derived.BigQuiet
namespace Go.Proofs.Ytmkjglnggkkpeaa.Dv
open Go.RowKit Go.Shelf Go.Proofs.YtmkjglnggkkpeaaW.PrintWords Go.Proofs.YtmkjglnggkkpeaaW.PrintMore Go.Proofs.Ytmkjglnggkkpeaa.Base Go.Proofs.Ytmkjglnggkkpeaa.Shp
set_option linter.unusedVariables false
set_option linter.unusedSimpArgs false
theorem take_same {α : Type} [DecidableEq α] {xs ys : List α} {i : Nat} (d : α) (h1 : i < xs.length) (h2 : i < ys.length) (h : xs.take i = ys.take i) (he : xs.getD i d = ys.getD i d) : xs.take (i + 1) = ys.take (i + 1) := by
  rw [List.getD_eq_getElem?_getD, List.getElem?_eq_getElem h1, List.getD_eq_getElem?_getD, List.getElem?_eq_getElem h2] at he
  rw [List.take_succ_eq_append_getElem h1, List.take_succ_eq_append_getElem h2, h]
  exact congrArg _ (congrArg (· :: []) he)
theorem ne_at {α : Type} {xs ys : List α} {i : Nat} (d : α) (he : xs.getD i d ≠ ys.getD i d) : xs ≠ ys := fun e => he (by rw [e])
set_option maxHeartbeats 4000000 in
theorem sblocks_calls (A B : Option Addr) (n k c d : Nat) (xs ys : List (List UInt8)) (w : World) (h : bytesK.C w A n xs) (h2 : bytesK.C w B k ys) :
    Calls Try.prog 45 #[.slice A n c, .slice B k d] w fun e w' => e = .returned (.bool (decide (xs = ys))) ∧ ∃ m, w' = w.drewN m := by
  obtain ⟨hl, hm⟩ := C_len h
  obtain ⟨hl2, hm2⟩ := C_len h2
  have HL := Aside0.mk hl
  have HL2 := Aside0.mk hl2
  have HC := Aside0.mk h
  have HC2 := Aside0.mk h2
  clear h hl h2 hl2
  by_cases hnk : n = k
  · subst hnk
    go_enter Try.func45, Try.ntmps45
    go_wp2
    go_loopg [5] n (fun g v5 wr => ∃ i m : Nat, v5 = .int .i64 (i : Int) ∧ i ≤ n ∧ Aside0 (g + i = n) ∧ Aside0 (xs.take i = ys.take i) ∧ wr = w.drewN m)
    case atStart => exact ⟨0, 0, rfl, by omega, ⟨rfl⟩, ⟨rfl⟩, rfl⟩
    case round =>
      obtain ⟨i, m, rfl, hi, HK, HS, rfl⟩ := hrel
      by_cases hlt : i < n
      · obtain ⟨pa, A0, c0, rfl, e0, hk0, hC0⟩ := bytes_at HC.out i hlt
        obtain ⟨pb, B0, d0, rfl, f0, hj0, hD0⟩ := bytes_at HC2.out i hlt
        obtain ⟨x, hx⟩ : ∃ x, xs.getD i [] = x := ⟨_, rfl⟩
        obtain ⟨y, hy⟩ : ∃ y, ys.getD i [] = y := ⟨_, rfl⟩
        rw [hx] at e0 hk0 hC0
        rw [hy] at f0 hj0 hD0
        have HX := Aside0.mk hx
        have HY := Aside0.mk hy
        have g1 := fun k : Nat => conv_bytes (w.drewN k) A0 x.length c0 x (Kd.C_below hC0 (pw_below_drewN (Below.refl _ _) k))
        have g2 := fun k : Nat => conv_bytes (w.drewN k) B0 y.length d0 y (Kd.C_below hD0 (pw_below_drewN (Below.refl _ _) k))
        have hlt' : (i : Int) < (n : Int) := by omega
        have hd0 : decide ((i : Int) < (n : Int)) = true := decide_eq_true hlt'
        clear hx hy hC0 hD0
        by_cases hxy : x = y
        · subst hxy
          go_wp2
          go_quiet (fail)
          go_wp2
          go_roundg (gk - 1)
          case measure => have := HK.out; omega
          case rel => exact ⟨i + 1, _, by congr 1, by omega, ⟨by have := HK.out; omega⟩, ⟨take_same [] (by rw [HL.out]; exact hlt) (by rw [HL2.out]; exact hlt) HS.out (by rw [HX.out, HY.out])⟩, rfl⟩
        · have hxb : (x == y) = false := by simpa using hxy
          have HN := Aside0.mk (ne_at (xs := xs) (ys := ys) (i := i) [] (by rw [HX.out, HY.out]; exact hxy))
          clear hxy
          go_wp2
          go_quiet (fail)
          go_wp2
          go_ret
          exact ⟨by rw [decide_eq_false HN.out]; rfl, _, World.drewN_drewN _ _ _⟩
      · obtain rfl : i = n := by omega
        have hd0 : decide ((i : Int) < (i : Int)) = false := decide_eq_false (by omega)
        go_wp2
        go_ret
        have e := HS.out
        rw [List.take_of_length_le (by rw [HL.out]; omega), List.take_of_length_le (by rw [HL2.out]; omega)] at e
        exact ⟨by rw [decide_eq_true e]; rfl, _, rfl⟩
  · have hd0 : decide ((n : Int) = (k : Int)) = false := decide_eq_false (by omega)
    go_enter Try.func45, Try.ntmps45
    go_wp2
    go_ret
    exact ⟨by rw [decide_eq_false (fun e => hnk (by rw [← HL.out, ← HL2.out, e]))]; rfl, 0, rfl⟩
theorem zones_at {w : World} {A : Option Addr} {n : Nat} {xs : List Zn} (h : zoneK.C w A n xs) (i : Nat) (hi : i < n) {p : Zn} (hp : xs.getD i ([], 0) = p) :
    ∃ ad A0 c0, A = some ad ∧ w.cell? (ad.add (i * 2)) = some (.slice A0 p.1.length c0) ∧ w.cell? ⟨(ad.add (i * 2)).block, (ad.add (i * 2)).off + 1, none⟩ = some (.int .i64 p.2) ∧ p.1.length ≤ c0 ∧ bytesK.C w A0 p.1.length p.1 ∧ IsI p.2 := by
  obtain ⟨ad, c, e, _, hK, hc⟩ := ReadsRow.get_ h ([], 0) (i : Int) (by omega) (by omega)
  rw [Int.toNat_natCast] at hc hK
  rw [hp] at hK
  obtain ⟨c0, c1, rfl, ⟨A0, k, rfl, h1, h2⟩, ⟨rfl, h3⟩⟩ := hK
  refine ⟨ad, A0, k, e, ?_, ?_, h1, h2, wf_i64 h3⟩
  · exact hc 0 _ rfl
  · exact cell_fld (hc 1 _ rfl) (by omega)
set_option maxRecDepth 100000 in
set_option maxHeartbeats 4000000 in
theorem szones_calls (A B : Option Addr) (n k c d : Nat) (xs ys : List Zn) (w : World) (h : zoneK.C w A n xs) (h2 : zoneK.C w B k ys) :
    Calls Try.prog 24 #[.slice A n c, .slice B k d] w fun e w' => e = .returned (.bool (decide (xs = ys))) ∧ ∃ m, w' = w.drewN m := by
  obtain ⟨hl, hm⟩ := C_len h
  obtain ⟨hl2, hm2⟩ := C_len h2
  have HL := Aside0.mk hl
  have HL2 := Aside0.mk hl2
  have HC := Aside0.mk h
  have HC2 := Aside0.mk h2
  clear h hl h2 hl2
  by_cases hnk : n = k
  · subst hnk
    go_enter Try.func24, Try.ntmps24
    go_wp2
    go_loopg [5, 6] n (fun g v5 v6 wr => ∃ i : Nat, v5 = .int .i64 (i : Int) ∧ i ≤ n ∧ Aside0 (g + i = n) ∧ Aside0 (xs.take i = ys.take i) ∧ Aside0 (∃ m, wr = w.drewN m))
    case atStart => exact ⟨0, rfl, by omega, ⟨rfl⟩, ⟨rfl⟩, ⟨0, rfl⟩⟩
    case round =>
      obtain ⟨i, rfl, hi, HK, HS, HM⟩ := hrel
      rename World => W
      have hbw : Below w.heap.size w W := by
        obtain ⟨m, e⟩ := HM.out
        rw [e]
        exact pw_below_drewN (Below.refl _ _) m
      have HCW := Aside0.mk (Kd.C_below HC.out hbw)
      have HCW2 := Aside0.mk (Kd.C_below HC2.out hbw)
      have HM1 : ∀ k : Nat, ∃ m, W.drewN k = w.drewN m := fun k => by
        obtain ⟨m, e⟩ := HM.out
        exact ⟨_, by rw [e]; exact World.drewN_drewN _ _ _⟩
      have HM2 := Aside0.mk HM1
      clear hbw HM1
      by_cases hlt : i < n
      · obtain ⟨x, hx⟩ : ∃ x, xs.getD i ([], 0) = x := ⟨_, rfl⟩
        obtain ⟨y, hy⟩ : ∃ y, ys.getD i ([], 0) = y := ⟨_, rfl⟩
        obtain ⟨pa, A0, c0, rfl, e0, e1, hk0, hC0, -⟩ := zones_at HCW.out i hlt hx
        obtain ⟨pb, B0, d0, rfl, f0, f1, hj0, hD0, -⟩ := zones_at HCW2.out i hlt hy
        have HX := Aside0.mk hx
        have HY := Aside0.mk hy
        have HC0 := Aside0.mk hC0
        have HD0 := Aside0.mk hD0
        have hlt' : (i : Int) < (n : Int) := by omega
        have hd0 : decide ((i : Int) < (n : Int)) = true := decide_eq_true hlt'
        have q0 : ∀ v : Nat, Calls Try.prog 45 #[.slice A0 x.1.length c0, .slice B0 y.1.length d0] (W.drewN v) fun e w' => e = .returned (.bool (decide (x.1 = y.1))) ∧ ∃ m, w' = W.drewN m := fun v => (sblocks_calls A0 B0 x.1.length y.1.length c0 d0 x.1 y.1 (W.drewN v) (Kd.C_below HC0.out (pw_below_drewN (Below.refl _ _) v)) (Kd.C_below HD0.out (pw_below_drewN (Below.refl _ _) v))).mono fun e w' hh => by
          obtain ⟨h1, m, h2⟩ := hh
          exact ⟨h1, _, by rw [h2]; exact World.drewN_drewN _ _ _⟩
        clear hx hy hC0 hD0
        by_cases hxy : x.1 = y.1
        · have HXY := Aside0.mk hxy
          rw [decide_eq_true hxy] at q0
          clear hxy
          go_wp2
          go_quiet (exact q0 _)
          by_cases hd : x.2 = y.2
          · rw [hd] at e1
            go_wp2
            go_quiet (fail)
            go_wp2
            go_roundg (gk - 1)
            case measure => have := HK.out; omega
            case rel => exact ⟨i + 1, by congr 1, by omega, ⟨by have := HK.out; omega⟩, ⟨take_same ([], 0) (by rw [HL.out]; exact hlt) (by rw [HL2.out]; exact hlt) HS.out (by rw [HX.out, HY.out]; exact Prod.ext HXY.out hd)⟩, ⟨by first | exact HM2.out _ | (rw [World.drewN_drewN]; exact HM2.out _)⟩⟩
          · have hd1 : (x.2 != y.2) = true := by simpa using hd
            have HN := Aside0.mk (ne_at (xs := xs) (ys := ys) (i := i) ([], 0) (by rw [HX.out, HY.out]; exact fun e => hd (congrArg Prod.snd e)))
            clear hd
            go_wp2
            go_quiet (fail)
            go_wp2
            go_ret
            exact ⟨by rw [decide_eq_false HN.out]; rfl, by first | exact HM2.out _ | (rw [World.drewN_drewN]; exact HM2.out _)⟩
        · have HN := Aside0.mk (ne_at (xs := xs) (ys := ys) (i := i) ([], 0) (by rw [HX.out, HY.out]; exact fun e => hxy (congrArg Prod.fst e)))
          rw [decide_eq_false hxy] at q0
          clear hxy
          go_wp2
          go_quiet (exact q0 _)
          go_wp2
          go_quiet (fail)
          go_wp2
          go_ret
          exact ⟨by rw [decide_eq_false HN.out]; rfl, by first | exact HM2.out _ | (rw [World.drewN_drewN]; exact HM2.out _)⟩
      · obtain rfl : i = n := by omega
        have hd0 : decide ((i : Int) < (i : Int)) = false := decide_eq_false (by omega)
        go_wp2
        go_ret
        have e := HS.out
        rw [List.take_of_length_le (by rw [HL.out]; omega), List.take_of_length_le (by rw [HL2.out]; omega)] at e
        exact ⟨by rw [decide_eq_true e]; rfl, HM.out⟩
  · have hd0 : decide ((n : Int) = (k : Int)) = false := decide_eq_false (by omega)
    go_enter Try.func24, Try.ntmps24
    go_wp2
    go_ret
    exact ⟨by rw [decide_eq_false (fun e => hnk (by rw [← HL.out, ← HL2.out, e]))]; rfl, 0, rfl⟩
end Go.Proofs.Ytmkjglnggkkpeaa.Dv
