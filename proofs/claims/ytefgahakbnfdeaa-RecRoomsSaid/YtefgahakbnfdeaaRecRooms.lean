/- RecRooms walks whole. -/
import Derived.Test.YtefgahakbnfdeaaRecBack
namespace Go.Proofs.Ytefgahakbnfdeaa.Rc
open Go.RowKit Go.Proofs.YtefgahakbnfdeaaW.PrintWords Go.Proofs.YtefgahakbnfdeaaW.PrintMore Go.Proofs.Ytefgahakbnfdeaa.Base
set_option linter.unusedVariables false
set_option linter.unusedSimpArgs false
/-- The item that is written again and again. -/
def nrm (x : Itm) : Itm := if x.2.2.1 = 1 then (x.1, x.2.1, 1, x.2.2.2.1, x.2.2.2.2 % 4097) else (x.1, x.2.1, 2, 0, 0)
theorem nrm_ok (x : Itm) (h : ItmOk x) : ItmOk (nrm x) ∧ may (nrm x) := by
  obtain ⟨h1, h2, h3, h4, h5⟩ := h
  unfold nrm
  split
  · exact ⟨⟨h1, h2, by dsimp only; omega, h4, by dsimp only; omega⟩, .inl ⟨by dsimp only; omega, rfl⟩⟩
  · exact ⟨⟨h1, h2, by dsimp only; omega, by dsimp only; omega, by dsimp only; omega⟩, .inr ⟨rfl, rfl, rfl⟩⟩
theorem rooms_twice (p m : Nat) (hm : m = 64 * 2 ^ (p % 7)) (h6 : ¬ p % 7 = 6) : ((rmN m : Nat) : Int) ≤ rmZ (2 * (m : Int)) := by
  have h : p % 7 = 0 ∨ p % 7 = 1 ∨ p % 7 = 2 ∨ p % 7 = 3 ∨ p % 7 = 4 ∨ p % 7 = 5 := by omega
  rcases h with h | h | h | h | h | h <;> rw [h] at hm <;> subst hm <;> decide
set_option maxRecDepth 100000 in
set_option maxHeartbeats 8000000 in
theorem rrooms_walk (w : World) (p : Nat) (hp : p < 256) (x : Itm) (hx : ItmOk x) (q : Nat) (hq : q < 18446744073709551616) :
    Calls Try.prog 7 #[.int .u8 (p : Int), .agg (itV x), .int .u64 (q : Int)] w fun e w' => e = .returned (.bool true) ∧ Below w.heap.size w w' := by
  obtain ⟨m, hm1, hm2⟩ := shl64 p
  have HSH := Aside0.mk (show wrap64 (64 * 2 ^ (p % 7)) = (m : Int) by
    have e : ((64 * 2 ^ (p % 7) : Nat) : Int) = 64 * 2 ^ (p % 7) := by simp
    rw [← e, ← hm1]
    unfold wrap64
    omega)
  have HM2 := Aside0.mk hm2
  have HM1 := Aside0.mk hm1
  have hm4096 : m ≤ 4096 := by omega
  clear hm1 hm2
  obtain ⟨y, hy⟩ : ∃ y, nrm x = y := ⟨_, rfl⟩
  have HY := Aside0.mk (show ItmOk y ∧ may y by rw [← hy]; exact nrm_ok x hx)
  have HN := Aside0.mk hy
  have HXO := Aside0.mk hx
  obtain ⟨x1, x2, x3, x4, x5⟩ := x
  have k5 : (x5 : Int) < 65536 := by have := hx.2.2.2.2; dsimp only at this; omega
  unfold itV
  dsimp only
  clear hy hx
  by_cases hk : x3 = 1
  · have hkb : ((x3 : Int) != 1) = false := by rw [hk]; rfl
    have HK := Aside0.mk (show itV y = #[.int .u32 (x1 : Int), .int .u64 (x2 : Int), .int .u8 (x3 : Int), .int .u32 (x4 : Int), .int .u16 ((x5 : Int) % 4097)] by rw [← HN.out]; unfold nrm; rw [if_pos hk, hk]; rfl)
    have HA := Aside0.mk (alloc_below w (.cells #[.int .u32 (x1 : Int), .int .u64 (x2 : Int), .int .u8 (x3 : Int), .int .u32 (x4 : Int), .int .u16 ((x5 : Int) % 4097)] 47))
    have HBK := Aside0.mk (heap_alloc_new w (.cells #[.int .u32 (x1 : Int), .int .u64 (x2 : Int), .int .u8 (x3 : Int), .int .u32 (x4 : Int), .int .u16 ((x5 : Int) % 4097)] 47))
    clear hk
    go_enter Try.func7, Try.ntmps7
    go_wp2_with fail
    rw [HSH.out]
    obtain ⟨g, hg⟩ : ∃ g, w.heap.size = g := ⟨_, rfl⟩
    obtain ⟨W, hW⟩ : ∃ W, w.alloc (.cells #[.int .u32 (x1 : Int), .int .u64 (x2 : Int), .int .u8 (x3 : Int), .int .u32 (x4 : Int), .int .u16 ((x5 : Int) % 4097)] 47) = W := ⟨_, rfl⟩
    rw [hW] at HA HBK ⊢
    rw [hg, ← HK.out] at HBK
    rw [hg]
    clear hkb hW hg HK
    obtain ⟨y1, y2, y3, y4, y5⟩ := y
    refine (room_calls (m : Int) (by omega) _).mono ?_
    rintro e w1 ⟨rfl, rfl⟩
    rw [rmZ_nat]
    obtain ⟨rm, hrm⟩ : ∃ rm, rmN m = rm := ⟨_, rfl⟩
    have hrm2 : 2 ≤ rm ∧ rm ≤ 214 := by
      rw [← hrm]
      unfold rmN
      rw [if_pos HM2.out]
      have := HM2.out
      omega
    rw [hrm]
    have HRM := Aside0.mk hrm
    have HBW := Aside0.mk (show (W.cell? ⟨g, 0, none⟩ = some (.int .u32 (y1 : Int)) ∧ W.cell? ⟨g, 1, none⟩ = some (.int .u64 (y2 : Int)) ∧ W.cell? ⟨g, 2, none⟩ = some (.int .u8 (y3 : Int)) ∧ W.cell? ⟨g, 3, none⟩ = some (.int .u32 (y4 : Int)) ∧ W.cell? ⟨g, 4, none⟩ = some (.int .u16 (y5 : Int))) from by
      have := HBK.out
      exact ⟨by simp [World.cell?, this, itV], by simp [World.cell?, this, itV], by simp [World.cell?, this, itV], by simp [World.cell?, this, itV], by simp [World.cell?, this, itV]⟩)
    clear hrm
    go_wp2
    go_loopg [9, 10] rm (fun g1 v9 v10 wr => ∃ i : Nat, v10 = .int .i64 (i : Int) ∧ i ≤ rm ∧ Aside0 (g1 + i = rm) ∧ Aside0 (OwnI wr W.heap.size v9 (List.replicate i (y1, y2, y3, y4, y5))) ∧ Aside0 (Below W.heap.size W wr))
    case atStart => exact ⟨0, rfl, by omega, ⟨rfl⟩, ⟨Kd.R_nil _ _ _ _ _⟩, ⟨Below.refl _ _⟩⟩
    case round =>
      obtain ⟨i, rfl, hi, HK, HO, HBL⟩ := hrel
      have t0 := pw_cell_below HBL.out HBW.out.1
      have t1 := pw_cell_below HBL.out HBW.out.2.1
      have t2 := pw_cell_below HBL.out HBW.out.2.2.1
      have t3 := pw_cell_below HBL.out HBW.out.2.2.2.1
      have t4 := pw_cell_below HBL.out HBW.out.2.2.2.2
      by_cases hlt : i < rm
      · have hd0 : decide ((i : Int) < (rm : Int)) = true := decide_eq_true (by omega)
        have hd0' : decide (i < rm) = true := decide_eq_true hlt
        have HLI := Aside0.mk (show (List.replicate i (y1, y2, y3, y4, y5)).length ≤ 100000 by simp; omega)
        go_wp2_with (at_builtin; (refine app_itm (w0 := W) W.heap.size (.tmp 37) (.tmp 39) rfl rfl _ (List.replicate i (y1, y2, y3, y4, y5)) (y1, y2, y3, y4, y5) rfl (by simp [Act.eval]) HY.out.1 HO.out HBL.out HBL.out.size HLI.out ?_); intro v11 w11 hR11 hB11 _; (have HR11 := Aside0.mk hR11; have HB11 := Aside0.mk hB11; clear hR11 hB11 t0 t1 t2 t3 t4))
        go_wp2
        go_roundg (gk - 1)
        case measure => have := HK.out; omega
        case rel => exact ⟨i + 1, by congr 1, by omega, ⟨by have := HK.out; omega⟩, ⟨by rw [List.replicate_succ']; exact HR11.out⟩, HB11⟩
      · obtain rfl : i = rm := by omega
        have hd0 : decide ((i : Int) < (i : Int)) = false := decide_eq_false (by omega)
        obtain ⟨A9, c9, rfl⟩ := Kd.R_slice HO.out
        rw [List.length_replicate] at HO ⊢
        go_wp2_with fail
        refine (encode_calls q hq A9 i c9 (List.replicate i (y1, y2, y3, y4, y5)) (m : Int) (by omega) _ (ownI_C HO.out).1).mono ?_
        rintro e w2 ⟨hb2, ⟨hok, v, rfl, hE⟩ | ⟨hno, -⟩⟩
        case inr => exact absurd (show ROk (List.replicate i (y1, y2, y3, y4, y5)) (m : Int) from ⟨by simp; omega, by rw [rmZ_nat, HRM.out]; simp, fun z hz => by rw [List.eq_of_mem_replicate hz]; exact HY.out.2⟩) hno
        have hml : (enc q (List.replicate i (y1, y2, y3, y4, y5)) (m : Int).toNat).length = m := by
          rw [enc_len _ _ _ (by have := rmN_le m (by rw [HRM.out]; omega); rw [HRM.out] at this; simp; omega)]
          simp
        obtain ⟨g5, c5, rfl, -, -, -, -⟩ := own_form hE (by have := HM2.out; omega)
        rw [hml]
        have HB2 := Aside0.mk (below_go HBL.out hb2)
        have HO2 := Aside0.mk (Kd.R_below HO.out hb2)
        have t0 := pw_cell_below hb2 t0
        have t1 := pw_cell_below hb2 t1
        have t2 := pw_cell_below hb2 t2
        have t3 := pw_cell_below hb2 t3
        have t4 := pw_cell_below hb2 t4
        have HLI := Aside0.mk (show (List.replicate i (y1, y2, y3, y4, y5)).length ≤ 100000 by simp; omega)
        clear hb2 hok hE hml
        go_wp2_with (at_builtin; (refine app_itm (w0 := W) W.heap.size (.tmp 51) (.tmp 53) rfl rfl _ (List.replicate i (y1, y2, y3, y4, y5)) (y1, y2, y3, y4, y5) rfl (by simp [Act.eval]) HY.out.1 HO2.out HB2.out HB2.out.size HLI.out ?_); intro v11 w11 hR11 hB11 _; (obtain ⟨A11, c11, rfl⟩ := Kd.R_slice hR11; have HR11 := Aside0.mk hR11; have HB11 := Aside0.mk hB11; clear hR11 hB11 t0 t1 t2 t3 t4))
        have HC11 := Aside0.mk (show itK.C w11 A11 (i + 1) (List.replicate i (y1, y2, y3, y4, y5) ++ [(y1, y2, y3, y4, y5)]) by
          have := (ownI_C HR11.out).1
          simpa using this)
        refine (encode_calls q hq A11 (i + 1) c11 (List.replicate i (y1, y2, y3, y4, y5) ++ [(y1, y2, y3, y4, y5)]) (m : Int) (by omega) _ HC11.out).mono ?_
        rintro e w3 ⟨hb3, ⟨hok, -⟩ | ⟨-, rfl⟩⟩
        · have h9 := hok.2.1
          rw [rmZ_nat, HRM.out] at h9
          simp at h9
          omega
        have HB3 := Aside0.mk (below_go HB11.out hb3)
        clear hb3
        go_wp2_with fail
        refine (encode_calls q hq none 0 0 [] (m : Int) (by omega) _ (Kd.C_nil itK _)).mono ?_
        rintro e w4 ⟨hb4, ⟨hok, -⟩ | ⟨-, rfl⟩⟩
        · exact absurd hok.1 (by decide)
        have HB4 := Aside0.mk (below_go HA.out (below_go HB3.out hb4))
        clear hb4
        go_wp2_with fail
        refine (known_calls _).mono ?_
        rintro e w5 ⟨rfl, hb5⟩
        have HB5 := Aside0.mk (below_go HB4.out hb5)
        clear hb5
        go_wp2_with fail
        refine (room_calls (2 * (m : Int)) (by omega) _).mono ?_
        rintro e w6 ⟨rfl, rfl⟩
        by_cases h6 : p % 7 = 6
        · have hrz : 0 ≤ rmZ (2 * (m : Int)) := by unfold rmZ; split <;> omega
          have hdd : ((p : Int) % 7) = 6 := by omega
          go_wp2
          go_ret
          exact ⟨rfl, HB5.out⟩
        · have hrz : (i : Int) ≤ rmZ (2 * (m : Int)) := by
            have h1 := rooms_twice p m HM1.out h6
            rw [HRM.out] at h1
            exact h1
          have h7 : (p : Int) % 7 = 0 ∨ (p : Int) % 7 = 1 ∨ (p : Int) % 7 = 2 ∨ (p : Int) % 7 = 3 ∨ (p : Int) % 7 = 4 ∨ (p : Int) % 7 = 5 := by omega
          clear h6
          rcases h7 with hdd | hdd | hdd | hdd | hdd | hdd
          all_goals
            go_wp2
            go_ret
            exact ⟨rfl, HB5.out⟩
  · have hkb : ((x3 : Int) != 1) = true := by rw [bne_iff_ne]; omega
    have HK := Aside0.mk (show itV y = #[.int .u32 (x1 : Int), .int .u64 (x2 : Int), .int .u8 2, .int .u32 0, .int .u16 0] by rw [← HN.out]; unfold nrm; rw [if_neg hk]; rfl)
    have HA := Aside0.mk (alloc_below w (.cells #[.int .u32 (x1 : Int), .int .u64 (x2 : Int), .int .u8 2, .int .u32 0, .int .u16 0] 47))
    have HBK := Aside0.mk (heap_alloc_new w (.cells #[.int .u32 (x1 : Int), .int .u64 (x2 : Int), .int .u8 2, .int .u32 0, .int .u16 0] 47))
    clear hk
    go_enter Try.func7, Try.ntmps7
    go_wp2_with fail
    rw [HSH.out]
    obtain ⟨g, hg⟩ : ∃ g, w.heap.size = g := ⟨_, rfl⟩
    obtain ⟨W, hW⟩ : ∃ W, w.alloc (.cells #[.int .u32 (x1 : Int), .int .u64 (x2 : Int), .int .u8 2, .int .u32 0, .int .u16 0] 47) = W := ⟨_, rfl⟩
    rw [hW] at HA HBK ⊢
    rw [hg, ← HK.out] at HBK
    rw [hg]
    clear hkb hW hg HK
    obtain ⟨y1, y2, y3, y4, y5⟩ := y
    refine (room_calls (m : Int) (by omega) _).mono ?_
    rintro e w1 ⟨rfl, rfl⟩
    rw [rmZ_nat]
    obtain ⟨rm, hrm⟩ : ∃ rm, rmN m = rm := ⟨_, rfl⟩
    have hrm2 : 2 ≤ rm ∧ rm ≤ 214 := by
      rw [← hrm]
      unfold rmN
      rw [if_pos HM2.out]
      have := HM2.out
      omega
    rw [hrm]
    have HRM := Aside0.mk hrm
    have HBW := Aside0.mk (show (W.cell? ⟨g, 0, none⟩ = some (.int .u32 (y1 : Int)) ∧ W.cell? ⟨g, 1, none⟩ = some (.int .u64 (y2 : Int)) ∧ W.cell? ⟨g, 2, none⟩ = some (.int .u8 (y3 : Int)) ∧ W.cell? ⟨g, 3, none⟩ = some (.int .u32 (y4 : Int)) ∧ W.cell? ⟨g, 4, none⟩ = some (.int .u16 (y5 : Int))) from by
      have := HBK.out
      exact ⟨by simp [World.cell?, this, itV], by simp [World.cell?, this, itV], by simp [World.cell?, this, itV], by simp [World.cell?, this, itV], by simp [World.cell?, this, itV]⟩)
    clear hrm
    go_wp2
    go_loopg [9, 10] rm (fun g1 v9 v10 wr => ∃ i : Nat, v10 = .int .i64 (i : Int) ∧ i ≤ rm ∧ Aside0 (g1 + i = rm) ∧ Aside0 (OwnI wr W.heap.size v9 (List.replicate i (y1, y2, y3, y4, y5))) ∧ Aside0 (Below W.heap.size W wr))
    case atStart => exact ⟨0, rfl, by omega, ⟨rfl⟩, ⟨Kd.R_nil _ _ _ _ _⟩, ⟨Below.refl _ _⟩⟩
    case round =>
      obtain ⟨i, rfl, hi, HK, HO, HBL⟩ := hrel
      have t0 := pw_cell_below HBL.out HBW.out.1
      have t1 := pw_cell_below HBL.out HBW.out.2.1
      have t2 := pw_cell_below HBL.out HBW.out.2.2.1
      have t3 := pw_cell_below HBL.out HBW.out.2.2.2.1
      have t4 := pw_cell_below HBL.out HBW.out.2.2.2.2
      by_cases hlt : i < rm
      · have hd0 : decide ((i : Int) < (rm : Int)) = true := decide_eq_true (by omega)
        have hd0' : decide (i < rm) = true := decide_eq_true hlt
        have HLI := Aside0.mk (show (List.replicate i (y1, y2, y3, y4, y5)).length ≤ 100000 by simp; omega)
        go_wp2_with (at_builtin; (refine app_itm (w0 := W) W.heap.size (.tmp 37) (.tmp 39) rfl rfl _ (List.replicate i (y1, y2, y3, y4, y5)) (y1, y2, y3, y4, y5) rfl (by simp [Act.eval]) HY.out.1 HO.out HBL.out HBL.out.size HLI.out ?_); intro v11 w11 hR11 hB11 _; (have HR11 := Aside0.mk hR11; have HB11 := Aside0.mk hB11; clear hR11 hB11 t0 t1 t2 t3 t4))
        go_wp2
        go_roundg (gk - 1)
        case measure => have := HK.out; omega
        case rel => exact ⟨i + 1, by congr 1, by omega, ⟨by have := HK.out; omega⟩, ⟨by rw [List.replicate_succ']; exact HR11.out⟩, HB11⟩
      · obtain rfl : i = rm := by omega
        have hd0 : decide ((i : Int) < (i : Int)) = false := decide_eq_false (by omega)
        obtain ⟨A9, c9, rfl⟩ := Kd.R_slice HO.out
        rw [List.length_replicate] at HO ⊢
        go_wp2_with fail
        refine (encode_calls q hq A9 i c9 (List.replicate i (y1, y2, y3, y4, y5)) (m : Int) (by omega) _ (ownI_C HO.out).1).mono ?_
        rintro e w2 ⟨hb2, ⟨hok, v, rfl, hE⟩ | ⟨hno, -⟩⟩
        case inr => exact absurd (show ROk (List.replicate i (y1, y2, y3, y4, y5)) (m : Int) from ⟨by simp; omega, by rw [rmZ_nat, HRM.out]; simp, fun z hz => by rw [List.eq_of_mem_replicate hz]; exact HY.out.2⟩) hno
        have hml : (enc q (List.replicate i (y1, y2, y3, y4, y5)) (m : Int).toNat).length = m := by
          rw [enc_len _ _ _ (by have := rmN_le m (by rw [HRM.out]; omega); rw [HRM.out] at this; simp; omega)]
          simp
        obtain ⟨g5, c5, rfl, -, -, -, -⟩ := own_form hE (by have := HM2.out; omega)
        rw [hml]
        have HB2 := Aside0.mk (below_go HBL.out hb2)
        have HO2 := Aside0.mk (Kd.R_below HO.out hb2)
        have t0 := pw_cell_below hb2 t0
        have t1 := pw_cell_below hb2 t1
        have t2 := pw_cell_below hb2 t2
        have t3 := pw_cell_below hb2 t3
        have t4 := pw_cell_below hb2 t4
        have HLI := Aside0.mk (show (List.replicate i (y1, y2, y3, y4, y5)).length ≤ 100000 by simp; omega)
        clear hb2 hok hE hml
        go_wp2_with (at_builtin; (refine app_itm (w0 := W) W.heap.size (.tmp 51) (.tmp 53) rfl rfl _ (List.replicate i (y1, y2, y3, y4, y5)) (y1, y2, y3, y4, y5) rfl (by simp [Act.eval]) HY.out.1 HO2.out HB2.out HB2.out.size HLI.out ?_); intro v11 w11 hR11 hB11 _; (obtain ⟨A11, c11, rfl⟩ := Kd.R_slice hR11; have HR11 := Aside0.mk hR11; have HB11 := Aside0.mk hB11; clear hR11 hB11 t0 t1 t2 t3 t4))
        have HC11 := Aside0.mk (show itK.C w11 A11 (i + 1) (List.replicate i (y1, y2, y3, y4, y5) ++ [(y1, y2, y3, y4, y5)]) by
          have := (ownI_C HR11.out).1
          simpa using this)
        refine (encode_calls q hq A11 (i + 1) c11 (List.replicate i (y1, y2, y3, y4, y5) ++ [(y1, y2, y3, y4, y5)]) (m : Int) (by omega) _ HC11.out).mono ?_
        rintro e w3 ⟨hb3, ⟨hok, -⟩ | ⟨-, rfl⟩⟩
        · have h9 := hok.2.1
          rw [rmZ_nat, HRM.out] at h9
          simp at h9
          omega
        have HB3 := Aside0.mk (below_go HB11.out hb3)
        clear hb3
        go_wp2_with fail
        refine (encode_calls q hq none 0 0 [] (m : Int) (by omega) _ (Kd.C_nil itK _)).mono ?_
        rintro e w4 ⟨hb4, ⟨hok, -⟩ | ⟨-, rfl⟩⟩
        · exact absurd hok.1 (by decide)
        have HB4 := Aside0.mk (below_go HA.out (below_go HB3.out hb4))
        clear hb4
        go_wp2_with fail
        refine (known_calls _).mono ?_
        rintro e w5 ⟨rfl, hb5⟩
        have HB5 := Aside0.mk (below_go HB4.out hb5)
        clear hb5
        go_wp2_with fail
        refine (room_calls (2 * (m : Int)) (by omega) _).mono ?_
        rintro e w6 ⟨rfl, rfl⟩
        by_cases h6 : p % 7 = 6
        · have hrz : 0 ≤ rmZ (2 * (m : Int)) := by unfold rmZ; split <;> omega
          have hdd : ((p : Int) % 7) = 6 := by omega
          go_wp2
          go_ret
          exact ⟨rfl, HB5.out⟩
        · have hrz : (i : Int) ≤ rmZ (2 * (m : Int)) := by
            have h1 := rooms_twice p m HM1.out h6
            rw [HRM.out] at h1
            exact h1
          have h7 : (p : Int) % 7 = 0 ∨ (p : Int) % 7 = 1 ∨ (p : Int) % 7 = 2 ∨ (p : Int) % 7 = 3 ∨ (p : Int) % 7 = 4 ∨ (p : Int) % 7 = 5 := by omega
          clear h6
          rcases h7 with hdd | hdd | hdd | hdd | hdd | hdd
          all_goals
            go_wp2
            go_ret
            exact ⟨rfl, HB5.out⟩
end Go.Proofs.Ytefgahakbnfdeaa.Rc
