/- RecTorn walks whole. Written by genrectorn.py. -/
import Derived.Test.YtefgahakbnfdeaaDoorRecChecks
import Derived.Test.YtefgahakbnfdeaaDoorRecOpn
namespace Go.Proofs.YtefgahakbnfdeaaDoor.Rc
open Go.RowKit Go.Proofs.YtefgahakbnfdeaaDoorW.PrintWords Go.Proofs.YtefgahakbnfdeaaDoorW.PrintMore Go.Proofs.YtefgahakbnfdeaaDoor.Base
set_option linter.unusedVariables false
set_option linter.unusedSimpArgs false
attribute [local go_sem] max2_mx max_two
theorem shl64 (p : Nat) : ∃ m : Nat, m = 64 * 2 ^ (p % 7) ∧ (m = 64 ∨ m = 128 ∨ m = 256 ∨ m = 512 ∨ m = 1024 ∨ m = 2048 ∨ m = 4096) := by
  refine ⟨_, rfl, ?_⟩
  have h : p % 7 = 0 ∨ p % 7 = 1 ∨ p % 7 = 2 ∨ p % 7 = 3 ∨ p % 7 = 4 ∨ p % 7 = 5 ∨ p % 7 = 6 := by omega
  rcases h with h | h | h | h | h | h | h <;> rw [h] <;> decide
theorem itK_oks {w : World} {A : Option Addr} {n : Nat} {l : List Itm} (h : itK.C w A n l) : ∀ x ∈ l, ItmOk x := by
  intro x hx
  obtain ⟨i, hi, rfl⟩ := List.mem_iff_getElem.1 hx
  obtain ⟨_, _, hok, _⟩ := itm_at h (0, 0, 0, 0, 0) i (by have := h.1; omega)
  rw [List.getD_eq_getElem?_getD, List.getElem?_eq_getElem hi] at hok
  exact hok
theorem own_Cs {w : World} {b : Nat} {A : Option Addr} {n c : Nat} {xs : List UInt8} (h : Base.Own w b (.slice A n c) xs) : byte.C w A n xs := by
  obtain ⟨A', n', c', he, hc, hC⟩ := h.reads
  simp only [Value.slice.injEq] at he
  obtain ⟨rfl, rfl, rfl⟩ := he
  exact hC
/-- xs with noughts from the place s up to the place i. -/
def Tn (xs : List UInt8) (s i : Nat) (T : List UInt8) : Prop := T.length = xs.length ∧ ∀ j, T.getD j 0 = if s ≤ j ∧ j < i then 0 else xs.getD j 0
theorem Tn.start (xs : List UInt8) (s : Nat) : Tn xs s s xs := ⟨rfl, fun j => by rw [if_neg (by omega)]⟩
theorem Tn.step {xs T : List UInt8} {s i : Nat} (h : Tn xs s i T) (hs : s ≤ i) (hi : i < xs.length) : Tn xs s (i + 1) (T.set i 0) := by
  obtain ⟨h1, h2⟩ := h
  refine ⟨by rw [List.length_set, h1], fun j => ?_⟩
  have h3 := h2 j
  rw [List.getD_eq_getElem?_getD] at h3 ⊢
  rw [List.getElem?_set]
  by_cases hj : i = j
  · subst hj
    rw [if_pos rfl, if_pos (by omega), if_pos (by omega)]
    rfl
  · rw [if_neg hj, h3]
    by_cases hc : s ≤ j ∧ j < i
    · rw [if_pos hc, if_pos (by omega)]
    · rw [if_neg hc, if_neg (by omega)]
theorem ends_low {T : List UInt8} {s : Nat} : ∀ n, (∀ j, s ≤ j → j < n → T.getD j 0 = 0) → endsAt T n ≤ s
  | 0, _ => Nat.zero_le _
  | n + 1, h => by
    have ih := ends_low n (fun j h1 h2 => h j h1 (by omega))
    unfold endsAt
    by_cases hz : T.getD n 0 = 0
    · rw [if_pos hz]; exact ih
    · rw [if_neg hz]
      by_cases hs : s ≤ n
      · exact absurd (h n hs (by omega)) hz
      · omega
theorem ends_high {T : List UInt8} {j : Nat} (hj : T.getD j 0 ≠ 0) : ∀ n, j < n → j + 1 ≤ endsAt T n
  | 0, h => by omega
  | n + 1, h => by
    unfold endsAt
    by_cases hz : T.getD n 0 = 0
    · rw [if_pos hz]
      by_cases hjn : j = n
      · subst hjn; exact absurd hz hj
      · exact ends_high hj n (by omega)
    · rw [if_neg hz]; omega
theorem ends_torn {xs T : List UInt8} {s n : Nat} (h : Tn xs s n T) (hn : xs.length = n) (j : Nat) (hs : s ≤ j) (hj : j < n) (hz : xs.getD j 0 ≠ 0) : endsAt T n < endsAt xs n := by
  have h1 := ends_low (T := T) (s := s) n (fun j h1 h2 => by rw [h.2 j, if_pos ⟨h1, h2⟩])
  have h2 := ends_high hz n hj
  omega
theorem torn_no {xs T : List UInt8} {s n : Nat} (h : Tn xs s n T) (hn : xs.length = n) (hs : s < n) : ¬ RecIs T := fun hr => by
  have h1 := recIs_last hr
  rw [h.2, h.1, hn, if_pos (by omega)] at h1
  exact absurd h1 (by decide)
set_option maxRecDepth 100000 in
set_option maxHeartbeats 8000000 in
theorem rtorn_walk (w : World) (q : Nat) (hq : q < 18446744073709551616) (A : Option Addr) (n c : Nat) (l : List Itm) (h : itK.C w A n l) (p : Nat) (hp : p < 256)
    (Ad : Option Addr) (dn cap : Nat) (xs : List UInt8) (hcap : dn ≤ cap) (hd : byte.C w Ad dn xs) (hcm : cap ≤ 9223372036854775807) (k : Int) (hk : -9223372036854775808 ≤ k ∧ k ≤ 9223372036854775807) :
    Calls Tryd.prog 4 #[.agg #[.int .u64 (q : Int), .slice A n c], .int .u8 (p : Int), .slice Ad dn cap, .int .i64 k] w fun e w' => e = .returned (.bool true) ∧ Below w.heap.size w w' := by
  obtain ⟨hl, hm⟩ := C_len h
  obtain ⟨hdl, hdm⟩ := C_len hd
  have HL := Aside0.mk hl
  have HDL := Aside0.mk hdl
  have HC := Aside0.mk h
  have HD := Aside0.mk hd
  have HA := Aside0.mk (alloc_below w (.cells #[.int .u64 (q : Int), .slice A n c] 35))
  clear h hl hd hdl
  obtain ⟨m, hm1, hm2⟩ := shl64 p
  have HSH := Aside0.mk (show wrap64 (64 * 2 ^ (p % 7)) = (m : Int) by
    have e : ((64 * 2 ^ (p % 7) : Nat) : Int) = 64 * 2 ^ (p % 7) := by simp
    rw [← e, ← hm1]
    unfold wrap64
    omega)
  have HM2 := Aside0.mk hm2
  have hm4096 : m ≤ 4096 := by omega
  clear hm1 hm2
  by_cases h3 : 300 < n
  · have hd : decide ((300 : Int) < (n : Int)) = true := decide_eq_true (by omega)
    have hd' : decide (300 < n) = true := decide_eq_true (by omega)
    clear h3
    go_enter Tryd.func4, Tryd.ntmps4
    go_wp2_with fail
    refine (known_calls _).mono ?_
    rintro e w1 ⟨rfl, hb1⟩
    have HB1 := Aside0.mk (below_go HA.out hb1)
    clear hb1
    go_wp2
    go_ret
    exact ⟨rfl, HB1.out⟩
  have hd : decide ((300 : Int) < (n : Int)) = false := decide_eq_false (by omega)
  have hd' : decide (300 < n) = false := decide_eq_false (by omega)
  have hn3 : n ≤ 300 := by omega
  clear h3
  by_cases h5 : 5000 < dn
  · have he : decide ((5000 : Int) < (dn : Int)) = true := decide_eq_true (by omega)
    have he' : decide (5000 < dn) = true := decide_eq_true (by omega)
    clear h5
    go_enter Tryd.func4, Tryd.ntmps4
    go_wp2_with fail
    refine (known_calls _).mono ?_
    rintro e w1 ⟨rfl, hb1⟩
    have HB1 := Aside0.mk (below_go HA.out hb1)
    clear hb1
    go_wp2
    go_ret
    exact ⟨rfl, HB1.out⟩
  have he : decide ((5000 : Int) < (dn : Int)) = false := decide_eq_false (by omega)
  have he' : decide (5000 < dn) = false := decide_eq_false (by omega)
  have hn5 : dn ≤ 5000 := by omega
  clear h5
  go_enter Tryd.func4, Tryd.ntmps4
  go_wp2_with fail
  rw [HSH.out]
  refine (known_calls _).mono ?_
  rintro e w1 ⟨rfl, hb1⟩
  have HB1 := Aside0.mk (below_go HA.out hb1)
  have hr : w1.heap[w.heap.size]? = some (.cells #[.int .u64 (q : Int), .slice A n c] 35 (0, 0)) := blk_old hb1 (blk_here rfl)
  obtain ⟨g, hg⟩ : ∃ g, w.heap.size = g := ⟨_, rfl⟩
  rw [hg] at hr ⊢
  have r0 : w1.cell? ⟨g, 0, none⟩ = some (.int .u64 (q : Int)) := by simp [World.cell?, hr]
  have r1 : w1.cell? ⟨g, 1, none⟩ = some (.slice A n c) := by simp [World.cell?, hr]
  have HG := Aside0.mk hg
  clear hb1 hd hd' he he' hr hg
  go_wp2_with fail
  refine (encode_calls q hq A n c l (m : Int) (by omega) _ (Kd.C_below HC.out HB1.out)).mono ?_
  rintro e w2 ⟨hb2, ⟨hok, v, rfl, hO⟩ | ⟨hno, rfl⟩⟩
  · rw [Int.toNat_natCast] at hO
    have hok' := hok
    unfold ROk at hok'
    rw [rmZ_nat] at hok'
    have hrk : RecOk q l m := ⟨hok'.1, by omega, hok'.2.2⟩
    have hml : (enc q l m).length = m := enc_len _ _ _ (by have := rmN_le m (by have := hrk.1; have := hrk.2.1; omega); have := hrk.2.1; omega)
    have hm64 : 64 ≤ m := by have := HM2.out; omega
    obtain ⟨bb, hbb⟩ : ∃ bb, enc q l m = bb := ⟨_, rfl⟩
    rw [hbb] at hO hml
    have HBL := Aside0.mk hml
    obtain ⟨g5, c5, rfl, hg5, hg5', hc5, hc5m⟩ := own_form hO (by omega)
    rw [hml] at hO hc5 ⊢
    have HO := Aside0.mk (show Base.Own w2 w.heap.size (.slice (some ⟨g5, 0, none⟩) m c5) bb from Kd.R_lower hO HB1.out.size)
    have HG5 := Aside0.mk (show w.heap.size ≤ g5 by have := HB1.out.size; omega)
    have HB2 := Aside0.mk (below_go HB1.out hb2)
    obtain ⟨at_, hat, hatm⟩ : ∃ at_ : Nat, (mx k 0).tmod (m : Int) = (at_ : Int) ∧ at_ < m := by
      obtain ⟨u, hu⟩ := Int.eq_ofNat_of_zero_le (mx0 k hk.2).1
      refine ⟨u % m, ?_, Nat.mod_lt _ (by omega)⟩
      rw [hu, Int.ofNat_tmod]
    clear hb2 hok hok' hrk hml hbb hO hg5 hg5' r0 r1
    go_wp2
    clear hat
    go_loopg [12] (m - at_) (fun g1 v12 wr => ∃ i : Nat, v12 = .int .i64 (i : Int) ∧ i ≤ m ∧ Aside0 (g1 + i = m) ∧ Aside0 (at_ ≤ i) ∧ Aside0 (∃ T, Tn bb at_ i T ∧ Base.Own wr w.heap.size (.slice (some ⟨g5, 0, none⟩) m c5) T) ∧ Aside0 (Below w.heap.size w wr))
    case atStart => exact ⟨at_, rfl, by omega, ⟨by omega⟩, ⟨Nat.le_refl _⟩, ⟨bb, Tn.start _ _, HO.out⟩, HB2⟩
    case round =>
      obtain ⟨i, rfl, hi, HK, HAI, HO, HBW⟩ := hrel
      by_cases hlt : i < m
      · have hd0 : decide ((i : Int) < (m : Int)) = true := decide_eq_true (by omega)
        have hd0' : decide (i < m) = true := decide_eq_true hlt
        obtain ⟨T, hT, hOT⟩ := HO.out
        obtain ⟨g', n', c', he, -, hbg, e0, z0, hO2⟩ := hOT.store i (by rw [hT.1, HBL.out]; exact hlt) 0
        simp only [Value.slice.injEq, Option.some.injEq, Addr.mk.injEq, and_true] at he
        obtain ⟨rfl, -, -⟩ := he
        have HO2 := Aside0.mk hO2
        have HT2 := Aside0.mk (hT.step HAI.out (by rw [HBL.out]; exact hlt))
        clear hO2 hbg hT hOT
        go_wp2
        go_roundg (gk - 1)
        case measure => have := HK.out; omega
        case rel => exact ⟨i + 1, by congr 1, by omega, ⟨by have := HK.out; omega⟩, ⟨by have := HAI.out; omega⟩, ⟨_, HT2.out, HO2.out⟩, ⟨HBW.out.setCell HG5.out _⟩⟩
      · obtain rfl : i = m := by omega
        have hd0 : decide ((i : Int) < (i : Int)) = false := decide_eq_false (by omega)
        obtain ⟨T, hT, hOT⟩ := HO.out
        have HNT := Aside0.mk (torn_no hT HBL.out hatm)
        have HOT := Aside0.mk hOT
        clear hT hOT
        go_wp2_with fail
        refine (decode_calls _ i c5 T _ (own_C HOT.out) hc5 hc5m (by omega)).mono ?_
        rintro e w3 ⟨hb3, ⟨his, -⟩ | ⟨-, rfl⟩⟩
        · exact absurd his HNT.out
        have HB3 := Aside0.mk (below_alloc (below_go HBW.out hb3) (.cells #[.int .u64 0, .slice none 0 0] 35))
        clear hb3
        have HDW := Aside0.mk (Kd.C_below HD.out HB3.out)
        obtain ⟨at2, hat2, hatm2⟩ : ∃ at2 : Nat, (mx k 0).tmod ((dn : Int) + 1) = (at2 : Int) ∧ at2 ≤ dn := by
          obtain ⟨u, hu⟩ := Int.eq_ofNat_of_zero_le (mx0 k hk.2).1
          refine ⟨u % (dn + 1), ?_, by have := Nat.mod_lt u (show 0 < dn + 1 by omega); omega⟩
          rw [hu, show ((dn : Int) + 1) = ((dn + 1 : Nat) : Int) from by omega, Int.ofNat_tmod]
        go_wp2_with (at_builtin; refine app_row (w0 := w) w.heap.size (.tmp 65) (.tmp 66) rfl rfl _ [] xs Ad dn cap rfl rfl (Own.nil _ _) HDW.out HB3.out HB3.out.size (by simp; omega) ?_; intro v5 w5 hO hB _; have HO5 := Aside0.mk hO; have HB5 := Aside0.mk hB; clear hO hB)
        obtain ⟨A9, n9, c9, rfl, hc9, hC9⟩ := HO5.out.reads
        obtain rfl : dn = n9 := by have := hC9.1; have := HDL.out; simp at *; omega
        have HO5 := Aside0.mk (show Base.Own w5 w.heap.size (.slice A9 dn c9) xs from HO5.out)
        clear hC9 hat2
        go_loopg [16, 17] (dn - at2) (fun g1 v16 v17 wr => ∃ (i : Nat) (sm : Bool), v16 = .bool sm ∧ v17 = .int .i64 (i : Int) ∧ i ≤ dn ∧ Aside0 (g1 + i = dn) ∧ Aside0 (at2 ≤ i) ∧ Aside0 (sm = true ∨ ∃ j, at2 ≤ j ∧ j < i ∧ xs.getD j 0 ≠ 0) ∧ Aside0 (∃ T, Tn xs at2 i T ∧ Base.Own wr w.heap.size (.slice A9 dn c9) T) ∧ Aside0 (Below w.heap.size w wr))
        case atStart => exact ⟨at2, true, rfl, rfl, by omega, ⟨by omega⟩, ⟨Nat.le_refl _⟩, ⟨.inl rfl⟩, ⟨xs, Tn.start _ _, HO5.out⟩, HB5⟩
        case round =>
          obtain ⟨i, sm, rfl, rfl, hi, HK, HAI, HSM, HO, HBW⟩ := hrel
          obtain ⟨T, hT, hOT⟩ := HO.out
          clear HO
          by_cases hlt : i < dn
          · have hd0 : decide ((i : Int) < (dn : Int)) = true := decide_eq_true (by omega)
            have hd0' : decide (i < dn) = true := decide_eq_true hlt
            obtain ⟨g', n', c', he, -, hbg, e0, z0, hO2⟩ := hOT.store i (by rw [hT.1, HDL.out]; exact hlt) 0
            simp only [Value.slice.injEq] at he
            obtain ⟨rfl, -, -⟩ := he
            obtain ⟨z, hz⟩ : ∃ z, T.getD i 0 = z := ⟨_, rfl⟩
            have HZ := Aside0.mk (show xs.getD i 0 = z by rw [← hz, hT.2 i, if_neg (by omega)])
            rw [hz] at e0
            have HO2 := Aside0.mk hO2
            have HT2 := Aside0.mk (hT.step HAI.out (by rw [HDL.out]; exact hlt))
            have HBG := Aside0.mk hbg
            obtain ⟨zb, hzb⟩ : ∃ zb, ((z.toNat : Int) == 0) = zb := ⟨_, rfl⟩
            have HZB := Aside0.mk hzb
            clear hO2 hbg hT hOT hz
            cases sm with
            | false =>
              clear hzb
              go_wp2
              go_roundg (gk - 1)
              case measure => have := HK.out; omega
              case rel => exact ⟨i + 1, false, rfl, by congr 1, by omega, ⟨by have := HK.out; omega⟩, ⟨by have := HAI.out; omega⟩, ⟨by
                rcases HSM.out with hh | ⟨j, h1, h2, h3⟩
                · cases hh
                · exact .inr ⟨j, h1, by omega, h3⟩⟩, ⟨_, HT2.out, HO2.out⟩, ⟨HBW.out.setCell HBG.out _⟩⟩
            | true =>
              go_wp2
              go_roundg (gk - 1)
              case measure => have := HK.out; omega
              case rel => exact ⟨i + 1, zb, rfl, by congr 1, by omega, ⟨by have := HK.out; omega⟩, ⟨by have := HAI.out; omega⟩, ⟨by
                cases zb with
                | true => exact .inl rfl
                | false => exact .inr ⟨i, HAI.out, by omega, fun hh => by have := HZB.out; rw [HZ.out] at hh; rw [hh] at this; cases this⟩⟩, ⟨_, HT2.out, HO2.out⟩, ⟨HBW.out.setCell HBG.out _⟩⟩
          · obtain rfl : i = dn := by omega
            have hd0 : decide ((i : Int) < (i : Int)) = false := decide_eq_false (by omega)
            have HT := Aside0.mk hT
            have HOT := Aside0.mk hOT
            have HDC := Aside0.mk (Kd.C_below HD.out HBW.out)
            clear hT hOT
            go_wp2_with fail
            refine (ends_calls Ad i cap xs _ HDC.out hcap).mono ?_
            rintro e w6 ⟨rfl, hb6⟩
            obtain ⟨E1, hE1⟩ : ∃ E1, endsAt xs i = E1 := ⟨_, rfl⟩
            have hle : E1 ≤ 5000 := by rw [← hE1]; have := endsAt_le xs i; omega
            rw [hE1]
            have HE1 := Aside0.mk hE1
            have HB6 := Aside0.mk (below_go HBW.out hb6)
            have HO6 := Aside0.mk (HOT.out.below hb6)
            have hwe : IntKind.u16.wrap (E1 : Int) = (E1 : Int) := by unfold IntKind.wrap; simp [IntKind.signed, IntKind.bits]; omega
            clear hb6 hE1
            cases sm with
            | true =>
              go_wp2
              go_ret
              exact ⟨rfl, below_alloc HB6.out _⟩
            | false =>
              obtain ⟨E2, hE2⟩ : ∃ E2, endsAt T i = E2 := ⟨_, rfl⟩
              have hlt : E2 < E1 := by
                rcases HSM.out with hh | ⟨j, h1, h2, h3⟩
                · cases hh
                · rw [← hE2, ← HE1.out]
                  exact ends_torn HT.out HDL.out j h1 h2 h3
              have HE2 := Aside0.mk hE2
              have HNO := Aside0.mk (show decide (ChkIs (0, 0, 1, 0, E1) T) = false from decide_eq_false (fun hh => by
                have h1 : E1 = endsAt T T.length := hh.2.2
                rw [HT.out.1, HDL.out, HE2.out] at h1
                omega))
              have hdl : decide ((E2 : Int) < (E1 : Int)) = true := decide_eq_true (by omega)
              have hdl' : decide (E2 < E1) = true := decide_eq_true hlt
              have HB7 := Aside0.mk (below_alloc HB6.out (.cells #[.int .u32 0, .int .u64 0, .int .u8 1, .int .u32 0, .int .u16 (E1 : Int)] 26))
              have HO7 := Aside0.mk (HO6.out.below (alloc_below w6 (.cells #[.int .u32 0, .int .u64 0, .int .u8 1, .int .u32 0, .int .u16 (E1 : Int)] 26)))
              clear hE2
              go_wp2_with fail
              refine (check_calls (0, 0, 1, 0, E1) A9 i c9 T _ (by unfold ItmOk; dsimp only; omega) (own_Cs HO7.out) hc9).mono ?_
              rintro e w8 ⟨rfl, hb8⟩
              rw [HNO.out]
              have HB8 := Aside0.mk (below_go HB7.out hb8)
              have HO8 := Aside0.mk (HO7.out.below hb8)
              have HD8 := Aside0.mk (Kd.C_below HD.out HB8.out)
              clear hb8
              go_wp2_with fail
              refine (ends_calls A9 i c9 T _ (own_Cs HO8.out) hc9).mono ?_
              rintro e w9 ⟨rfl, hb9⟩
              rw [HE2.out]
              have HB9 := Aside0.mk (below_go HB8.out hb9)
              have HD9 := Aside0.mk (Kd.C_below HD.out HB9.out)
              clear hb9
              go_wp2_with fail
              refine (ends_calls Ad i cap xs _ HD9.out hcap).mono ?_
              rintro e w10 ⟨rfl, hb10⟩
              rw [HE1.out]
              have HB10 := Aside0.mk (below_go HB9.out hb10)
              clear hb10
              go_wp2
              go_ret
              exact ⟨rfl, HB10.out⟩
  · have HB3 := Aside0.mk (below_go HB1.out hb2)
    clear hb2 r0 r1
    have HDW := Aside0.mk (Kd.C_below HD.out HB3.out)
    obtain ⟨at2, hat2, hatm2⟩ : ∃ at2 : Nat, (mx k 0).tmod ((dn : Int) + 1) = (at2 : Int) ∧ at2 ≤ dn := by
      obtain ⟨u, hu⟩ := Int.eq_ofNat_of_zero_le (mx0 k hk.2).1
      refine ⟨u % (dn + 1), ?_, by have := Nat.mod_lt u (show 0 < dn + 1 by omega); omega⟩
      rw [hu, show ((dn : Int) + 1) = ((dn + 1 : Nat) : Int) from by omega, Int.ofNat_tmod]
    go_wp2_with (at_builtin; refine app_row (w0 := w) w.heap.size (.tmp 65) (.tmp 66) rfl rfl _ [] xs Ad dn cap rfl rfl (Own.nil _ _) HDW.out HB3.out HB3.out.size (by simp; omega) ?_; intro v5 w5 hO hB _; have HO5 := Aside0.mk hO; have HB5 := Aside0.mk hB; clear hO hB)
    obtain ⟨A9, n9, c9, rfl, hc9, hC9⟩ := HO5.out.reads
    obtain rfl : dn = n9 := by have := hC9.1; have := HDL.out; simp at *; omega
    have HO5 := Aside0.mk (show Base.Own w5 w.heap.size (.slice A9 dn c9) xs from HO5.out)
    clear hC9 hat2
    go_loopg [16, 17] (dn - at2) (fun g1 v16 v17 wr => ∃ (i : Nat) (sm : Bool), v16 = .bool sm ∧ v17 = .int .i64 (i : Int) ∧ i ≤ dn ∧ Aside0 (g1 + i = dn) ∧ Aside0 (at2 ≤ i) ∧ Aside0 (sm = true ∨ ∃ j, at2 ≤ j ∧ j < i ∧ xs.getD j 0 ≠ 0) ∧ Aside0 (∃ T, Tn xs at2 i T ∧ Base.Own wr w.heap.size (.slice A9 dn c9) T) ∧ Aside0 (Below w.heap.size w wr))
    case atStart => exact ⟨at2, true, rfl, rfl, by omega, ⟨by omega⟩, ⟨Nat.le_refl _⟩, ⟨.inl rfl⟩, ⟨xs, Tn.start _ _, HO5.out⟩, HB5⟩
    case round =>
      obtain ⟨i, sm, rfl, rfl, hi, HK, HAI, HSM, HO, HBW⟩ := hrel
      obtain ⟨T, hT, hOT⟩ := HO.out
      clear HO
      by_cases hlt : i < dn
      · have hd0 : decide ((i : Int) < (dn : Int)) = true := decide_eq_true (by omega)
        have hd0' : decide (i < dn) = true := decide_eq_true hlt
        obtain ⟨g', n', c', he, -, hbg, e0, z0, hO2⟩ := hOT.store i (by rw [hT.1, HDL.out]; exact hlt) 0
        simp only [Value.slice.injEq] at he
        obtain ⟨rfl, -, -⟩ := he
        obtain ⟨z, hz⟩ : ∃ z, T.getD i 0 = z := ⟨_, rfl⟩
        have HZ := Aside0.mk (show xs.getD i 0 = z by rw [← hz, hT.2 i, if_neg (by omega)])
        rw [hz] at e0
        have HO2 := Aside0.mk hO2
        have HT2 := Aside0.mk (hT.step HAI.out (by rw [HDL.out]; exact hlt))
        have HBG := Aside0.mk hbg
        obtain ⟨zb, hzb⟩ : ∃ zb, ((z.toNat : Int) == 0) = zb := ⟨_, rfl⟩
        have HZB := Aside0.mk hzb
        clear hO2 hbg hT hOT hz
        cases sm with
        | false =>
          clear hzb
          go_wp2
          go_roundg (gk - 1)
          case measure => have := HK.out; omega
          case rel => exact ⟨i + 1, false, rfl, by congr 1, by omega, ⟨by have := HK.out; omega⟩, ⟨by have := HAI.out; omega⟩, ⟨by
            rcases HSM.out with hh | ⟨j, h1, h2, h3⟩
            · cases hh
            · exact .inr ⟨j, h1, by omega, h3⟩⟩, ⟨_, HT2.out, HO2.out⟩, ⟨HBW.out.setCell HBG.out _⟩⟩
        | true =>
          go_wp2
          go_roundg (gk - 1)
          case measure => have := HK.out; omega
          case rel => exact ⟨i + 1, zb, rfl, by congr 1, by omega, ⟨by have := HK.out; omega⟩, ⟨by have := HAI.out; omega⟩, ⟨by
            cases zb with
            | true => exact .inl rfl
            | false => exact .inr ⟨i, HAI.out, by omega, fun hh => by have := HZB.out; rw [HZ.out] at hh; rw [hh] at this; cases this⟩⟩, ⟨_, HT2.out, HO2.out⟩, ⟨HBW.out.setCell HBG.out _⟩⟩
      · obtain rfl : i = dn := by omega
        have hd0 : decide ((i : Int) < (i : Int)) = false := decide_eq_false (by omega)
        have HT := Aside0.mk hT
        have HOT := Aside0.mk hOT
        have HDC := Aside0.mk (Kd.C_below HD.out HBW.out)
        clear hT hOT
        go_wp2_with fail
        refine (ends_calls Ad i cap xs _ HDC.out hcap).mono ?_
        rintro e w6 ⟨rfl, hb6⟩
        obtain ⟨E1, hE1⟩ : ∃ E1, endsAt xs i = E1 := ⟨_, rfl⟩
        have hle : E1 ≤ 5000 := by rw [← hE1]; have := endsAt_le xs i; omega
        rw [hE1]
        have HE1 := Aside0.mk hE1
        have HB6 := Aside0.mk (below_go HBW.out hb6)
        have HO6 := Aside0.mk (HOT.out.below hb6)
        have hwe : IntKind.u16.wrap (E1 : Int) = (E1 : Int) := by unfold IntKind.wrap; simp [IntKind.signed, IntKind.bits]; omega
        clear hb6 hE1
        cases sm with
        | true =>
          go_wp2
          go_ret
          exact ⟨rfl, below_alloc HB6.out _⟩
        | false =>
          obtain ⟨E2, hE2⟩ : ∃ E2, endsAt T i = E2 := ⟨_, rfl⟩
          have hlt : E2 < E1 := by
            rcases HSM.out with hh | ⟨j, h1, h2, h3⟩
            · cases hh
            · rw [← hE2, ← HE1.out]
              exact ends_torn HT.out HDL.out j h1 h2 h3
          have HE2 := Aside0.mk hE2
          have HNO := Aside0.mk (show decide (ChkIs (0, 0, 1, 0, E1) T) = false from decide_eq_false (fun hh => by
            have h1 : E1 = endsAt T T.length := hh.2.2
            rw [HT.out.1, HDL.out, HE2.out] at h1
            omega))
          have hdl : decide ((E2 : Int) < (E1 : Int)) = true := decide_eq_true (by omega)
          have hdl' : decide (E2 < E1) = true := decide_eq_true hlt
          have HB7 := Aside0.mk (below_alloc HB6.out (.cells #[.int .u32 0, .int .u64 0, .int .u8 1, .int .u32 0, .int .u16 (E1 : Int)] 26))
          have HO7 := Aside0.mk (HO6.out.below (alloc_below w6 (.cells #[.int .u32 0, .int .u64 0, .int .u8 1, .int .u32 0, .int .u16 (E1 : Int)] 26)))
          clear hE2
          go_wp2_with fail
          refine (check_calls (0, 0, 1, 0, E1) A9 i c9 T _ (by unfold ItmOk; dsimp only; omega) (own_Cs HO7.out) hc9).mono ?_
          rintro e w8 ⟨rfl, hb8⟩
          rw [HNO.out]
          have HB8 := Aside0.mk (below_go HB7.out hb8)
          have HO8 := Aside0.mk (HO7.out.below hb8)
          have HD8 := Aside0.mk (Kd.C_below HD.out HB8.out)
          clear hb8
          go_wp2_with fail
          refine (ends_calls A9 i c9 T _ (own_Cs HO8.out) hc9).mono ?_
          rintro e w9 ⟨rfl, hb9⟩
          rw [HE2.out]
          have HB9 := Aside0.mk (below_go HB8.out hb9)
          have HD9 := Aside0.mk (Kd.C_below HD.out HB9.out)
          clear hb9
          go_wp2_with fail
          refine (ends_calls Ad i cap xs _ HD9.out hcap).mono ?_
          rintro e w10 ⟨rfl, hb10⟩
          rw [HE1.out]
          have HB10 := Aside0.mk (below_go HB9.out hb10)
          clear hb10
          go_wp2
          go_ret
          exact ⟨rfl, HB10.out⟩
theorem rtorn_row (w : World) (s : Nat × List Itm × Option Addr × Nat × Nat) (h : RecArg w s) (p : Nat) (hp : p < 256) (Ad : Option Addr) (dn cap : Nat) (xs : List UInt8) (hcap : dn ≤ cap) (hd : byte.C w Ad dn xs) (hcm : cap ≤ 9223372036854775807) (k : Int) (hk : -9223372036854775808 ≤ k ∧ k ≤ 9223372036854775807) :
    Calls Tryd.prog 4 #[.agg #[.int .u64 (s.1 : Int), .slice s.2.2.1 s.2.2.2.1 s.2.2.2.2], .int .u8 (p : Int), .slice Ad dn cap, .int .i64 k] w fun e w' => e = .returned (.bool true) ∧ Below w.heap.size w w' :=
  rtorn_walk w s.1 h.1 _ _ _ s.2.1 h.2 p hp Ad dn cap xs hcap hd hcm k hk
end Go.Proofs.YtefgahakbnfdeaaDoor.Rc
