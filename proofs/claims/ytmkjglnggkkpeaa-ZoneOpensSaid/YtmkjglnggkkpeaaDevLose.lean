/- What a crash leaves of a part. -/
import Derived.Test.YtmkjglnggkkpeaaDevFlush
namespace Go.Proofs.Ytmkjglnggkkpeaa.Dv
open Go.RowKit Go.Proofs.YtmkjglnggkkpeaaW.PrintWords Go.Proofs.YtmkjglnggkkpeaaW.PrintMore Go.Proofs.Ytmkjglnggkkpeaa.Base Go.Proofs.Ytmkjglnggkkpeaa.Shp
set_option linter.unusedVariables false
set_option linter.unusedSimpArgs false
attribute [local go_sem] max2_mx min2_mn max_two min_two
/-- How many blocks stay whole. -/
def stayF (q du keep : Int) : Int := du + mn (mx keep 0) (q - du)
theorem stay_rng {q du keep : Int} (h0 : 0 ≤ du) (h1 : du ≤ q) : du ≤ stayF q du keep ∧ stayF q du keep ≤ q := by
  unfold stayF mn mx; split <;> split <;> omega
/-- What is left. -/
def lostB (b : Nat) (bs : List UInt8) (du keep torn : Int) : List UInt8 :=
  bs.take ((stayF ((bs.length / b : Nat) : Int) du keep).toNat * b) ++
    if 0 < torn ∧ stayF ((bs.length / b : Nat) : Int) du keep < ((bs.length / b : Nat) : Int) then front b (mn torn b).toNat (bs.drop ((stayF ((bs.length / b : Nat) : Int) du keep).toNat * b)) else []
structure LCells (w : World) (xb g : Nat) (b : Int) (B : Option Addr) (n k : Nat) (du keep torn : Int) (bs : List UInt8) : Prop where
  c2 : w.cell? ⟨xb, 2, none⟩ = some (.int .i64 b)
  p0 : w.cell? ⟨g, 0, none⟩ = some (.slice B n k)
  p1 : w.cell? ⟨g, 1, none⟩ = some (.int .i64 du)
  x0 : w.cell? ⟨g + 1, 0, none⟩ = some (.int .i64 keep)
  x1 : w.cell? ⟨g + 1, 1, none⟩ = some (.int .i64 torn)
  r : w.heap[g + 2]? = some (.cells #[.slice none 0 0, .int .i64 0] 73 (0, 0))
  C : byte.C w B n bs
theorem LCells.below {w w1 : World} {xb g : Nat} {b : Int} {B : Option Addr} {n k : Nat} {du keep torn : Int} {bs : List UInt8} (h : LCells w xb g b B n k du keep torn bs) (hb : Below w.heap.size w w1) : LCells w1 xb g b B n k du keep torn bs :=
  ⟨pw_cell_below hb h.c2, pw_cell_below hb h.p0, pw_cell_below hb h.p1, pw_cell_below hb h.x0, pw_cell_below hb h.x1, by rw [hb.block _ (Array.getElem?_eq_some_iff.1 h.r).1]; exact h.r, Kd.C_below h.C hb⟩
/-- What lose answers: new bytes. -/
def LosP (w w' : World) (b : Nat) (bs : List UInt8) (du keep torn : Int) (e : Ending) : Prop := ∃ v, e = .returned (.agg #[v, .int .i64 (((lostB b bs du keep torn).length / b : Nat) : Int)]) ∧ Own w' w.heap.size v (lostB b bs du keep torn)
theorem part_cells {w : World} {g : Nat} {x : Value} {y : Int} (hx : x.oneCell' = true) (h : w.heap[g]? = some (.cells #[x, .int .i64 y] 73 (0, 0))) :
    w.cell? ⟨g, 0, none⟩ = some x ∧ w.cell? ⟨g, 1, none⟩ = some (.int .i64 y) ∧ w.frozen? ⟨g, 0, none⟩ = false ∧ w.frozen? ⟨g, 1, none⟩ = false :=
  ⟨by simp [World.cell?, h], by simp [World.cell?, h], by simp [World.frozen?, h], by simp [World.frozen?, h]⟩
theorem own_set {w : World} {base : Nat} {v : Value} {xs : List UInt8} (h : Own w base v xs) {g t : Nat} {cells : Array Value} (hb : w.heap[g]? = some (.cells cells t (0, 0))) (ht : 5 ≠ t) (j : Nat) (u : Value) : Own (w.setCell ⟨g, j, none⟩ u) base v xs :=
  Kd.R_set h hb (fun q hq => by rcases List.mem_cons.1 hq with rfl | hq
                                · exact ht
                                · cases hq) j u
theorem los_end {w w9 : World} {g : Nat} (hg : w.heap.size = g) {v : Value} {xs bs : List UInt8} {b : Nat} {du keep torn : Int} {cs : Array Value} (hO : Own w9 g v xs) (hr : w9.heap[g + 2]? = some (.cells cs 73 (0, 0))) (hB : Below w.heap.size w w9) (hx : xs = lostB b bs du keep torn)
    {i : Int} (hi : i = ((xs.length / b : Nat) : Int)) (u u' : Value) :
    LosP w ((w9.setCell ⟨g + 1 + 1, 0, none⟩ u).setCell ⟨g + 1 + 1, 1, none⟩ u') b bs du keep torn (.returned (.agg #[v, .int .i64 i])) ∧ Below w.heap.size w ((w9.setCell ⟨g + 1 + 1, 0, none⟩ u).setCell ⟨g + 1 + 1, 1, none⟩ u') := by
  subst hg hx
  exact ⟨⟨v, by rw [hi], own_set (own_set hO hr (by decide) 0 u) (blk_set hr 0 u) (by decide) 1 u'⟩, (hB.setCell (p := ⟨w.heap.size + 1 + 1, 0, none⟩) (by show w.heap.size ≤ w.heap.size + 1 + 1; omega) u).setCell (p := ⟨w.heap.size + 1 + 1, 1, none⟩) (by show w.heap.size ≤ w.heap.size + 1 + 1; omega) u'⟩
theorem own_not_part {w : World} {base g : Nat} {v : Value} {xs : List UInt8} {cs : Array Value} (h : Own w base v xs) (hr : w.heap[g]? = some (.cells cs 73 (0, 0))) : some g ≠ v.ownBlock := by
  intro e
  obtain ⟨cells, hc⟩ := Kd.R_typed h g e.symm
  rw [hr] at hc
  simp at hc
theorem own_lt {w : World} {base : Nat} {v : Value} {xs : List UInt8} (h : Own w base v xs) : ∀ k, v.ownBlock = some k → k < w.heap.size := Kd.R_lt h
theorem info_u8' : (Try.prog.info? 5).map (·.size) = some 1 := by kernel_rfl
theorem front_copy {b m : Nat} {ys : List UInt8} (hm : m ≤ b) (hl : m ≤ ys.length) : (ys.take m).take (min m (List.replicate b (0 : UInt8)).length) ++ (List.replicate b (0 : UInt8)).drop (min m (List.replicate b (0 : UInt8)).length) = front b m ys := by
  unfold front
  rw [List.length_replicate, show min m b = m by omega, List.take_take, Nat.min_self, List.drop_replicate]
theorem los_row {w10 w11 w12 : World} {g base : Nat} {v9 v1 : Value} {xs : List UInt8} {o : Obj} (hr : w11.heap[g]? = some o) (hO : Own w11 base v9 xs) (h9 : Own w10 base v9 xs) (hg : g < w10.heap.size) (hX : ∃ b, v1.ownBlock = some b ∧ w10.heap.size ≤ b) (hG : w11.grownBy w12 v1.ownBlock) :
    Own w12 base v9 xs ∧ w12.heap[g]? = some o := by
  obtain ⟨b, hb, hle⟩ := hX
  refine ⟨Kd.R_grown1 hO rfl hG (fun e => ?_), ?_⟩
  · have := own_lt h9 b (by rw [← e, hb])
    omega
  · rw [hG.block g (Array.getElem?_eq_some_iff.1 hr).1 (by rw [hb]; intro e; injection e with e; omega)]
    exact hr
set_option maxRecDepth 100000 in
set_option maxHeartbeats 4000000 in
theorem lose_calls (xb base : Nat) (ok : Nat → Prop) (z zb r : Int) (bn : Nat) (hb1 : 0 < bn) (hb2 : bn ≤ 4096) (ps : List Prt) (v : Value) (B : Option Addr) (n k : Nat) (hnk : n ≤ k) (hnm : n ≤ 100000000) (du keep torn : Int) (hdu0 : 0 ≤ du) (hdu1 : du ≤ ((n / bn : Nat) : Int))
    (hkp : IsI keep) (htn : IsI torn) (bs : List UInt8) (w : World) (h : Dev w xb base ok z zb bn r ps v) (hC : byte.C w B n bs) :
    Calls Try.prog 44 #[.pointer (some ⟨xb, 0, none⟩), .agg #[.slice B n k, .int .i64 du], .agg #[.int .i64 keep, .int .i64 torn]] w
      fun e w' => LosP w w' bn bs du keep torn e ∧ Below w.heap.size w w' := by
  obtain ⟨hlen, -⟩ := C_len hC
  have hA : Below w.heap.size w (((w.alloc (.cells #[.slice B n k, .int .i64 du] 73)).alloc (.cells #[.int .i64 keep, .int .i64 torn] 67)).alloc (.cells #[.slice none 0 0, .int .i64 0] 73)) :=
    ((((Below.refl _ _).alloc (Nat.le_refl _) _).alloc (by simp) _).alloc (by simp; omega) _)
  have HL : Aside0 (LCells (((w.alloc (.cells #[.slice B n k, .int .i64 du] 73)).alloc (.cells #[.int .i64 keep, .int .i64 torn] 67)).alloc (.cells #[.slice none 0 0, .int .i64 0] 73)) xb w.heap.size bn B n k du keep torn bs) := by
    obtain ⟨-, -, c2, -, -⟩ := h.cells
    refine ⟨⟨pw_cell_below hA c2, by go_simp, by go_simp, by go_simp, by go_simp, ?_, Kd.C_below hC hA⟩⟩
    exact blk_here (by simp)
  have HD := Aside0.mk (h.below hA)
  have HA := Aside0.mk hA
  have HLN := Aside0.mk hlen
  obtain ⟨q, hq⟩ : ∃ q, n / bn = q := ⟨_, rfl⟩
  have HQ := Aside0.mk hq
  have HQI := Aside0.mk (show (n : Int) / (bn : Int) = (q : Int) by rw [← hq]; exact (Int.natCast_ediv n bn).symm)
  rw [hq] at hdu1
  have hqb : q * bn ≤ n := by rw [← hq]; exact Nat.div_mul_le_self n bn
  have hqn : q ≤ n := by rw [← hq]; exact Nat.div_le_self n bn
  obtain ⟨hs1, hs2⟩ := stay_rng (keep := keep) hdu0 hdu1
  obtain ⟨s, hs⟩ : ∃ s : Nat, stayF (q : Int) du keep = (s : Int) := ⟨(stayF (q : Int) du keep).toNat, by omega⟩
  have hsb : s * bn ≤ q * bn := Nat.mul_le_mul_right _ (by omega)
  have HS := Aside0.mk hs
  obtain ⟨hk1, hk2⟩ := hkp
  obtain ⟨ht1, ht2⟩ := htn
  obtain ⟨m0, m1⟩ := mx0 keep hk2
  have n0 : 0 ≤ mn (mx keep 0) ((q : Int) - du) := by unfold mn; split <;> omega
  have n1 : mn (mx keep 0) ((q : Int) - du) ≤ (q : Int) - du := by unfold mn; split <;> omega
  have c2 := HL.out.c2
  have HGE := Aside0.mk (show w.heap.size + 3 = (((w.alloc (.cells #[.slice B n k, .int .i64 du] 73)).alloc (.cells #[.int .i64 keep, .int .i64 torn] 67)).alloc (.cells #[.slice none 0 0, .int .i64 0] 73)).heap.size by simp)
  clear hq hlen hA h hC hs hs1 hs2
  go_enter Try.func44, Try.ntmps44
  go_wp2_with fail
  generalize (((w.alloc (.cells #[.slice B n k, .int .i64 du] 73)).alloc (.cells #[.int .i64 keep, .int .i64 torn] 67)).alloc (.cells #[.slice none 0 0, .int .i64 0] 73)) = W at *
  obtain ⟨g, hg⟩ : ∃ g, w.heap.size = g := ⟨_, rfl⟩
  rw [hg] at HL HGE ⊢
  have HG := Aside0.mk hg
  clear c2 hg
  obtain ⟨p0, p1⟩ := And.intro HL.out.p0 HL.out.p1
  go_region_held3 (fun w' => w'.cell? ⟨g, 0, none⟩ = some (.slice B n k) ∧ w'.cell? ⟨g, 1, none⟩ = some (.int .i64 du))
    (first | exact ⟨p0, p1⟩ | exact ⟨pw_cell_below hw8 p0, pw_cell_below hw8 p1⟩)
    (first | (go_at_call 35; (with_reducible refine (count_calls xb base ok z zb bn r (by omega) (by omega) ps _ B n k (by omega) du _ (HD.out.below (below_drew (Below.refl _ _)))).mono ?_); rw [HQI.out]; rintro e w8 ⟨rfl, hw8⟩))
  have HL8 := Aside0.mk (HL.out.below (Below.trans (below_drew (Below.refl _ _)) hw8))
  have HD8 := Aside0.mk (HD.out.below (Below.trans (below_drew (Below.refl _ _)) hw8))
  have HA8 := Aside0.mk (below_go HA.out (Below.trans (below_drew (Below.refl _ _)) hw8))
  clear p0 p1 hw8 HL HD HA
  obtain ⟨t, ht⟩ : ∃ t : Nat, s * bn = t := ⟨_, rfl⟩
  have htn : t ≤ n := by omega
  have ew : IntKind.i64.wrap ((du + mn (mx keep 0) ((q : Int) - du)) * (bn : Int)) = (t : Int) := by
    have h1 : du + mn (mx keep 0) ((q : Int) - du) = (s : Int) := HS.out
    have h2 : (s : Int) * (bn : Int) = (t : Int) := by rw [← ht]; exact (Int.natCast_mul s bn).symm
    rw [h1, h2]
    exact IntWalk.i64_in _ (by omega)
  have HT := Aside0.mk ht
  obtain ⟨i0, hi0, hzz⟩ := Option.map_eq_some_iff.1 info_u8
  simp only [Prod.mk.injEq] at hzz
  have hcut := cut_to (P := Try.prog) 32 5 .i64 Try.underlying32 hi0 B n k (t : Int) (by omega) (by omega) hnk
  rw [Int.toNat_natCast] at hcut
  have HCT := Aside0.mk (C_take HL8.out.C t htn)
  obtain ⟨p0, p1, x0⟩ := And.intro HL8.out.p0 (And.intro HL8.out.p1 HL8.out.x0)
  clear ht hzz hi0 hsb
  go_wp2_with fail
  refine (clone_calls B t k _ (by omega) _ HCT.out).mono ?_
  rintro e w9 ⟨v9, rfl, hO9, hw9⟩
  have HL9 := Aside0.mk (HL8.out.below hw9)
  have HD9 := Aside0.mk (HD8.out.below hw9)
  have HA9 := Aside0.mk (below_go HA8.out hw9)
  have HO9 := Aside0.mk (show Own w9 g v9 (bs.take t) from Kd.R_lower hO9 (by rw [← HG.out]; exact HA8.out.size))
  obtain ⟨A9, n9, c9, rfl, hc9, hC9⟩ := HO9.out.reads
  rw [show du + mn (mx keep 0) ((q : Int) - du) = (s : Int) from HS.out]
  have hn9 : t = n9 := by rw [← (C_len hC9).1, List.length_take, HLN.out]; omega
  subst hn9
  have HGL := Aside0.mk (show g + 2 < w9.heap.size from (Array.getElem?_eq_some_iff.1 HL9.out.r).1)
  obtain ⟨q0, q1, q2, q3⟩ := part_cells rfl HL9.out.r
  have x1 := HL9.out.x1
  have HST := Aside0.mk (show t / bn = s by rw [← HT.out]; exact Nat.mul_div_cancel _ hb1)
  have hb0 : (bn : Int) ≠ 0 := by omega
  clear p0 p1 x0 hO9 hw9 hC9 hcut ew m0 m1 n0 n1 HL8 HD8 HA8
  by_cases htp : 0 < torn
  · have htd : decide (0 < torn) = true := decide_eq_true htp
    obtain ⟨p0, p1⟩ := And.intro HL9.out.p0 HL9.out.p1
    go_wp2_with fail
    refine (count_calls xb base ok z zb bn r (by omega) (by omega) ps _ B n k (by omega) du _ HD9.out).mono ?_
    rw [HQI.out]
    rintro e w10 ⟨rfl, hw10⟩
    have HL10 := Aside0.mk (HL9.out.below hw10)
    have HA10 := Aside0.mk (below_go HA9.out hw10)
    have HO10 := Aside0.mk (HO9.out.below hw10)
    have HGL10 := Aside0.mk (show g + 2 < w10.heap.size from (Array.getElem?_eq_some_iff.1 HL10.out.r).1)
    obtain ⟨q0, q1, q2, q3⟩ := part_cells rfl HL10.out.r
    have x1 := HL10.out.x1
    have p0 := HL10.out.p0
    clear hw10 HL9 HA9 HO9 HD9 p1
    by_cases hsq : s < q
    · have hsd : decide ((s : Int) < (q : Int)) = true := decide_eq_true (by omega)
      have HSQ := Aside0.mk hsq
      obtain ⟨m, hm⟩ : ∃ m : Nat, mn torn (bn : Int) = (m : Int) := ⟨(mn torn (bn : Int)).toNat, by unfold mn; split <;> omega⟩
      have hmb : m ≤ bn := by have : mn torn (bn : Int) ≤ (bn : Int) := by unfold mn; split <;> omega
                              omega
      have HM := Aside0.mk hm
      have htb : t + bn ≤ n := by
        have h1 : (s + 1) * bn ≤ q * bn := Nat.mul_le_mul_right _ hsq
        rw [Nat.succ_mul, HT.out] at h1
        omega
      have ew : IntKind.i64.wrap ((s : Int) * (bn : Int)) = (t : Int) := by
        have h2 : (s : Int) * (bn : Int) = (t : Int) := by rw [← HT.out]; exact (Int.natCast_mul s bn).symm
        rw [h2]
        exact IntWalk.i64_in _ (by omega)
      obtain ⟨i0, hi0, hzz⟩ := Option.map_eq_some_iff.1 info_u8
      simp only [Prod.mk.injEq] at hzz
      have hcut := cut_mid (P := Try.prog) 32 5 .i64 .i64 Try.underlying32 hi0 1 hzz.2.1 B n k (t : Int) ((t : Int) + (m : Int)) (by omega) (by omega) (by omega) hnk
      rw [Int.toNat_natCast, show ((t : Int) + (m : Int)).toNat - t = m by omega] at hcut
      obtain ⟨B1, hB1⟩ : ∃ B1, (if k = t then B else B.map (·.add (t * 1))) = B1 := ⟨_, rfl⟩
      rw [hB1] at hcut
      have HCC := Aside0.mk (show byte.C w10 B1 m ((bs.drop t).take m) from by
        have h1 := C_drop HL10.out.C hnk t (by omega)
        rw [← hB1]
        exact C_take h1 m (by omega))
      clear hzz hi0 hB1
      go_wp2_with (first | (at_builtin; go_loud (refine app_row (w0 := w) g (.tmp 66) (.tmp 67) rfl rfl _ (bs.take t) (front bn m (bs.drop t)) A1 bn c1 rfl rfl HX12.out.1 HC12.out (by rw [← HG.out]; exact HA12.out) (by have := HA12.out.size; have := HG.out; omega) (by rw [List.length_take]; omega) ?_); intro v13 w13 hO13 hB13 hG13; have HR13 := Aside0.mk (show w13.heap[g + 2]? = _ from (hG13.block _ (Array.getElem?_eq_some_iff.1 HX12.out.2).1 (own_not_part HX12.out.1 HX12.out.2)).trans HX12.out.2); rw [← HG.out] at hB13; have HA13 := Aside0.mk hB13; have HO13 := Aside0.mk hO13; obtain ⟨A13, n13, c13, rfl, hc13, hC13⟩ := Own.reads hO13; have HN13 := Aside0.mk (show t + bn = n13 from (by rw [← (C_len hC13).1, List.length_append, List.length_take, front_len hmb (by rw [List.length_drop, HLN.out]; omega), HLN.out]; omega)); have hn13 : n13 ≤ 100000000 := (by have := HN13.out; omega); obtain ⟨q0, q1, q2, q3⟩ := part_cells rfl HR13.out; have hq1 : 0 ≤ (n13 : Int) / (bn : Int) := Int.ediv_nonneg (by omega) (by omega); have hq2 : (n13 : Int) / (bn : Int) ≤ (n13 : Int) := Int.ediv_le_self _ (by omega); have htd2 : (n13 : Int).tdiv (bn : Int) = (n13 : Int) / (bn : Int) := Int.tdiv_eq_ediv_of_nonneg (by omega); clear hB13 hG13 hO13 hC13) | (at_make; go_loud (refine Kd.R_make byte (w0 := w) g 5 rfl rfl 32 (.tmp 48) (.tmp 48) rfl (bn : Int) rfl rfl Try.underlying32 (.int .u8 0) 1 info_u8 rfl (by decide) (by decide) (0 : UInt8) (ok := anyB) (okp := fun _ => False) rfl (fun _ h => h.elim) trivial (by omega) (by simp; omega) (by rw [← HG.out]; exact HA10.out) (by have := HGL10.out; omega) ?_); intro v1 w11 hR hB hG hX; rw [Int.toNat_natCast] at hR; have HL11 := Aside0.mk (HL10.out.below (below_of_grown hG)); have HO11 := Aside0.mk (HO10.out.below (below_of_grown hG)); have HA11 := Aside0.mk (below_go HA10.out (below_of_grown hG)); have HC11 := Aside0.mk (Kd.C_below HCC.out (below_of_grown hG)); have HR := Aside0.mk hR; have p0 := HL11.out.p0; have x1 := HL11.out.x1; have HX := Aside0.mk hX; clear hR hB hG hX) | (refine Kd.R_copy (enc := fun b : UInt8 => .int .u8 (b.toNat : Int)) (h1 := fun _ => rfl) (0 : UInt8) (w0 := w) g rfl (.tmp 50) (.tmp 64) 32 32 5 rfl Try.underlying32 info_u8' v1 _ ((bs.drop t).take m) B1 m (k - t) anyB rfl rfl HR.out HC11.out (by rw [← HG.out]; exact HA11.out) (by have := HGL10.out; have := HA11.out.size; have := HG.out; omega) ?_; intro w12 hR12 hB12 hG12; rw [front_copy hmb (by rw [List.length_drop, HLN.out]; omega)] at hR12; have HX12 := Aside0.mk (los_row HL11.out.r HO11.out HO10.out HGL10.out HX.out hG12); rw [← HG.out] at hB12; have HA12 := Aside0.mk hB12; obtain ⟨A1, n1, c1, rfl, hc1, hC1⟩ := Own.reads hR12; obtain rfl : bn = n1 := (by rw [← (C_len hC1).1, front_len hmb (by rw [List.length_drop, HLN.out]; omega)]); have HC12 := Aside0.mk hC1; clear hR12 hB12 hG12 hC1))
      refine bodyPost_ret (by simp [results, Try.results44, go_sem, *]; rfl) rfl ?_
      refine los_end HG.out HO13.out HR13.out HA13.out ?_ ?_ _ _
      · unfold lostB
        rw [HLN.out, HQ.out, HS.out, if_pos ⟨by omega, by have := HSQ.out; omega⟩, Int.toNat_natCast, HT.out, HM.out, Int.toNat_natCast]
      · rw [List.length_append, List.length_take, front_len hmb (by rw [List.length_drop, HLN.out]; omega), HLN.out, show min t n + bn = n13 by have := HN13.out; omega]
        exact (Int.natCast_ediv n13 bn).symm
    · have hsd : decide ((s : Int) < (q : Int)) = false := decide_eq_false (by omega)
      have HSQ := Aside0.mk hsq
      have hq1 : 0 ≤ (t : Int) / (bn : Int) := Int.ediv_nonneg (by omega) (by omega)
      have hq2 : (t : Int) / (bn : Int) ≤ (t : Int) := Int.ediv_le_self _ (by omega)
      have htd2 : (t : Int).tdiv (bn : Int) = (t : Int) / (bn : Int) := Int.tdiv_eq_ediv_of_nonneg (by omega)
      go_wp2
      refine bodyPost_ret (by simp [results, Try.results44, go_sem, *]; rfl) rfl ?_
      refine los_end HG.out HO10.out HL10.out.r HA10.out ?_ ?_ _ _
      · unfold lostB
        rw [HLN.out, HQ.out, HS.out, if_neg (by have := HSQ.out; omega), Int.toNat_natCast, HT.out, List.append_nil]
      · rw [List.length_take, HLN.out, show min t n = t by omega]; exact (Int.natCast_ediv t bn).symm
  · have htd : decide (0 < torn) = false := decide_eq_false htp
    have HTP := Aside0.mk htp
    clear htp
    have hq1 : 0 ≤ (t : Int) / (bn : Int) := Int.ediv_nonneg (by omega) (by omega)
    have hq2 : (t : Int) / (bn : Int) ≤ (t : Int) := Int.ediv_le_self _ (by omega)
    have htd2 : (t : Int).tdiv (bn : Int) = (t : Int) / (bn : Int) := Int.tdiv_eq_ediv_of_nonneg (by omega)
    go_wp2
    refine bodyPost_ret (by simp [results, Try.results44, go_sem, *]; rfl) rfl ?_
    refine los_end HG.out HO9.out HL9.out.r HA9.out ?_ ?_ _ _
    · unfold lostB
      rw [HLN.out, HQ.out, HS.out, if_neg (by have := HTP.out; omega), Int.toNat_natCast, HT.out, List.append_nil]
    · rw [List.length_take, HLN.out, show min t n = t by omega]; exact (Int.natCast_ediv t bn).symm
end Go.Proofs.Ytmkjglnggkkpeaa.Dv
