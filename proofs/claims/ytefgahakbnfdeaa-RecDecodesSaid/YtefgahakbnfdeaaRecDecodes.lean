/- RecDecodes walks whole. -/
import Derived.Test.YtefgahakbnfdeaaRefDec
import Derived.Test.YtefgahakbnfdeaaRecSame
namespace Go.Proofs.Ytefgahakbnfdeaa.Rc
open Go.RowKit Go.Proofs.YtefgahakbnfdeaaW.PrintWords Go.Proofs.YtefgahakbnfdeaaW.PrintMore Go.Proofs.Ytefgahakbnfdeaa.Base
set_option linter.unusedVariables false
set_option linter.unusedSimpArgs false
theorem rec_cells {W : World} {g : Nat} {v0 v1 : Value} (h : W.heap[g]? = some (.cells #[v0, v1] 25 (0, 0))) : W.cell? ⟨g, 0, none⟩ = some v0 ∧ W.cell? ⟨g, 1, none⟩ = some v1 := by
  exact ⟨by simp [World.cell?, h], by simp [World.cell?, h]⟩
set_option maxRecDepth 100000 in
set_option maxHeartbeats 4000000 in
theorem rdecodes_walk (w : World) (A : Option Addr) (n c : Nat) (b : List UInt8) (hnc : n ≤ c) (h : byte.C w A n b) (hc : c ≤ 9223372036854775807) :
    Calls Try.prog 4 #[.slice A n c] w fun e w' => e = .returned (.bool true) ∧ Below w.heap.size w w' := by
  obtain ⟨hl, hm⟩ := C_len h
  have HL := Aside0.mk hl
  have HC := Aside0.mk h
  clear h hl
  by_cases h5 : 5000 < n
  · have hd : decide ((5000 : Int) < (n : Int)) = true := decide_eq_true (by omega)
    have hd' : decide (5000 < n) = true := decide_eq_true (by omega)
    clear h5
    go_enter Try.func4, Try.ntmps4
    go_wp2
    go_ret
    exact ⟨rfl, Below.refl _ _⟩
  have hd : decide ((5000 : Int) < (n : Int)) = false := decide_eq_false (by omega)
  have hd' : decide (5000 < n) = false := decide_eq_false (by omega)
  have hn5 : n ≤ 5000 := by omega
  clear h5
  go_enter Try.func4, Try.ntmps4
  go_wp2_with fail
  refine (lentb_calls A n c b (by omega) _ HC.out).mono ?_
  rintro e w1 ⟨v1, rfl, hO1, hb1⟩
  obtain ⟨A1, c1, rfl, hc1, hc1m, hC1⟩ := own_all hO1
  rw [HL.out] at hc1 hC1 ⊢
  have HC1 := Aside0.mk hC1
  have HB1 := Aside0.mk hb1
  clear hO1 hC1 hb1 hd hd'
  go_wp2_with fail
  refine (decode_calls A1 n c1 b _ HC1.out hc1 hc1m (by omega)).mono ?_
  rintro e w2 ⟨hb2, h2⟩
  have HC2 := Aside0.mk (Kd.C_below HC1.out hb2)
  have HB2 := Aside0.mk (below_go HB1.out hb2)
  clear hb2
  rcases h2 with ⟨his, v2, rfl, hI2⟩ | ⟨hno, rfl⟩
  · have HIS := Aside0.mk his
    obtain ⟨Ai, ni, ci, rfl⟩ : ∃ Ai ni ci, v2 = .slice Ai ni ci := by obtain ⟨Ai, ci, hv⟩ := Kd.R_slice hI2; exact ⟨Ai, _, ci, hv⟩
    obtain ⟨sq, hsq⟩ : ∃ sq, sqN b = sq := ⟨_, rfl⟩
    have HSQ := Aside0.mk hsq
    rw [hsq]
    have HI2 := Aside0.mk (ownI_C hI2).1
    clear his hI2 hsq
    go_wp2_with fail
    obtain ⟨gr, hgr⟩ : ∃ gr, w2.heap.size = gr := ⟨_, rfl⟩
    obtain ⟨W3, hW3⟩ : ∃ W3, w2.alloc (.cells #[.int .u64 (sq : Int), .slice Ai ni ci] 25) = W3 := ⟨_, rfl⟩
    have HBK := Aside0.mk (show W3.heap[gr]? = some (.cells #[.int .u64 (sq : Int), .slice Ai ni ci] 25 (0, 0)) by rw [← hW3, ← hgr]; exact heap_alloc_new w2 _)
    have hb23 : Below w2.heap.size w2 W3 := by rw [← hW3]; exact alloc_below _ _
    have HB3 := Aside0.mk (below_go HB2.out hb23)
    have HC3 := Aside0.mk (Kd.C_below HC2.out hb23)
    have HI3 := Aside0.mk (Kd.C_below HI2.out hb23)
    rw [hgr, hW3]
    clear hgr hW3 hb23
    refine (rdecode_calls A n c b _ (Kd.C_below HC.out HB3.out) hnc hc (by omega)).mono ?_
    rintro e w4 ⟨hb4, ⟨-, v4, rfl, hI4⟩ | ⟨hno, -⟩⟩
    case inr => exact absurd HIS.out hno
    obtain ⟨Aj, nj, cj, rfl⟩ : ∃ Ai ni ci, v4 = .slice Ai ni ci := by obtain ⟨Ai, ci, hv⟩ := Kd.R_slice hI4; exact ⟨Ai, _, ci, hv⟩
    rw [HSQ.out]
    have HI4 := Aside0.mk (ownI_C hI4).1
    have HB4 := Aside0.mk (below_go HB3.out hb4)
    have HC4 := Aside0.mk (Kd.C_below HC3.out hb4)
    have HI34 := Aside0.mk (Kd.C_below HI3.out hb4)
    have HBK4 := Aside0.mk (blk_old hb4 HBK.out)
    clear hI4 hb4
    go_wp2_with fail
    obtain ⟨gs, hgs⟩ : ∃ gs, w4.heap.size = gs := ⟨_, rfl⟩
    obtain ⟨W5, hW5⟩ : ∃ W5, w4.alloc (.cells #[.int .u64 (sq : Int), .slice Aj nj cj] 25) = W5 := ⟨_, rfl⟩
    have HBS := Aside0.mk (show W5.heap[gs]? = some (.cells #[.int .u64 (sq : Int), .slice Aj nj cj] 25 (0, 0)) by rw [← hW5, ← hgs]; exact heap_alloc_new w4 _)
    have hb45 : Below w4.heap.size w4 W5 := by rw [← hW5]; exact alloc_below _ _
    rw [hgs, hW5]
    clear hgs hW5
    refine (known_calls _).mono ?_
    rintro e w6 ⟨rfl, hb6⟩
    have hb46 := below_go hb45 hb6
    have HB6 := Aside0.mk (below_go HB4.out hb46)
    have HC6 := Aside0.mk (Kd.C_below HC4.out hb46)
    have HI36 := Aside0.mk (Kd.C_below HI34.out hb46)
    have HI46 := Aside0.mk (Kd.C_below HI4.out hb46)
    obtain ⟨r0, r1⟩ := rec_cells (blk_old hb46 HBK4.out)
    obtain ⟨s0, s1⟩ := rec_cells (blk_old hb6 HBS.out)
    clear hb45 hb6 hb46
    go_wp2_with fail
    refine (rsame_calls sq sq Ai Aj ni nj ci cj _ _ _ HI36.out HI46.out).mono ?_
    rintro e w7 ⟨rfl, hb7⟩
    rw [decide_eq_true ⟨rfl, rfl⟩]
    have HB7 := Aside0.mk (below_go HB6.out hb7)
    have HC7 := Aside0.mk (Kd.C_below HC6.out hb7)
    clear hb7
    go_wp2_with fail
    refine (same_calls A1 A n n c1 c b b _ HC7.out (Kd.C_below HC.out HB7.out)).mono ?_
    rintro e w8 ⟨rfl, rfl⟩
    rw [decide_eq_true rfl]
    go_wp2
    go_ret
    exact ⟨rfl, HB7.out⟩
  · have HNO := Aside0.mk hno
    clear hno
    go_wp2_with fail
    obtain ⟨gr, hgr⟩ : ∃ gr, w2.heap.size = gr := ⟨_, rfl⟩
    obtain ⟨W3, hW3⟩ : ∃ W3, w2.alloc (.cells #[.int .u64 0, .slice none 0 0] 25) = W3 := ⟨_, rfl⟩
    have HBK := Aside0.mk (show W3.heap[gr]? = some (.cells #[.int .u64 0, .slice none 0 0] 25 (0, 0)) by rw [← hW3, ← hgr]; exact heap_alloc_new w2 _)
    have hb23 : Below w2.heap.size w2 W3 := by rw [← hW3]; exact alloc_below _ _
    have HB3 := Aside0.mk (below_go HB2.out hb23)
    have HC3 := Aside0.mk (Kd.C_below HC2.out hb23)
    rw [hgr, hW3]
    clear hgr hW3 hb23
    refine (rdecode_calls A n c b _ (Kd.C_below HC.out HB3.out) hnc hc (by omega)).mono ?_
    rintro e w4 ⟨hb4, ⟨his, -⟩ | ⟨-, rfl⟩⟩
    · exact absurd his HNO.out
    have HB4 := Aside0.mk (below_go HB3.out hb4)
    have HC4 := Aside0.mk (Kd.C_below HC3.out hb4)
    have HBK4 := Aside0.mk (blk_old hb4 HBK.out)
    clear hb4
    go_wp2_with fail
    obtain ⟨gs, hgs⟩ : ∃ gs, w4.heap.size = gs := ⟨_, rfl⟩
    obtain ⟨W5, hW5⟩ : ∃ W5, w4.alloc (.cells #[.int .u64 0, .slice none 0 0] 25) = W5 := ⟨_, rfl⟩
    have HBS := Aside0.mk (show W5.heap[gs]? = some (.cells #[.int .u64 0, .slice none 0 0] 25 (0, 0)) by rw [← hW5, ← hgs]; exact heap_alloc_new w4 _)
    have hb45 : Below w4.heap.size w4 W5 := by rw [← hW5]; exact alloc_below _ _
    rw [hgs, hW5]
    clear hgs hW5
    refine (known_calls _).mono ?_
    rintro e w6 ⟨rfl, hb6⟩
    have hb46 := below_go hb45 hb6
    have HB6 := Aside0.mk (below_go HB4.out hb46)
    have HC6 := Aside0.mk (Kd.C_below HC4.out hb46)
    obtain ⟨r0, r1⟩ := rec_cells (blk_old hb46 HBK4.out)
    obtain ⟨s0, s1⟩ := rec_cells (blk_old hb6 HBS.out)
    clear hb45 hb6 hb46
    go_wp2_with fail
    refine (rsame_calls 0 0 none none 0 0 0 0 [] [] _ (Kd.C_nil itK _) (Kd.C_nil itK _)).mono ?_
    rintro e w7 ⟨rfl, hb7⟩
    rw [decide_eq_true ⟨rfl, rfl⟩]
    have HB7 := Aside0.mk (below_go HB6.out hb7)
    have HC7 := Aside0.mk (Kd.C_below HC6.out hb7)
    clear hb7
    go_wp2_with fail
    refine (same_calls A1 A n n c1 c b b _ HC7.out (Kd.C_below HC.out HB7.out)).mono ?_
    rintro e w8 ⟨rfl, rfl⟩
    rw [decide_eq_true rfl]
    go_wp2
    go_ret
    exact ⟨rfl, HB7.out⟩
end Go.Proofs.Ytefgahakbnfdeaa.Rc
