/- rec.record: what a block says; it panics, if that is wrong. -/
import Derived.Test.YtefgahakbnfdeaaDoorRecMust
namespace Go.Proofs.YtefgahakbnfdeaaDoor.Rc
open Go.RowKit Go.Proofs.YtefgahakbnfdeaaDoorW.PrintWords Go.Proofs.YtefgahakbnfdeaaDoorW.PrintMore Go.Proofs.YtefgahakbnfdeaaDoor.Base
set_option linter.unusedVariables false
set_option linter.unusedSimpArgs false
theorem wrap_u32_in {x : Int} (h0 : 0 ≤ x) (h1 : x < 4294967296) : IntKind.u32.wrap x = x := by
  have e : IntKind.u32.wrap x = x % 4294967296 := by simp [IntKind.wrap, IntKind.signed, IntKind.bits]
  rw [e]; omega
theorem wrap_u16_in {x : Int} (h0 : 0 ≤ x) (h1 : x < 65536) : IntKind.u16.wrap x = x := by
  have e : IntKind.u16.wrap x = x % 65536 := by simp [IntKind.wrap, IntKind.signed, IntKind.bits]
  rw [e]; omega
theorem wrap_u8_in {x : Int} (h0 : 0 ≤ x) (h1 : x < 256) : IntKind.u8.wrap x = x := by
  have e : IntKind.u8.wrap x = x % 256 := by simp [IntKind.wrap, IntKind.signed, IntKind.bits]
  rw [e]; omega
theorem sum_lettered (A : Option Addr) (n c : Nat) (xs : List UInt8) (sm : Nat) (w : World) (h : byte.C w A n xs) (h8 : 8 < n) (hc : n ≤ c) (hcm : c ≤ 9223372036854775807) (hs : sumOf xs = sm) :
    Calls Tryd.prog 21 #[.slice A n c] w fun e w' => e = .returned (.int .u32 (sm : Int)) ∧ Below w.heap.size w w' := by
  subst hs
  exact sum_calls _ n c xs w h h8 hc hcm
theorem itsOf_mem {k i : Nat} (h : i < k) (b : List UInt8) : itAt (b.drop (18 + 19 * i)) ∈ itsOf k (b.drop 18) := by
  rw [← List.drop_drop]
  generalize b.drop 18 = r
  induction k generalizing i r with
  | zero => omega
  | succ k ih =>
    cases i with
    | zero => simp [itsOf]
    | succ i =>
      have := ih (i := i) (by omega) (r.drop 19)
      rw [List.drop_drop, show 19 + 19 * i = 19 * (i + 1) from by omega] at this
      simp only [itsOf, List.mem_cons]
      exact .inr this
/-- What holds at a round's head. -/
structure RcR (w W : World) (g2 gr : Nat) (vr : Value) (r : List UInt8) (sq : Nat) (vi : Value) (its : List Itm) : Prop where
  bel : Below w.heap.size w W
  rest : Base.Own W w.heap.size vr r
  rcb : W.heap[gr]? = some (.cells #[.int .u64 (sq : Int), vi] 35 (0, 0))
  res : W.heap[g2]? = some (.cells #[.int .u64 0, .slice none 0 0] 35 (0, 0))
  row : OwnI W w.heap.size vi its
  ne : gr ≠ g2
  lo : w.heap.size ≤ g2 ∧ w.heap.size ≤ gr
section
variable {w W W' : World} {g2 gr : Nat} {vr vr' vi v1 : Value} {r r' : List UInt8} {sq : Nat} {its its' : List Itm}
theorem blk_old {o : Obj} {k : Nat} (hb : Below W.heap.size W W') (h : W.heap[k]? = some o) : W'.heap[k]? = some o := (hb.block k (Array.getElem?_eq_some_iff.1 h).1).trans h
theorem RcR.below (h : RcR w W g2 gr vr r sq vi its) (hb : Below W.heap.size W W') : RcR w W' g2 gr vr r sq vi its :=
  ⟨below_go h.bel hb, h.rest.below hb, blk_old hb h.rcb, blk_old hb h.res, Kd.R_below h.row hb, h.ne, h.lo⟩
theorem RcR.cut (h : RcR w W g2 gr vr r sq vi its) (hr : Base.Own W w.heap.size vr' r') : RcR w W g2 gr vr' r' sq vi its := ⟨h.bel, hr, h.rcb, h.res, h.row, h.ne, h.lo⟩
theorem RcR.rc (h : RcR w W g2 gr vr r sq vi its) : W.cell? ⟨gr, 0, none⟩ = some (.int .u64 (sq : Int)) ∧ W.cell? ⟨gr, 1, none⟩ = some vi ∧ W.frozen? ⟨gr, 1, none⟩ = false := by
  have := h.rcb
  exact ⟨by simp [World.cell?, this], by simp [World.cell?, this], by simp [World.frozen?, this]⟩
theorem RcR.grown (h : RcR w W g2 gr vr r sq vi its) (hr : OwnI W' w.heap.size v1 its') (hg : W.grownBy W' vi.ownBlock) : W'.cell? ⟨gr, 1, none⟩ = some vi ∧ W'.frozen? ⟨gr, 1, none⟩ = false ∧ RcR w (W'.setCell ⟨gr, 1, none⟩ v1) g2 gr vr r sq v1 its' := by
  have n0 := Kd.R_ne h.row h.rcb (by decide)
  have n1 := Kd.R_ne h.row h.res (by decide)
  have b0 : W'.heap[gr]? = some (.cells #[.int .u64 (sq : Int), vi] 35 (0, 0)) := (hg.block gr (Array.getElem?_eq_some_iff.1 h.rcb).1 n0).trans h.rcb
  have b1 : W'.heap[g2]? = some (.cells #[.int .u64 0, .slice none 0 0] 35 (0, 0)) := (hg.block g2 (Array.getElem?_eq_some_iff.1 h.res).1 n1).trans h.res
  have hO : Base.Own W' w.heap.size vr r := Kd.R_over h.rest h.row (by intro q hq; rw [List.mem_singleton.1 hq]; decide) hg
  refine ⟨by simp [World.cell?, b0], by simp [World.frozen?, b0], ?_, ?_, ?_, ?_, ?_, h.ne, h.lo⟩
  · exact (h.bel.grown hg h.bel.size (fun k hk => Kd.R_base h.row k hk)).setCell h.lo.2 _
  · exact Kd.R_set hO b0 (by intro q hq; rw [List.mem_singleton.1 hq]; decide) 1 v1
  · exact blk_set b0 1 v1
  · exact (Below.heap_setCell W' ⟨gr, 1, none⟩ v1 g2 h.ne.symm).trans b1
  · exact Kd.R_set hr b0 (by intro q hq; rw [List.mem_singleton.1 hq]; decide) 1 v1
theorem RcR.rs (h : RcR w W g2 gr vr r sq vi its) : W.cell? ⟨g2, 0, none⟩ = some (.int .u64 0) ∧ W.cell? ⟨g2, 1, none⟩ = some (.slice none 0 0) ∧ W.frozen? ⟨g2, 0, none⟩ = false ∧ W.frozen? ⟨g2, 1, none⟩ = false := by
  have := h.res
  exact ⟨by simp [World.cell?, this], by simp [World.cell?, this], by simp [World.frozen?, this], by simp [World.frozen?, this]⟩
/-- The record is laid into the result. -/
theorem RcR.fin (h : RcR w W g2 gr vr r sq vi its) : OwnI ((W.setCell ⟨g2, 0, none⟩ (.int .u64 (sq : Int))).setCell ⟨g2, 1, none⟩ vi) w.heap.size vi its ∧ Below w.heap.size w ((W.setCell ⟨g2, 0, none⟩ (.int .u64 (sq : Int))).setCell ⟨g2, 1, none⟩ vi) ∧
    ((W.setCell ⟨g2, 0, none⟩ (.int .u64 (sq : Int))).setCell ⟨g2, 1, none⟩ vi).cell? ⟨g2, 0, none⟩ = some (.int .u64 (sq : Int)) ∧ ((W.setCell ⟨g2, 0, none⟩ (.int .u64 (sq : Int))).setCell ⟨g2, 1, none⟩ vi).cell? ⟨g2, 1, none⟩ = some vi := by
  have b1 := blk_set h.res 0 (.int .u64 (sq : Int))
  have b2 := blk_set b1 1 vi
  have ht : ∀ q, q ∈ 26 :: itK.E → q ≠ 35 := by intro q hq; rw [List.mem_singleton.1 hq]; decide
  exact ⟨Kd.R_set (Kd.R_set h.row h.res ht 0 _) b1 ht 1 vi, (h.bel.setCell h.lo.1 _).setCell h.lo.1 _, by simp [World.cell?, b2], by simp [World.cell?, b2]⟩
end
def RecP (w : World) (b : List UInt8) (e : Ending) (w' : World) : Prop :=
  Below w.heap.size w w' ∧ ((RecIs b ∧ ∃ v, e = .returned (.agg #[.int .u64 (sqN b : Int), v]) ∧ OwnI w' w.heap.size v (itN b)) ∨ (¬ RecIs b ∧ ∃ u pv, e = .panicked [{ v := .iface u pv, recovered := false }]))
theorem rec_no {w w' : World} {b : List UInt8} (hb : Below w.heap.size w w') (hn : ¬ RecIs b) (u : TypeId) (pv : Value) : RecP w b (.panicked [{ v := .iface u pv, recovered := false }]) w' := ⟨hb, .inr ⟨hn, u, pv, rfl⟩⟩
set_option maxRecDepth 100000 in
set_option maxHeartbeats 4000000 in
theorem record_calls (A : Option Addr) (n c : Nat) (b : List UInt8) (w : World) (h : byte.C w A n b) (hnc : n ≤ c) (hc : c ≤ 9223372036854775807) (hn : n ≤ 100000000) :
    Calls Tryd.prog 23 #[.slice A n c] w (RecP w b) := by
  obtain ⟨hl, hm⟩ := C_len h
  have HL := Aside0.mk hl
  have HC := Aside0.mk h
  have HA := Aside0.mk (alloc_below w (.cells #[.int .u64 0, .slice none 0 0] 35))
  have HBX := Aside0.mk (heap_alloc_new w (.cells #[.int .u64 0, .slice none 0 0] 35))
  clear h hl
  go_enter Tryd.func23, Tryd.ntmps23
  go_wp2_with fail
  obtain ⟨g2, hg2⟩ : ∃ g2, w.heap.size = g2 := ⟨_, rfl⟩
  obtain ⟨W, hW⟩ : ∃ W, w.alloc (.cells #[.int .u64 0, .slice none 0 0] 35) = W := ⟨_, rfl⟩
  rw [hW] at HA HBX ⊢
  rw [hg2] at HBX ⊢
  have HG2 := Aside0.mk hg2
  clear hW hg2
  refine (room_calls (n : Int) (by omega) _).mono ?_
  rintro e w1 ⟨rfl, rfl⟩
  rw [rmZ_nat]
  obtain ⟨rm, hrm⟩ : ∃ rm, rmN n = rm := ⟨_, rfl⟩
  rw [hrm]
  have hrm214 : rm ≤ 214 := by rw [← hrm]; unfold rmN; split <;> omega
  have HRM := Aside0.mk hrm
  clear hrm
  by_cases h0 : rm = 0
  · have hd : decide (0 < (rm : Int)) = false := decide_eq_false (by omega)
    have hd' : decide (0 < rm) = false := decide_eq_false (by omega)
    have HNO := Aside0.mk (show ¬ RecIs b from fun hr => by have := hr.1; rw [HL.out, HRM.out] at this; omega)
    clear h0
    go_wp2_with fail
    refine (must_no _ _).mono ?_
    rintro e w2 ⟨⟨u, pv, rfl⟩, rfl⟩
    exact ⟨rfl, rec_no HA.out HNO.out u pv⟩
  have hd : decide (0 < (rm : Int)) = true := decide_eq_true (by omega)
  have hd' : decide (0 < rm) = true := decide_eq_true (by omega)
  obtain ⟨hn64, hn4096, hrn, -⟩ := rmN_le n (by rw [HRM.out]; omega)
  rw [HRM.out] at hrn
  clear h0
  go_wp2_with fail
  refine (must_yes _ _).mono ?_
  rintro e w2 ⟨rfl, rfl⟩
  clear hd hd'
  go_wp2_with fail
  refine (take_calls A n c b _ 4 4 [4, 4, 8, 2] _ (Kd.C_below HC.out (below_alloc HA.out _)) hnc hc hn (wid_lit W [4, 4, 8, 2] _ rfl (by decide) (by decide)) (by omega)).mono ?_
  rw [take_head b (by rw [HL.out]; omega)]
  rintro e w3 ⟨hb3, vl, vr, rfl, hU, hO⟩
  obtain ⟨gl, cl, rfl, hgl, hglt, hcell⟩ := ownU_cells hU (by simp)
  have l0 := hcell 0 (by simp)
  have l1 := hcell 1 (by simp)
  have l2 := hcell 2 (by simp)
  have l3 := hcell 3 (by simp)
  simp only [List.getD_cons_zero, List.getD_cons_succ, List.length_cons, List.length_nil] at l0 l1 l2 l3 ⊢
  obtain ⟨mg, hmg⟩ : ∃ x, mgN b = x := ⟨_, rfl⟩
  obtain ⟨sm, hsm⟩ : ∃ x, smN b = x := ⟨_, rfl⟩
  obtain ⟨sq, hsq⟩ : ∃ x, sqN b = x := ⟨_, rfl⟩
  obtain ⟨ct, hct⟩ : ∃ x, ctN b = x := ⟨_, rfl⟩
  rw [hmg] at l0
  rw [hsm] at l1
  rw [hsq] at l2
  rw [hct] at l3
  have hct16 : ct < 65536 := by rw [← hct]; exact ct_lt b
  have hsm32 : (sm : Int) < 4294967296 := by have := sm_lt b; omega
  have hwct : IntKind.i64.wrap (ct : Int) = (ct : Int) := by rw [IntKind.wrap_i64]; omega
  have HMG := Aside0.mk hmg
  have HSM := Aside0.mk hsm
  have HSQ := Aside0.mk hsq
  have HCT := Aside0.mk hct
  have HB3 := Aside0.mk (below_go (below_alloc HA.out _) hb3)
  have HO3 := Aside0.mk (show Base.Own w3 w.heap.size vr (b.drop 18) from Kd.R_lower hO (by have := HA.out.size; simp; omega))
  have HBX3 := Aside0.mk (show w3.heap[g2]? = some (.cells #[.int .u64 0, .slice none 0 0] 35 (0, 0)) from by
    have h1 := HBX.out
    have h2 := (Array.getElem?_eq_some_iff.1 h1).1
    rw [hb3.block g2 (by simp; omega), (alloc_below W _).block g2 h2]
    exact h1)
  have HGL := Aside0.mk (show w.heap.size < gl ∧ gl < w3.heap.size from ⟨by have h1 := HA.out.size; have h2 := (Array.getElem?_eq_some_iff.1 HBX.out).1; have h3 := HG2.out; simp at hgl; omega, hglt⟩)
  have L2 := Aside0.mk l2
  clear hb3 hU hO hcell hgl hglt hmg hsm hsq hct
  go_wp2
  clear l2 l3 hwct
  by_cases hmag : mg = magic
  · have hq0 : ((mg : Int) == 1129074503) = true := by rw [hmag]; rfl
    have hwsm : IntKind.u32.wrap (sm : Int) = (sm : Int) := wrap_u32_in (by omega) hsm32
    obtain ⟨su, hsu⟩ : ∃ su, sumOf b = su := ⟨_, rfl⟩
    have HSU := Aside0.mk hsu
    have HMAG := Aside0.mk hmag
    clear hmag hsu
    by_cases hss : sm = su
    · have hq1 : ((sm : Int) == (su : Int)) = true := by rw [hss]; exact beq_self_eq_true _
      have HSS := Aside0.mk hss
      clear hss
      go_region_held3 (fun w' => w'.cell? ⟨gl, 0, none⟩ = some (.int .u64 (mg : Int)) ∧ w'.cell? ⟨gl, 1, none⟩ = some (.int .u64 (sm : Int)))
        (first | exact ⟨l0, l1⟩ | exact ⟨m0, m1⟩)
        (first | (go_at_call 21; (with_reducible refine (sum_lettered A n c b su _ (Kd.C_below HC.out (below_drew HB3.out)) (by omega) hnc hc HSU.out).mono ?_); rintro e w5 ⟨rfl, hb5⟩; have m0 := pw_cell_below hb5 l0; have m1 := pw_cell_below hb5 l1; have HB5 := Aside0.mk hb5; clear hb5) | (go_at_call 32; (with_reducible refine (must_yes _ _).mono ?_); rintro e w6 ⟨rfl, rfl⟩))
      have hbw : Below w3.heap.size w3 w5 := Below.trans (below_drew (Below.refl _ _)) HB5.out
      have l2 := pw_cell_below hbw L2.out
      have HB6 := Aside0.mk (below_go HB3.out hbw)
      have HO6 := Aside0.mk (HO3.out.below hbw)
      have HBX6 := Aside0.mk (show w5.heap[g2]? = some (.cells #[.int .u64 0, .slice none 0 0] 35 (0, 0)) from (hbw.block g2 (Array.getElem?_eq_some_iff.1 HBX3.out).1).trans HBX3.out)
      clear hbw l0 l1 m0 m1 hq0 hq1 hwsm
      by_cases hc0 : ct = 0
      · have hd0 : decide (0 < (ct : Int)) = false := decide_eq_false (by omega)
        have hd0' : decide (0 < ct) = false := decide_eq_false (by omega)
        have HNO := Aside0.mk (show ¬ RecIs b from fun hr => by have := hr.2.2.2.1; rw [HCT.out] at this; omega)
        clear hc0
        go_wp2_with fail
        refine (must_no _ _).mono ?_
        rintro e w6 ⟨⟨u, pv, rfl⟩, rfl⟩
        exact ⟨rfl, rec_no HB6.out HNO.out u pv⟩
      have hd0 : decide (0 < (ct : Int)) = true := decide_eq_true (by omega)
      have hd0' : decide (0 < ct) = true := decide_eq_true (by omega)
      by_cases hcr : rm < ct
      · have hd1 : decide ((ct : Int) ≤ (rm : Int)) = false := decide_eq_false (by omega)
        have hd1' : decide (ct ≤ rm) = false := decide_eq_false (by omega)
        have HNO := Aside0.mk (show ¬ RecIs b from fun hr => by have := hr.2.2.2.2.1; rw [HCT.out, HL.out, HRM.out] at this; omega)
        clear hcr hc0
        go_wp2_with fail
        refine (must_no _ _).mono ?_
        rintro e w6 ⟨⟨u, pv, rfl⟩, rfl⟩
        exact ⟨rfl, rec_no HB6.out HNO.out u pv⟩
      have hd1 : decide ((ct : Int) ≤ (rm : Int)) = true := decide_eq_true (by omega)
      have hd1' : decide (ct ≤ rm) = true := decide_eq_true (by omega)
      have HC0 := Aside0.mk (And.intro hc0 (show ct ≤ rm by omega))
      clear hcr hc0
      go_wp2_with fail
      refine (must_yes _ _).mono ?_
      rintro e w6 ⟨rfl, rfl⟩
      clear hd0 hd0' hd1 hd1'
      go_wp2
      obtain ⟨gr, hgr⟩ : ∃ gr, w5.heap.size = gr := ⟨_, rfl⟩
      have HR0 := Aside0.mk (show RcR w (w5.alloc (.cells #[.int .u64 (sq : Int), .slice none 0 0] 35)) g2 gr vr (b.drop 18) sq (.slice none 0 0) [] from
        ⟨below_alloc HB6.out _, HO6.out.below (alloc_below _ _), by rw [← hgr]; exact heap_alloc_new w5 _, blk_past HBX6.out, Kd.R_nil _ _ _ _ _, by have := (Array.getElem?_eq_some_iff.1 HBX6.out).1; omega, by have h1 := HG2.out; have h2 := HB6.out.size; omega⟩)
      obtain ⟨W6, hW6⟩ : ∃ W6, w5.alloc (.cells #[.int .u64 (sq : Int), .slice none 0 0] 35) = W6 := ⟨_, rfl⟩
      rw [hgr, hW6]
      rw [hW6] at HR0
      have HD18 := Aside0.mk (show (b.drop 18).length = n - 18 by rw [List.length_drop, HL.out])
      clear hgr hW6 l2
      go_loopg [5, 60] ct (fun g1 v5 v60 wr => ∃ (i : Nat) (vi : Value), v60 = .int .i64 (i : Int) ∧ i ≤ ct ∧ Aside0 (g1 + i = ct) ∧ Aside0 (RcR w wr g2 gr v5 (b.drop (18 + 19 * i)) sq vi (itsOf i (b.drop 18))) ∧ Aside0 (∀ x ∈ itsOf i (b.drop 18), may x))
      case atStart => exact ⟨0, _, rfl, by omega, ⟨rfl⟩, HR0, ⟨fun x hx => by simp [itsOf] at hx⟩⟩
      case round =>
        obtain ⟨i, vi, rfl, hi, HK, HR, HMY⟩ := hrel
        by_cases hlt : i < ct
        · have hd0 : decide ((i : Int) < (ct : Int)) = true := decide_eq_true (by omega)
          have hd0' : decide (i < ct) = true := decide_eq_true hlt
          obtain ⟨rr, hrr⟩ : ∃ rr, b.drop (18 + 19 * i) = rr := ⟨_, rfl⟩
          have hrl : 19 + 1 ≤ rr.length ∧ rr.length ≤ 4096 := by
            rw [← hrr, List.length_drop, HL.out]
            have := HC0.out.2
            omega
          rw [hrr] at HR
          have HRR := Aside0.mk hrr
          obtain ⟨g5, c5, rfl, hg5, hg5', hrc, hcm⟩ := own_form HR.out.rest (by omega)
          obtain ⟨xi, hxi⟩ : ∃ xi, itAt rr = xi := ⟨_, rfl⟩
          have HXI := Aside0.mk hxi
          have HXO := Aside0.mk (show ItmOk xi by rw [← hxi]; exact itAt_ok rr)
          clear hrr hg5 hg5'
          go_wp2_with fail
          refine (take_calls _ rr.length c5 rr _ 5 5 [4, 8, 1, 4, 2] _ (Kd.C_below (own_C HR.out.rest) (alloc_below _ _)) hrc hcm (by omega) (wid_lit wr [4, 8, 1, 4, 2] _ rfl (by decide) (by decide)) (by omega)).mono ?_
          rw [take_item rr (by omega), hxi]
          clear hxi
          obtain ⟨x1, x2, x3, x4, x5⟩ := xi
          dsimp only
          rintro e w7 ⟨hb7, vl, vr7, rfl, hU, hO⟩
          obtain ⟨gv, cv, rfl, hgv, hgvt, hcell⟩ := ownU_cells hU (by simp)
          have l0 := hcell 0 (by simp)
          have l1 := hcell 1 (by simp)
          have l2 := hcell 2 (by simp)
          have l3 := hcell 3 (by simp)
          have l4 := hcell 4 (by simp)
          simp only [List.getD_cons_zero, List.getD_cons_succ, List.length_cons, List.length_nil] at l0 l1 l2 l3 l4 ⊢
          have hb7w : Below wr.heap.size wr w7 := below_go (alloc_below wr (.cells #[.int .i64 4, .int .i64 8, .int .i64 1, .int .i64 4, .int .i64 2] 3)) hb7
          have HR7 := Aside0.mk ((HR.out.below hb7w).cut (show Base.Own w7 w.heap.size vr7 (rr.drop 19) from Kd.R_lower hO (by have := HR.out.bel.size; simp; omega)))
          have hw1 : IntKind.u32.wrap (x1 : Int) = (x1 : Int) := wrap_u32_in (by omega) (by have := HXO.out.1; dsimp only at this; omega)
          have hw3 : IntKind.u8.wrap (x3 : Int) = (x3 : Int) := wrap_u8_in (by omega) (by have := HXO.out.2.2.1; dsimp only at this; omega)
          have hw4 : IntKind.u32.wrap (x4 : Int) = (x4 : Int) := wrap_u32_in (by omega) (by have := HXO.out.2.2.2.1; dsimp only at this; omega)
          have hw5 : IntKind.u16.wrap (x5 : Int) = (x5 : Int) := wrap_u16_in (by omega) (by have := HXO.out.2.2.2.2; dsimp only at this; omega)
          have hne7 : gv ≠ w7.heap.size := by omega
          clear hb7 hb7w hU hO hcell hgv
          go_wp2
          go_region_held3 (fun w' => w'.cell? ⟨gv, 0, none⟩ = some (.int .u64 (x1 : Int)) ∧ w'.cell? ⟨gv, 1, none⟩ = some (.int .u64 (x2 : Int)) ∧ w'.cell? ⟨gv, 2, none⟩ = some (.int .u64 (x3 : Int)) ∧ w'.cell? ⟨gv, 3, none⟩ = some (.int .u64 (x4 : Int)) ∧ w'.cell? ⟨gv, 4, none⟩ = some (.int .u64 (x5 : Int)))
            (first | exact ⟨l0, l1, l2, l3, l4⟩ | exact ⟨pw_cell_below (alloc_below _ _) l0, pw_cell_below (alloc_below _ _) l1, pw_cell_below (alloc_below _ _) l2, pw_cell_below (alloc_below _ _) l3, pw_cell_below (alloc_below _ _) l4⟩) (fail)
          obtain ⟨gt, hgt⟩ : ∃ gt, w7.heap.size = gt := ⟨_, rfl⟩
          obtain ⟨W8, hW8⟩ : ∃ W8, (w7.alloc (.cells #[.int .u32 (x1 : Int), .int .u64 (x2 : Int), .int .u8 (x3 : Int), .int .u32 (x4 : Int), .int .u16 (x5 : Int)] 26)).drew = W8 := ⟨_, rfl⟩
          have hb78 : Below w7.heap.size w7 W8 := by rw [← hW8]; exact below_drew (alloc_below _ _)
          have hbt : W8.heap[gt]? = some (.cells #[.int .u32 (x1 : Int), .int .u64 (x2 : Int), .int .u8 (x3 : Int), .int .u32 (x4 : Int), .int .u16 (x5 : Int)] 26 (0, 0)) := by rw [← hW8, ← hgt]; exact heap_alloc_new w7 _
          rw [hgt, hW8]
          have HR8 := Aside0.mk (HR7.out.below hb78)
          have HBT := Aside0.mk hbt
          have t0 : W8.cell? ⟨gt, 0, none⟩ = some (.int .u32 (x1 : Int)) := by simp [World.cell?, hbt]
          have t1 : W8.cell? ⟨gt, 1, none⟩ = some (.int .u64 (x2 : Int)) := by simp [World.cell?, hbt]
          have t2 : W8.cell? ⟨gt, 2, none⟩ = some (.int .u8 (x3 : Int)) := by simp [World.cell?, hbt]
          have t3 : W8.cell? ⟨gt, 3, none⟩ = some (.int .u32 (x4 : Int)) := by simp [World.cell?, hbt]
          have t4 : W8.cell? ⟨gt, 4, none⟩ = some (.int .u16 (x5 : Int)) := by simp [World.cell?, hbt]
          clear hgt hW8 hb78 hbt l0 l1 l2 l3 l4 hw1 hw3 hw4 hw5 hne7 hgvt
          go_wp2_with fail
          refine (may_calls (x1, x2, x3, x4, x5) _).mono ?_
          rintro e w9 ⟨rfl, hb9⟩
          have HR9 := Aside0.mk (HR8.out.below hb9)
          have t0 := pw_cell_below hb9 t0
          have t1 := pw_cell_below hb9 t1
          have t2 := pw_cell_below hb9 t2
          have t3 := pw_cell_below hb9 t3
          have t4 := pw_cell_below hb9 t4
          clear hb9
          by_cases hmay : may (x1, x2, x3, x4, x5)
          · rw [decide_eq_true hmay]
            have HMAY := Aside0.mk hmay
            clear hmay
            go_wp2_with fail
            refine (must_yes _ _).mono ?_
            rintro e w10 ⟨rfl, rfl⟩
            obtain ⟨f0, f1, ff⟩ := HR9.out.rc
            have HII := Aside0.mk (show (itsOf i (b.drop 18)).length ≤ 100000 by rw [itsOf_len]; have := HC0.out.2; omega)
            go_wp2_with (at_builtin; (refine app_itm (w0 := w) w.heap.size (.tmp 93) (.tmp 95) rfl rfl vi (itsOf i (b.drop 18)) (x1, x2, x3, x4, x5) rfl (by simp [Act.eval]) HXO.out HR9.out.row HR9.out.bel HR9.out.bel.size HII.out ?_); intro v11 w11 hR11 hB11 hg11; (obtain ⟨A11, c11, rfl⟩ := Kd.R_slice hR11; obtain ⟨z0, zf, hR12⟩ := HR9.out.grown hR11 hg11; have HR12 := Aside0.mk hR12; clear hR11 hB11 hg11 hR12 f0 f1 ff))
            go_wp2
            go_roundg (gk - 1)
            case measure => have := HK.out; omega
            case rel =>
              have e1 : itsOf (i + 1) (b.drop 18) = itsOf i (b.drop 18) ++ [(x1, x2, x3, x4, x5)] := by rw [itsOf_snoc, List.drop_drop, HRR.out, HXI.out]
              have e2 : b.drop (18 + 19 * (i + 1)) = rr.drop 19 := by rw [← HRR.out, List.drop_drop, show 18 + 19 * i + 19 = 18 + 19 * (i + 1) from by omega]
              refine ⟨i + 1, .slice A11 ((itsOf i (b.drop 18)).length + 1) c11, by congr 1, by omega, ⟨by have := HK.out; omega⟩, ⟨?_⟩, ⟨?_⟩⟩
              · rw [e1, e2]
                have h12 := HR12.out
                simp only [List.length_append, List.length_cons, List.length_nil, Nat.zero_add] at h12
                exact h12
              · intro y hy
                rw [e1] at hy
                rcases List.mem_append.1 hy with hy | hy
                · exact HMY.out y hy
                · rw [List.mem_singleton.1 hy]; exact HMAY.out
          · rw [decide_eq_false hmay]
            have HNO := Aside0.mk (show ¬ RecIs b from fun hr => by
              apply hmay
              apply hr.2.2.2.2.2.1
              unfold itN
              rw [HCT.out, ← HXI.out, ← HRR.out]
              exact itsOf_mem hlt b)
            clear hmay
            go_wp2_with fail
            refine (must_no _ _).mono ?_
            rintro e w10 ⟨⟨u, pv, rfl⟩, rfl⟩
            exact ⟨rfl, rec_no HR9.out.bel HNO.out u pv⟩
        · obtain rfl : i = ct := by omega
          have hd0 : decide ((i : Int) < (i : Int)) = false := decide_eq_false (by omega)
          obtain ⟨rr, hrr⟩ : ∃ rr, b.drop (18 + 19 * i) = rr := ⟨_, rfl⟩
          obtain ⟨lst, hlst⟩ : ∃ lst, rr.length = lst + 1 := ⟨rr.length - 1, by rw [← hrr, List.length_drop, HL.out]; have := HC0.out.2; omega⟩
          have hrl : lst ≤ 4096 := by
            have h1 : rr.length = b.length - (18 + 19 * i) := by rw [← hrr, List.length_drop]
            have h2 := HL.out
            omega
          rw [hrr] at HR
          have HRR := Aside0.mk hrr
          have E9 := Aside0.mk (show b.length - 19 - 19 * i = lst by have h1 : rr.length = b.length - (18 + 19 * i) := (by rw [← hrr, List.length_drop]); omega)
          have HIFF := Aside0.mk (show RecIs b ↔ (rr.getD lst 0 = 0xe7 ∧ ∀ x ∈ rr.take lst, x = 0) by
            rw [← end_iff rr lst hlst]
            constructor
            · intro hr
              have h7 := hr.2.2.2.2.2.2
              rw [HCT.out, HRR.out] at h7
              rw [E9.out] at h7
              exact h7
            · intro he
              refine ⟨by rw [HL.out, HRM.out]; have := HC0.out; omega, HMG.out.trans HMAG.out, ?_, by rw [HCT.out]; have := HC0.out; omega, by rw [HCT.out, HL.out, HRM.out]; exact HC0.out.2, ?_, ?_⟩
              · rw [HSM.out, HSU.out, HSS.out]
              · unfold itN; rw [HCT.out]; exact HMY.out
              · rw [HCT.out, HRR.out, E9.out]; exact he)
          obtain ⟨g5, c5, rfl, hg5, hg5', hrc, hcm⟩ := own_form HR.out.rest (by omega)
          rw [hlst] at HR hrc ⊢
          have HRL := Aside0.mk hlst
          clear hrr hg5 hg5' hlst
          obtain ⟨y, hy⟩ : ∃ y, rr.getD lst 0 = y := ⟨_, rfl⟩
          have e0 : wr.cell? ⟨g5, lst, none⟩ = some (.int .u8 (y.toNat : Int)) := by
            obtain ⟨ad, hA, hcl⟩ := byte_at (own_C HR.out.rest) lst (by omega)
            injection hA with hA
            subst hA
            rw [add_plain, hy] at hcl
            exact hcl
          have HY := Aside0.mk hy
          clear hy
          by_cases hye : y = 0xe7
          · have hyb : ((y.toNat : Int) == 231) = true := by rw [hye]; rfl
            have HYE := Aside0.mk (show rr.getD lst 0 = 0xe7 from HY.out.trans hye)
            clear hye
            go_wp2_with fail
            refine (must_yes _ _).mono ?_
            rintro e w6 ⟨rfl, rfl⟩
            have k1 : (lst : Int) ≤ (c5 : Int) := by omega
            clear hyb e0
            go_wp2
            go_loopg [15, 113] lst (fun g1 v15 v113 w' => ∃ j : Nat, v113 = .int .i64 (j : Int) ∧ j ≤ lst ∧ Aside0 (g1 + j = lst) ∧ Aside0 (∀ x ∈ rr.take j, x = 0) ∧ w' = wr)
            case atStart => exact ⟨0, rfl, by omega, ⟨rfl⟩, ⟨fun x hx => by simp at hx⟩, rfl⟩
            case round =>
              obtain ⟨j, rfl, hj, HK2, HZ, rfl⟩ := hrel
              by_cases hjl : j < lst
              · have hd1 : decide ((j : Int) < (lst : Int)) = true := decide_eq_true (by omega)
                obtain ⟨z, hz⟩ : ∃ z, rr.getD j 0 = z := ⟨_, rfl⟩
                have e0 : wr.cell? ⟨g5, j, none⟩ = some (.int .u8 (z.toNat : Int)) := by
                  obtain ⟨ad, hA, hcl⟩ := byte_at (own_C HR.out.rest) j (by omega)
                  injection hA with hA
                  subst hA
                  rw [add_plain, hz] at hcl
                  exact hcl
                have HTK := Aside0.mk (show rr.take (j + 1) = rr.take j ++ [z] by rw [take_snocD rr 0 j (by have := HRL.out; omega), hz])
                have HZM := Aside0.mk (show z ∈ rr.take lst by
                  rw [← hz, List.getD_eq_getElem?_getD, List.getElem?_eq_getElem (by have := HRL.out; omega)]
                  exact List.mem_take_iff_getElem.2 ⟨j, by have := HRL.out; omega, rfl⟩)
                clear hz
                by_cases hz0 : z = 0
                · have hzb : ((z.toNat : Int) == 0) = true := by rw [hz0]; rfl
                  have HZ0 := Aside0.mk hz0
                  clear hz0
                  go_wp2_with fail
                  refine (must_yes _ _).mono ?_
                  rintro e w6 ⟨rfl, rfl⟩
                  go_wp2
                  go_roundg (lst - (j + 1))
                  case measure => have := HK2.out; omega
                  case rel =>
                    refine ⟨j + 1, by congr 1, by omega, ⟨by have := HK2.out; omega⟩, ⟨fun x hx => ?_⟩, rfl⟩
                    rw [HTK.out] at hx
                    rcases List.mem_append.1 hx with hx | hx
                    · exact HZ.out x hx
                    · rw [List.mem_singleton.1 hx]; exact HZ0.out
                · have hzb : ((z.toNat : Int) == 0) = false := by rw [beq_eq_false_iff_ne]; intro hh; apply hz0; apply UInt8.toNat_inj.1; show z.toNat = 0; omega
                  have HNO := Aside0.mk (show ¬ RecIs b from fun hr => hz0 ((HIFF.out.1 hr).2 z HZM.out))
                  clear hz0
                  go_wp2_with fail
                  refine (must_no _ _).mono ?_
                  rintro e w6 ⟨⟨u, pv, rfl⟩, rfl⟩
                  exact ⟨rfl, rec_no HR.out.bel HNO.out u pv⟩
              · obtain rfl : j = lst := by omega
                have hd1 : decide ((j : Int) < (j : Int)) = false := decide_eq_false (by omega)
                have HIS := Aside0.mk (HIFF.out.2 ⟨HYE.out, HZ.out⟩)
                obtain ⟨Ai, ni, ci, rfl⟩ : ∃ Ai ni ci, vi = .slice Ai ni ci := by obtain ⟨Ai, ci, hv⟩ := Kd.R_slice HR.out.row; exact ⟨Ai, _, ci, hv⟩
                obtain ⟨f0, f1, -⟩ := HR.out.rc
                obtain ⟨s0, s1, z0, z1⟩ := HR.out.rs
                have HFI := Aside0.mk HR.out.fin
                go_wp2
                obtain ⟨hI, hB9, q0, q1⟩ := HFI.out
                have HI := Aside0.mk hI
                have HB9 := Aside0.mk hB9
                clear hI hB9 f0 f1 s0 s1 z0 z1
                refine bodyPost_ret (v := .agg #[.int .u64 (sq : Int), .slice Ai ni ci]) (by simp [results, Tryd.results23, go_sem, q0, q1]) rfl ?_
                refine ⟨HB9.out, .inl ⟨HIS.out, .slice Ai ni ci, by rw [HSQ.out], ?_⟩⟩
                have h9 := HI.out
                unfold itN
                rw [HCT.out]
                exact h9
          · have hyb : ((y.toNat : Int) == 231) = false := by rw [beq_eq_false_iff_ne]; intro hh; apply hye; apply UInt8.toNat_inj.1; show y.toNat = 231; omega
            have HNO := Aside0.mk (show ¬ RecIs b from fun hr => hye (HY.out.symm.trans (HIFF.out.1 hr).1))
            clear hye
            go_wp2_with fail
            refine (must_no _ _).mono ?_
            rintro e w6 ⟨⟨u, pv, rfl⟩, rfl⟩
            exact ⟨rfl, rec_no HR.out.bel HNO.out u pv⟩
    · have hq1 : ((sm : Int) == (su : Int)) = false := by rw [beq_eq_false_iff_ne]; omega
      have HNO := Aside0.mk (show ¬ RecIs b from fun hr => by have := hr.2.2.1; rw [HSM.out, HSU.out] at this; exact hss this)
      clear hss
      refine wp_region_any (by kernel_rfl) ?_
      rw [show ({ w3 with drawn := w3.drawn + 1 } : World) = w3.drew from rfl]
      refine wpAny_take (i := 0) (oi := { dst := some 33, op := Op.move (Operand.tmp 4), type := 61, pos := "rec.go:68", after := #[], guard := none }) (v := ?_) rfl (by kernel_rfl) (by kernel_rfl) (by kernel_rfl) (fun _ _ _ h => h) (Or.inl ⟨by rfl, ?_⟩) ?_
      rotate_left
      · (intro w; go_simp; (try with_reducible rfl))
      (try simp only [Act.put, List.setIfInBounds_toArray, List.set_cons_zero, List.set_cons_succ])
      refine wpAny_take (i := 1) (oi := { dst := some 34, op := Op.indexAddr 61 (Operand.tmp 33) (Operand.const (Value.int IntKind.i64 0)), type := 0, pos := "rec.go:68", after := #[{ on := 0, ground := Ground.data }], guard := none }) (v := ?_) rfl (by kernel_rfl) (by kernel_rfl) (by kernel_rfl) (fun _ _ _ h => h) (Or.inl ⟨by rfl, ?_⟩) ?_
      rotate_left
      · (intro w; go_simp; (try with_reducible rfl))
      (try simp only [Act.put, List.setIfInBounds_toArray, List.set_cons_zero, List.set_cons_succ])
      refine wpAny_ready (rs := [2]) (by kernel_rfl) (by simp) ?_
      refine (AllReady.cons (o := { dst := some 35, op := Op.load 23 (Operand.tmp 34), type := 23, pos := "rec.go:68", after := #[{ on := 1, ground := Ground.data }], guard := none }) rfl (fun K hK => ?_) AllReady.nil)
      go_simp
      refine hK _ _ ?_
      clear hK K
      (try simp only [Act.put, List.setIfInBounds_toArray, List.set_cons_zero, List.set_cons_succ])
      refine wpAny_take (i := 3) (oi := { dst := some 36, op := Op.binOp BinOp.eql 23 (Operand.tmp 35) (Operand.const (Value.int IntKind.u64 1129074503)) 23, type := 4, pos := "rec.go:68", after := #[{ on := 2, ground := Ground.data }], guard := none }) (v := ?_) rfl (by kernel_rfl) (by kernel_rfl) (by kernel_rfl) (fun _ _ _ h => h) (Or.inl ⟨by rfl, ?_⟩) ?_
      rotate_left
      · (intro w; go_simp; (try with_reducible rfl))
      (try simp only [Act.put, List.setIfInBounds_toArray, List.set_cons_zero, List.set_cons_succ])
      refine wpAny_take (i := 4) (oi := { dst := some 37, op := Op.move (Operand.tmp 36), type := 4, pos := "rec.go:68", after := #[{ on := 3, ground := Ground.data }], guard := none }) (v := ?_) rfl (by kernel_rfl) (by kernel_rfl) (by kernel_rfl) (fun _ _ _ h => h) (Or.inl ⟨by rfl, ?_⟩) ?_
      rotate_left
      · (intro w; go_simp; (try with_reducible rfl))
      (try simp only [Act.put, List.setIfInBounds_toArray, List.set_cons_zero, List.set_cons_succ])
      refine wpAny_take (i := 5) (oi := { dst := some 38, op := Op.move (Operand.tmp 4), type := 61, pos := "rec.go:68", after := #[{ on := 4, ground := Ground.guard }], guard := some (4, true) }) (v := ?_) rfl (by kernel_rfl) (by kernel_rfl) (by kernel_rfl) (fun _ _ _ h => h) (Or.inl ⟨by rfl, ?_⟩) ?_
      rotate_left
      · (intro w; go_simp; (try with_reducible rfl))
      (try simp only [Act.put, List.setIfInBounds_toArray, List.set_cons_zero, List.set_cons_succ])
      refine wpAny_take (i := 6) (oi := { dst := some 39, op := Op.indexAddr 61 (Operand.tmp 38) (Operand.const (Value.int IntKind.i64 1)), type := 0, pos := "rec.go:68", after := #[{ on := 5, ground := Ground.data }, { on := 4, ground := Ground.guard }], guard := some (4, true) }) (v := ?_) rfl (by kernel_rfl) (by kernel_rfl) (by kernel_rfl) (fun _ _ _ h => h) (Or.inl ⟨by rfl, ?_⟩) ?_
      rotate_left
      · (intro w; go_simp; (try with_reducible rfl))
      (try simp only [Act.put, List.setIfInBounds_toArray, List.set_cons_zero, List.set_cons_succ])
      refine wpAny_take (i := 9) (oi := { dst := some 42, op := Op.move (Operand.tmp 0), type := 27, pos := "rec.go:68", after := #[{ on := 4, ground := Ground.guard }], guard := some (4, true) }) (v := ?_) rfl (by kernel_rfl) (by kernel_rfl) (by kernel_rfl) (fun _ _ _ h => h) (Or.inl ⟨by rfl, ?_⟩) ?_
      rotate_left
      · (intro w; go_simp; (try with_reducible rfl))
      (try simp only [Act.put, List.setIfInBounds_toArray, List.set_cons_zero, List.set_cons_succ])
      refine wpAny_ready (rs := [7, 10]) (by kernel_rfl) (by simp) ?_
      refine (AllReady.cons (o := { dst := some 40, op := Op.load 23 (Operand.tmp 39), type := 23, pos := "rec.go:68", after := #[{ on := 6, ground := Ground.data }, { on := 4, ground := Ground.guard }], guard := some (4, true) }) rfl (fun K hK => ?_) (AllReady.cons (o := { dst := some 43, op := Op.call { callee := Callee.value (Operand.func 21), args := #[Operand.tmp 42], argTypes := #[27] }, type := 22, pos := "rec.go:68", after := #[{ on := 9, ground := Ground.data }, { on := 4, ground := Ground.chain }, { on := 4, ground := Ground.guard }], guard := some (4, true) }) rfl (fun K hK => ?_) AllReady.nil))
      · go_simp
        refine hK _ _ ?_
        clear hK K
        (try simp only [Act.put, List.setIfInBounds_toArray, List.set_cons_zero, List.set_cons_succ])
        refine wpAny_take (i := 8) (oi := { dst := some 41, op := Op.convert 23 22 (Operand.tmp 40), type := 22, pos := "rec.go:68", after := #[{ on := 7, ground := Ground.data }, { on := 4, ground := Ground.guard }], guard := some (4, true) }) (v := ?_) rfl (by kernel_rfl) (by kernel_rfl) (by kernel_rfl) (fun _ _ _ h => h) (Or.inl ⟨by rfl, ?_⟩) ?_
        rotate_left
        · (intro w; go_simp; (try with_reducible rfl))
        (try simp only [Act.put, List.setIfInBounds_toArray, List.set_cons_zero, List.set_cons_succ])
        refine wpAny_ready (rs := [10]) (by kernel_rfl) (by simp) ?_
        refine (AllReady.cons (o := { dst := some 43, op := Op.call { callee := Callee.value (Operand.func 21), args := #[Operand.tmp 42], argTypes := #[27] }, type := 22, pos := "rec.go:68", after := #[{ on := 9, ground := Ground.data }, { on := 4, ground := Ground.chain }, { on := 4, ground := Ground.guard }], guard := some (4, true) }) rfl (fun K hK => ?_) AllReady.nil)
        go_simp
        refine (sum_lettered A n c b su _ (Kd.C_below HC.out (below_drew HB3.out)) (by omega) hnc hc HSU.out).mono ?_
        rintro e w5 ⟨rfl, hb5⟩
        have HB5 := Aside0.mk hb5
        clear hb5
        refine hK _ _ ?_
        clear hK K
        (try simp only [Act.put, List.setIfInBounds_toArray, List.set_cons_zero, List.set_cons_succ])
        refine wpAny_take (i := 11) (oi := { dst := some 44, op := Op.binOp BinOp.eql 22 (Operand.tmp 41) (Operand.tmp 43) 22, type := 4, pos := "rec.go:68", after := #[{ on := 8, ground := Ground.data }, { on := 10, ground := Ground.data }, { on := 4, ground := Ground.guard }], guard := some (4, true) }) (v := ?_) rfl (by kernel_rfl) (by kernel_rfl) (by kernel_rfl) (fun _ _ _ h => h) (Or.inl ⟨by rfl, ?_⟩) ?_
        rotate_left
        · (intro w; go_simp; (try with_reducible rfl))
        (try simp only [Act.put, List.setIfInBounds_toArray, List.set_cons_zero, List.set_cons_succ])
        refine wpAny_take (i := 12) (oi := { dst := some 45, op := Op.pick (Operand.tmp 37) (Operand.tmp 44) (Operand.const (Value.bool false)), type := 4, pos := "rec.go:68", after := #[{ on := 4, ground := Ground.data }, { on := 11, ground := Ground.data }], guard := none }) (v := ?_) rfl (by kernel_rfl) (by kernel_rfl) (by kernel_rfl) (fun _ _ _ h => h) (Or.inl ⟨by rfl, ?_⟩) ?_
        rotate_left
        · (intro w; go_simp; (try with_reducible rfl))
        (try simp only [Act.put, List.setIfInBounds_toArray, List.set_cons_zero, List.set_cons_succ])
        refine wpAny_ready (rs := [13]) (by kernel_rfl) (by simp) ?_
        refine (AllReady.cons (o := { dst := some 46, op := Op.call { callee := Callee.value (Operand.func 32), args := #[Operand.tmp 45, Operand.const (Value.string { data := #[116, 104, 101, 32, 115, 117, 109] })], argTypes := #[4, 63] }, type := 0, pos := "rec.go:68", after := #[{ on := 12, ground := Ground.data }, { on := 10, ground := Ground.chain }], guard := none }) rfl (fun K hK => ?_) AllReady.nil)
        go_simp
        refine (must_no _ _).mono ?_
        rintro e w6 ⟨⟨u, pv, rfl⟩, rfl⟩
        exact ⟨rfl, rec_no (below_go HB3.out (Below.trans (below_drew (Below.refl _ _)) HB5.out)) HNO.out u pv⟩
      · go_simp
        refine (sum_lettered A n c b su _ (Kd.C_below HC.out (below_drew HB3.out)) (by omega) hnc hc HSU.out).mono ?_
        rintro e w5 ⟨rfl, hb5⟩
        have HB5 := Aside0.mk hb5
        clear hb5
        refine hK _ _ ?_
        clear hK K
        (try simp only [Act.put, List.setIfInBounds_toArray, List.set_cons_zero, List.set_cons_succ])
        refine wpAny_ready (rs := [7]) (by kernel_rfl) (by simp) ?_
        refine (AllReady.cons (o := { dst := some 40, op := Op.load 23 (Operand.tmp 39), type := 23, pos := "rec.go:68", after := #[{ on := 6, ground := Ground.data }, { on := 4, ground := Ground.guard }], guard := some (4, true) }) rfl (fun K hK => ?_) AllReady.nil)
        have l1 := pw_cell_below HB5.out l1
        go_simp
        refine hK _ _ ?_
        clear hK K
        (try simp only [Act.put, List.setIfInBounds_toArray, List.set_cons_zero, List.set_cons_succ])
        refine wpAny_take (i := 8) (oi := { dst := some 41, op := Op.convert 23 22 (Operand.tmp 40), type := 22, pos := "rec.go:68", after := #[{ on := 7, ground := Ground.data }, { on := 4, ground := Ground.guard }], guard := some (4, true) }) (v := ?_) rfl (by kernel_rfl) (by kernel_rfl) (by kernel_rfl) (fun _ _ _ h => h) (Or.inl ⟨by rfl, ?_⟩) ?_
        rotate_left
        · (intro w; go_simp; (try with_reducible rfl))
        (try simp only [Act.put, List.setIfInBounds_toArray, List.set_cons_zero, List.set_cons_succ])
        refine wpAny_take (i := 11) (oi := { dst := some 44, op := Op.binOp BinOp.eql 22 (Operand.tmp 41) (Operand.tmp 43) 22, type := 4, pos := "rec.go:68", after := #[{ on := 8, ground := Ground.data }, { on := 10, ground := Ground.data }, { on := 4, ground := Ground.guard }], guard := some (4, true) }) (v := ?_) rfl (by kernel_rfl) (by kernel_rfl) (by kernel_rfl) (fun _ _ _ h => h) (Or.inl ⟨by rfl, ?_⟩) ?_
        rotate_left
        · (intro w; go_simp; (try with_reducible rfl))
        (try simp only [Act.put, List.setIfInBounds_toArray, List.set_cons_zero, List.set_cons_succ])
        refine wpAny_take (i := 12) (oi := { dst := some 45, op := Op.pick (Operand.tmp 37) (Operand.tmp 44) (Operand.const (Value.bool false)), type := 4, pos := "rec.go:68", after := #[{ on := 4, ground := Ground.data }, { on := 11, ground := Ground.data }], guard := none }) (v := ?_) rfl (by kernel_rfl) (by kernel_rfl) (by kernel_rfl) (fun _ _ _ h => h) (Or.inl ⟨by rfl, ?_⟩) ?_
        rotate_left
        · (intro w; go_simp; (try with_reducible rfl))
        (try simp only [Act.put, List.setIfInBounds_toArray, List.set_cons_zero, List.set_cons_succ])
        refine wpAny_ready (rs := [13]) (by kernel_rfl) (by simp) ?_
        refine (AllReady.cons (o := { dst := some 46, op := Op.call { callee := Callee.value (Operand.func 32), args := #[Operand.tmp 45, Operand.const (Value.string { data := #[116, 104, 101, 32, 115, 117, 109] })], argTypes := #[4, 63] }, type := 0, pos := "rec.go:68", after := #[{ on := 12, ground := Ground.data }, { on := 10, ground := Ground.chain }], guard := none }) rfl (fun K hK => ?_) AllReady.nil)
        go_simp
        refine (must_no _ _).mono ?_
        rintro e w6 ⟨⟨u, pv, rfl⟩, rfl⟩
        exact ⟨rfl, rec_no (below_go HB3.out (Below.trans (below_drew (Below.refl _ _)) HB5.out)) HNO.out u pv⟩
  · have hq0 : ((mg : Int) == 1129074503) = false := by rw [beq_eq_false_iff_ne]; have hmag' : mg ≠ 1129074503 := hmag; omega
    have HNO := Aside0.mk (show ¬ RecIs b from fun hr => by have := hr.2.1; rw [HMG.out] at this; exact hmag this)
    clear hmag
    refine wp_region_any (by kernel_rfl) ?_
    rw [show ({ w3 with drawn := w3.drawn + 1 } : World) = w3.drew from rfl]
    refine wpAny_take (i := 0) (oi := { dst := some 33, op := Op.move (Operand.tmp 4), type := 61, pos := "rec.go:68", after := #[], guard := none }) (v := ?_) rfl (by kernel_rfl) (by kernel_rfl) (by kernel_rfl) (fun _ _ _ h => h) (Or.inl ⟨by rfl, ?_⟩) ?_
    rotate_left
    · (intro w; go_simp; (try with_reducible rfl))
    (try simp only [Act.put, List.setIfInBounds_toArray, List.set_cons_zero, List.set_cons_succ])
    refine wpAny_take (i := 1) (oi := { dst := some 34, op := Op.indexAddr 61 (Operand.tmp 33) (Operand.const (Value.int IntKind.i64 0)), type := 0, pos := "rec.go:68", after := #[{ on := 0, ground := Ground.data }], guard := none }) (v := ?_) rfl (by kernel_rfl) (by kernel_rfl) (by kernel_rfl) (fun _ _ _ h => h) (Or.inl ⟨by rfl, ?_⟩) ?_
    rotate_left
    · (intro w; go_simp; (try with_reducible rfl))
    (try simp only [Act.put, List.setIfInBounds_toArray, List.set_cons_zero, List.set_cons_succ])
    refine wpAny_ready (rs := [2]) (by kernel_rfl) (by simp) ?_
    refine (AllReady.cons (o := { dst := some 35, op := Op.load 23 (Operand.tmp 34), type := 23, pos := "rec.go:68", after := #[{ on := 1, ground := Ground.data }], guard := none }) rfl (fun K hK => ?_) AllReady.nil)
    go_simp
    refine hK _ _ ?_
    clear hK K
    (try simp only [Act.put, List.setIfInBounds_toArray, List.set_cons_zero, List.set_cons_succ])
    refine wpAny_take (i := 3) (oi := { dst := some 36, op := Op.binOp BinOp.eql 23 (Operand.tmp 35) (Operand.const (Value.int IntKind.u64 1129074503)) 23, type := 4, pos := "rec.go:68", after := #[{ on := 2, ground := Ground.data }], guard := none }) (v := ?_) rfl (by kernel_rfl) (by kernel_rfl) (by kernel_rfl) (fun _ _ _ h => h) (Or.inl ⟨by rfl, ?_⟩) ?_
    rotate_left
    · (intro w; go_simp; (try with_reducible rfl))
    (try simp only [Act.put, List.setIfInBounds_toArray, List.set_cons_zero, List.set_cons_succ])
    refine wpAny_take (i := 4) (oi := { dst := some 37, op := Op.move (Operand.tmp 36), type := 4, pos := "rec.go:68", after := #[{ on := 3, ground := Ground.data }], guard := none }) (v := ?_) rfl (by kernel_rfl) (by kernel_rfl) (by kernel_rfl) (fun _ _ _ h => h) (Or.inl ⟨by rfl, ?_⟩) ?_
    rotate_left
    · (intro w; go_simp; (try with_reducible rfl))
    (try simp only [Act.put, List.setIfInBounds_toArray, List.set_cons_zero, List.set_cons_succ])
    refine wpAny_take (i := 5) (oi := { dst := some 38, op := Op.move (Operand.tmp 4), type := 61, pos := "rec.go:68", after := #[{ on := 4, ground := Ground.guard }], guard := some (4, true) }) (v := undef) rfl (by kernel_rfl) (by kernel_rfl) (by kernel_rfl) (fun _ _ _ h => h) (Or.inr ⟨by rfl, rfl⟩) ?_
    (try simp only [Act.put, List.setIfInBounds_toArray, List.set_cons_zero, List.set_cons_succ])
    refine wpAny_take (i := 6) (oi := { dst := some 39, op := Op.indexAddr 61 (Operand.tmp 38) (Operand.const (Value.int IntKind.i64 1)), type := 0, pos := "rec.go:68", after := #[{ on := 5, ground := Ground.data }, { on := 4, ground := Ground.guard }], guard := some (4, true) }) (v := undef) rfl (by kernel_rfl) (by kernel_rfl) (by kernel_rfl) (fun _ _ _ h => h) (Or.inr ⟨by rfl, rfl⟩) ?_
    (try simp only [Act.put, List.setIfInBounds_toArray, List.set_cons_zero, List.set_cons_succ])
    refine wpAny_take (i := 7) (oi := { dst := some 40, op := Op.load 23 (Operand.tmp 39), type := 23, pos := "rec.go:68", after := #[{ on := 6, ground := Ground.data }, { on := 4, ground := Ground.guard }], guard := some (4, true) }) (v := undef) rfl (by kernel_rfl) (by kernel_rfl) (by kernel_rfl) (fun _ _ _ h => h) (Or.inr ⟨by rfl, rfl⟩) ?_
    (try simp only [Act.put, List.setIfInBounds_toArray, List.set_cons_zero, List.set_cons_succ])
    refine wpAny_take (i := 8) (oi := { dst := some 41, op := Op.convert 23 22 (Operand.tmp 40), type := 22, pos := "rec.go:68", after := #[{ on := 7, ground := Ground.data }, { on := 4, ground := Ground.guard }], guard := some (4, true) }) (v := undef) rfl (by kernel_rfl) (by kernel_rfl) (by kernel_rfl) (fun _ _ _ h => h) (Or.inr ⟨by rfl, rfl⟩) ?_
    (try simp only [Act.put, List.setIfInBounds_toArray, List.set_cons_zero, List.set_cons_succ])
    refine wpAny_take (i := 9) (oi := { dst := some 42, op := Op.move (Operand.tmp 0), type := 27, pos := "rec.go:68", after := #[{ on := 4, ground := Ground.guard }], guard := some (4, true) }) (v := undef) rfl (by kernel_rfl) (by kernel_rfl) (by kernel_rfl) (fun _ _ _ h => h) (Or.inr ⟨by rfl, rfl⟩) ?_
    (try simp only [Act.put, List.setIfInBounds_toArray, List.set_cons_zero, List.set_cons_succ])
    refine wpAny_take (i := 10) (oi := { dst := some 43, op := Op.call { callee := Callee.value (Operand.func 21), args := #[Operand.tmp 42], argTypes := #[27] }, type := 22, pos := "rec.go:68", after := #[{ on := 9, ground := Ground.data }, { on := 4, ground := Ground.chain }, { on := 4, ground := Ground.guard }], guard := some (4, true) }) (v := undef) rfl (by kernel_rfl) (by kernel_rfl) (by kernel_rfl) (fun _ _ _ h => h) (Or.inr ⟨by rfl, rfl⟩) ?_
    (try simp only [Act.put, List.setIfInBounds_toArray, List.set_cons_zero, List.set_cons_succ])
    refine wpAny_take (i := 11) (oi := { dst := some 44, op := Op.binOp BinOp.eql 22 (Operand.tmp 41) (Operand.tmp 43) 22, type := 4, pos := "rec.go:68", after := #[{ on := 8, ground := Ground.data }, { on := 10, ground := Ground.data }, { on := 4, ground := Ground.guard }], guard := some (4, true) }) (v := undef) rfl (by kernel_rfl) (by kernel_rfl) (by kernel_rfl) (fun _ _ _ h => h) (Or.inr ⟨by rfl, rfl⟩) ?_
    (try simp only [Act.put, List.setIfInBounds_toArray, List.set_cons_zero, List.set_cons_succ])
    refine wpAny_take (i := 12) (oi := { dst := some 45, op := Op.pick (Operand.tmp 37) (Operand.tmp 44) (Operand.const (Value.bool false)), type := 4, pos := "rec.go:68", after := #[{ on := 4, ground := Ground.data }, { on := 11, ground := Ground.data }], guard := none }) (v := ?_) rfl (by kernel_rfl) (by kernel_rfl) (by kernel_rfl) (fun _ _ _ h => h) (Or.inl ⟨by rfl, ?_⟩) ?_
    rotate_left
    · (intro w; go_simp; (try with_reducible rfl))
    (try simp only [Act.put, List.setIfInBounds_toArray, List.set_cons_zero, List.set_cons_succ])
    refine wpAny_ready (rs := [13]) (by kernel_rfl) (by simp) ?_
    refine (AllReady.cons (o := { dst := some 46, op := Op.call { callee := Callee.value (Operand.func 32), args := #[Operand.tmp 45, Operand.const (Value.string { data := #[116, 104, 101, 32, 115, 117, 109] })], argTypes := #[4, 63] }, type := 0, pos := "rec.go:68", after := #[{ on := 12, ground := Ground.data }, { on := 10, ground := Ground.chain }], guard := none }) rfl (fun K hK => ?_) AllReady.nil)
    go_simp
    refine (must_no _ _).mono ?_
    rintro e w6 ⟨⟨u, pv, rfl⟩, rfl⟩
    exact ⟨rfl, rec_no (below_drew HB3.out) HNO.out u pv⟩
end Go.Proofs.YtefgahakbnfdeaaDoor.Rc
