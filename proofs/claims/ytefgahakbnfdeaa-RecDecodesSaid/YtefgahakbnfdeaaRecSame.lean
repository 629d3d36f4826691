/- coamingref11.Same: are records alike? -/
import Derived.Test.YtefgahakbnfdeaaRecUtil
import Derived.Test.YtefgahakbnfdeaaWEqStruct
namespace Go.Proofs.Ytefgahakbnfdeaa.Rc
open Go.RowKit Go.Proofs.YtefgahakbnfdeaaW.PrintWords Go.Proofs.YtefgahakbnfdeaaW.PrintMore Go.Proofs.Ytefgahakbnfdeaa.Base
set_option linter.unusedVariables false
set_option linter.unusedSimpArgs false
theorem itm_bne (x y : Itm) : ((x = y) ↔ ((x.1 : Int) = y.1 ∧ (x.2.1 : Int) = y.2.1 ∧ (x.2.2.1 : Int) = y.2.2.1 ∧ (x.2.2.2.1 : Int) = y.2.2.2.1 ∧ (x.2.2.2.2 : Int) = y.2.2.2.2)) := by
  obtain ⟨a, b, c, d, e⟩ := x
  obtain ⟨a', b', c', d', e'⟩ := y
  simp only [Prod.mk.injEq]
  omega
theorem eqItm (d : Nat) (w : World) (x0 y0 x1 y1 x2 y2 x3 y3 x4 y4 : Int) :
    (Op.equalIn (d + 2) 47 (.agg #[.int .u32 x0, .int .u64 x1, .int .u8 x2, .int .u32 x3, .int .u16 x4]) (.agg #[.int .u32 y0, .int .u64 y1, .int .u8 y2, .int .u32 y3, .int .u16 y4])).run Try.prog w = .ok (x0 == y0 && (x1 == y1 && (x2 == y2 && (x3 == y3 && x4 == y4)))) w := by
  refine eqA_of Try.underlying47 (by kernel_rfl) ?_
  refine eqf_cons (by rfl) (by go_simp; rfl) (by go_simp; rfl) (by go_simp) ?_
  refine eqf_cons (by rfl) (by go_simp; rfl) (by go_simp; rfl) (by go_simp) ?_
  refine eqf_cons (by rfl) (by go_simp; rfl) (by go_simp; rfl) (by go_simp) ?_
  refine eqf_cons (by rfl) (by go_simp; rfl) (by go_simp; rfl) (by go_simp) ?_
  exact eqf_last (by rfl) (by go_simp; rfl) (by go_simp; rfl) (by go_simp)
theorem eqItmB (w : World) (x y : Itm) (b : Bool) (hb : decide (x = y) = b) : (Op.equalIn 10000 47 (.agg (itV x)) (.agg (itV y))).run Try.prog w = .ok b w := by
  have h := eqItm 9998 w x.1 y.1 x.2.1 y.2.1 x.2.2.1 y.2.2.1 x.2.2.2.1 y.2.2.2.1 x.2.2.2.2 y.2.2.2.2
  refine h.trans ?_
  congr 1
  rw [← hb]
  rw [Bool.eq_iff_iff]
  simp only [Bool.and_eq_true, beq_iff_eq, decide_eq_true_eq]
  exact (itm_bne x y).symm
theorem same_nat {a b : List Itm} (h : a.length = b.length) (hh : ∀ i, i < a.length → a.getD i (0, 0, 0, 0, 0) = b.getD i (0, 0, 0, 0, 0)) : a = b := by
  apply List.ext_getElem h
  intro i h1 h2
  have := hh i h1
  rwa [List.getD_eq_getElem?_getD, List.getD_eq_getElem?_getD, List.getElem?_eq_getElem h1, List.getElem?_eq_getElem h2] at this
set_option maxRecDepth 100000 in
set_option maxHeartbeats 4000000 in
theorem rsame_calls (q1 q2 : Nat) (A B : Option Addr) (n m c d : Nat) (l1 l2 : List Itm) (w : World) (h : itK.C w A n l1) (g : itK.C w B m l2) :
    Calls Try.prog 18 #[.agg #[.int .u64 (q1 : Int), .slice A n c], .agg #[.int .u64 (q2 : Int), .slice B m d]] w
      fun e w' => e = .returned (.bool (decide (q1 = q2 ∧ l1 = l2))) ∧ Below w.heap.size w w' := by
  obtain ⟨hl, hm⟩ := C_len h
  obtain ⟨gl, gm⟩ := C_len g
  have HL := Aside0.mk hl
  have GL := Aside0.mk gl
  have HC := Aside0.mk h
  have GC := Aside0.mk g
  have HB := Aside0.mk (show Below w.heap.size w ((w.alloc (.cells #[.int .u64 (q1 : Int), .slice A n c] 25)).alloc (.cells #[.int .u64 (q2 : Int), .slice B m d] 25)) from below_alloc (alloc_below _ _) _)
  have HAA := Aside0.mk (show ((w.alloc (.cells #[.int .u64 (q1 : Int), .slice A n c] 25)).alloc (.cells #[.int .u64 (q2 : Int), .slice B m d] 25)).heap[w.heap.size]? = some (.cells #[.int .u64 (q1 : Int), .slice A n c] 25 (0, 0)) ∧
    ((w.alloc (.cells #[.int .u64 (q1 : Int), .slice A n c] 25)).alloc (.cells #[.int .u64 (q2 : Int), .slice B m d] 25)).heap[w.heap.size + 1]? = some (.cells #[.int .u64 (q2 : Int), .slice B m d] 25 (0, 0)) from ⟨blk_past (blk_here rfl), blk_here (by simp)⟩)
  clear h g hl gl
  by_cases hq : q1 = q2
  case neg =>
    have hqb : ((q1 : Int) != (q2 : Int)) = true := by rw [bne_iff_ne]; omega
    have HE := Aside0.mk (show decide (q1 = q2 ∧ l1 = l2) = false from decide_eq_false (fun hh => hq hh.1))
    rw [HE.out]
    clear hq
    go_enter Try.func18, Try.ntmps18
    go_wp2
    go_ret
    exact ⟨rfl, HB.out⟩
  have hqb : ((q1 : Int) != (q2 : Int)) = false := by rw [bne_eq_false_iff_eq]; omega
  by_cases hn : n = m
  case neg =>
    have hnb : ((n : Int) != (m : Int)) = true := by rw [bne_iff_ne]; omega
    have HE := Aside0.mk (show decide (q1 = q2 ∧ l1 = l2) = false from decide_eq_false (fun hh => hn (by rw [← HL.out, ← GL.out, hh.2])))
    rw [HE.out]
    clear hq hn
    go_enter Try.func18, Try.ntmps18
    go_wp2
    go_ret
    exact ⟨rfl, HB.out⟩
  subst hn
  have hnb : ((n : Int) != (n : Int)) = false := by rw [bne_eq_false_iff_eq]
  have HQ := Aside0.mk hq
  clear hq
  go_enter Try.func18, Try.ntmps18
  go_wp2
  obtain ⟨W, hW⟩ : ∃ W, (w.alloc (.cells #[.int .u64 (q1 : Int), .slice A n c] 25)).alloc (.cells #[.int .u64 (q2 : Int), .slice B n d] 25) = W := ⟨_, rfl⟩
  obtain ⟨ga, hga⟩ : ∃ ga, w.heap.size = ga := ⟨_, rfl⟩
  rw [hW] at HB HAA ⊢
  rw [hga] at HAA ⊢
  clear hW hga hqb hnb
  go_loopg [5] n (fun g1 v5 wr => ∃ i k : Nat, v5 = .int .i64 (i : Int) ∧ i ≤ n ∧ Aside0 (g1 + i = n) ∧ Aside0 (∀ j, j < i → l1.getD j (0, 0, 0, 0, 0) = l2.getD j (0, 0, 0, 0, 0)) ∧ wr = W.drewN k)
  case atStart => exact ⟨0, 0, rfl, by omega, ⟨rfl⟩, ⟨fun j hj => by omega⟩, rfl⟩
  case round =>
    obtain ⟨i, k, rfl, hi, HK, HS, rfl⟩ := hrel
    have f0 : W.cell? ⟨ga, 1, none⟩ = some (.slice A n c) := by simp [World.cell?, HAA.out.1]
    have f1 : W.cell? ⟨ga + 1, 1, none⟩ = some (.slice B n d) := by simp [World.cell?, HAA.out.2]
    by_cases hlt : i < n
    · have hd0 : decide ((i : Int) < (n : Int)) = true := decide_eq_true (by omega)
      have hd0' : decide (i < n) = true := decide_eq_true hlt
      obtain ⟨pa, rfl, -, e0, e1, e2, e3, e4⟩ := itm_at (Kd.C_below HC.out HB.out) (0, 0, 0, 0, 0) i hlt
      obtain ⟨pb, rfl, -, b0, b1, b2, b3, b4⟩ := itm_at (Kd.C_below GC.out HB.out) (0, 0, 0, 0, 0) i hlt
      obtain ⟨x, hx⟩ : ∃ x, l1.getD i (0, 0, 0, 0, 0) = x := ⟨_, rfl⟩
      obtain ⟨y, hy⟩ : ∃ y, l2.getD i (0, 0, 0, 0, 0) = y := ⟨_, rfl⟩
      rw [hx] at e0 e1 e2 e3 e4
      rw [hy] at b0 b1 b2 b3 b4
      have HX := Aside0.mk hx
      have HY := Aside0.mk hy
      clear hx hy
      have hi0 : (0 : Int) ≤ (i : Int) := by omega
      have hi1 : (i : Int) < (n : Int) := by omega
      obtain ⟨bb, hbb⟩ : ∃ bb, decide (x = y) = bb := ⟨_, rfl⟩
      have heq := fun w => eqItmB w x y bb hbb
      unfold itV at heq
      have HBB := Aside0.mk hbb
      have hgu : ∀ (X Y : Operand) (xs ys : Array Value) (w : World), (eqGuard .neq 47 X Y (.agg xs) (.agg ys)).run Try.prog w = .ok () w := fun X Y xs ys w => run_eqGuard_agg w .neq _ X Y xs ys (by kernel_rfl)
      clear hbb
      go_wp2
      go_quiet (fail)
      clear heq hgu
      cases bb with
      | true =>
        go_wp2
        go_roundg (gk - 1)
        case measure => have := HK.out; omega
        case rel =>
          refine ⟨i + 1, k + nq, by congr 1, by omega, ⟨by have := HK.out; omega⟩, ⟨fun j hj => ?_⟩, by first | rfl | rw [World.drewN_drewN]⟩
          by_cases hji : j < i
          · exact HS.out j hji
          · obtain rfl : j = i := by omega
            rw [HX.out, HY.out]
            exact of_decide_eq_true HBB.out
      | false =>
        have HNE := Aside0.mk (show ¬ l1 = l2 from fun hh => by
          have := of_decide_eq_false HBB.out
          apply this
          rw [← HX.out, ← HY.out, hh])
        go_wp2
        go_ret
        exact ⟨by rw [decide_eq_false (fun hh => HNE.out hh.2)]; rfl, pw_below_drewN (pw_below_drewN HB.out k) nq⟩
    · obtain rfl : i = n := by omega
      have hd0 : decide ((i : Int) < (i : Int)) = false := decide_eq_false (by omega)
      go_wp2
      go_ret
      have he : l1 = l2 := same_nat (by rw [HL.out, GL.out]) (fun j hj => HS.out j (by rw [HL.out] at hj; exact hj))
      exact ⟨by rw [decide_eq_true ⟨HQ.out, he⟩]; rfl, pw_below_drewN HB.out k⟩
end Go.Proofs.Ytefgahakbnfdeaa.Rc
