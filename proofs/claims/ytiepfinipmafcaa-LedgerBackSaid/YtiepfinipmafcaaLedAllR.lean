/- The document's All, Used, Left; SameUsed. -/
import Derived.Test.YtiepfinipmafcaaLedAll
import Derived.Test.YtiepfinipmafcaaWEqStruct
namespace Go.Proofs.Ytiepfinipmafcaa.Led
open Go.RowKit Go.Maps Go.Proofs.YtiepfinipmafcaaW.PrintWords Go.Proofs.YtiepfinipmafcaaW.PrintMore Go.Proofs.Ytiepfinipmafcaa.Base
set_option linter.unusedVariables false
set_option linter.unusedSimpArgs false
set_option maxRecDepth 100000 in
set_option maxHeartbeats 4000000 in
theorem refall_calls (xb : Nat) (l : List Row) (hl : GoodL l) (hn : l.length ≤ 1000000) (w : World) (h : RefL w xb l) :
    Calls Try.prog 25 #[.pointer (some ⟨xb, 0, none⟩)] w
      fun e w' => ∃ v, e = .returned v ∧ Kd.N usedK 72 w' w.heap.size (fun k => w.heap.size ≤ k) v (l.map (fun r => (r.1, r.2.2))) ∧ Below w.heap.size w w' := by
  obtain ⟨A, c, hc, hC⟩ := h.at_
  obtain ⟨hlen, hmax⟩ := C_len hC
  have HC := Aside0.mk hC
  have HG := Aside0.mk hl
  clear h hC hlen hl
  obtain ⟨n, hnl⟩ : ∃ n, l.length = n := ⟨_, rfl⟩
  rw [hnl] at hc hmax HC hn
  have HNL := Aside0.mk hnl
  have HCX := Aside0.mk hc
  clear hnl hc
  go_enter Try.func25, Try.ntmps25
  go_wp2
  go_loopg [3, 4] n (fun g v3 v4 wr => ∃ i : Nat, v4 = .int .i64 (i : Int) ∧ i ≤ n ∧ Aside0 (g + i = n) ∧ Aside0 (Kd.N usedK 72 wr w.heap.size (fun k => w.heap.size ≤ k) v3 ((l.take i).map (fun r => (r.1, r.2.2)))) ∧ Aside0 (Below w.heap.size w wr))
  case atStart => exact ⟨0, rfl, Nat.zero_le _, ⟨rfl⟩, ⟨Kd.N_nil _ _ _ _ _⟩, ⟨Below.refl _ _⟩⟩
  case round =>
    obtain ⟨i, rfl, hi, HK, HNr, HBr⟩ := hrel
    obtain ⟨Ao, no, co, rfl, -, -⟩ := N_open HNr.out
    obtain ⟨Wr, rfl⟩ : ∃ Wr : World, Wr = wr := ⟨_, rfl⟩
    have hc := pw_cell_below HBr.out HCX.out
    by_cases hlt : i < n
    · have hd0 : decide ((i : Int) < (n : Int)) = true := decide_eq_true (by omega)
      have hd0' : decide (i < n) = true := decide_eq_true hlt
      have hi0 : (0 : Int) ≤ (i : Int) := by omega
      have hi1 : (i : Int) < (n : Int) := by omega
      obtain ⟨t, ht⟩ : ∃ t, l.getD i (0, 0, 0) = t := ⟨_, rfl⟩
      obtain ⟨ad, rfl, h1, h2, h3, c0, c1, c2⟩ := row_at HC.out i hlt t ht
      have HCW := Aside0.mk (And.intro HCX.out (And.intro c0 c2))
      have c0 := pw_cell_below HBr.out c0
      have c2 := pw_cell_below HBr.out c2
      have HTK := Aside0.mk (show (l.take (i + 1)).map (fun r => (r.1, r.2.2)) = (l.take i).map (fun r => (r.1, r.2.2)) ++ [(t.1, t.2.2)] by
        have hil : i < l.length := by rw [HNL.out]; exact hlt
        rw [List.take_succ_eq_append_getElem hil, List.map_append]
        have e : l[i] = t := by rw [← ht, List.getD_eq_getElem?_getD, List.getElem?_eq_getElem hil]; rfl
        rw [e]
        rfl)
      have HUL := Aside0.mk (show ((l.take i).map (fun r : Row => (r.1, r.2.2))).length ≤ 1000000 by rw [List.length_map, List.length_take]; omega)
      have hnd := Aside0.mk (Kd.N_drew HNr.out)
      have hbd := Aside0.mk (below_drew HBr.out)
      have H13 := Aside0.mk (And.intro h1 h3)
      have HCC := Aside0.mk (And.intro hc (And.intro c0 c2))
      clear c1 ht h1 h2 h3
      go_wp2
      go_region_held3 (fun w' => w'.cell? ⟨xb, 0, none⟩ = some (.slice (some ad) n c) ∧ w'.cell? (ad.add (i * 3)) = some (.int .u32 (t.1 : Int)) ∧ w'.cell? ⟨(ad.add (i * 3)).block, (ad.add (i * 3)).off + 2, none⟩ = some (.int .u64 (t.2.2 : Int)))
        (first | exact ⟨hc, c0, c2⟩ | exact ⟨pw_cell_below (alloc_below _ _) hc, pw_cell_below (alloc_below _ _) c0, pw_cell_below (alloc_below _ _) c2⟩ | exact ⟨pw_cell_below hb9 HCW.out.1, pw_cell_below hb9 HCW.out.2.1, pw_cell_below hb9 HCW.out.2.2⟩)
        (first | (refine app_scal_step (w0 := w) usedK (.tmp 14) (.tmp 32) 48 72 _ 16 (by rfl) rfl Try.underlying48 info_used rfl (by decide) (by decide) (.slice Ao no co) ((l.take i).map (fun r => (r.1, r.2.2))) (t.1, t.2.2) [.int .u32 (t.1 : Int), .int .u64 (t.2.2 : Int)] rfl (by simp [Act.eval]) hnd.out (fun W' => usedK_mk H13.out.1 H13.out.2) hbd.out (by have := HUL.out; omega) ?_; intro v9 w9 hN9 hb9))
      have HN9 := Aside0.mk hN9
      have HB9 := Aside0.mk hb9
      clear hN9 hb9
      go_wp2
      go_roundg (gk - 1)
      case measure => have := HK.out; omega
      case rel => exact ⟨i + 1, by congr 1, by omega, ⟨by have := HK.out; omega⟩, ⟨by rw [HTK.out]; exact HN9.out⟩, HB9⟩
    · obtain rfl : i = n := by omega
      have hd0 : decide ((i : Int) < (i : Int)) = false := decide_eq_false (by omega)
      have hd0' : decide (i < i) = false := decide_eq_false (by omega)
      have hall : l.take i = l := by rw [List.take_of_length_le (by rw [HNL.out]; exact Nat.le_refl _)]
      have hNA := HNr.out
      rw [hall] at hNA
      have HNA := Aside0.mk hNA
      clear hall hNA
      go_wp2
      go_ret
      exact ⟨_, rfl, HNA.out, HBr.out⟩
/-- What Used and Left of the document's ledger are. -/
theorem where_at {l : List Row} {k : Nat} {i : Int} (h : Where l k i) : (i = -1 ∧ lookL l k = none) ∨ ∃ j : Nat, i = (j : Int) ∧ j < l.length ∧ (l.getD j (0, 0, 0)).1 = k ∧ lookL l k = some (l.getD j (0, 0, 0)).2 := by
  rcases h with ⟨rfl, hn⟩ | ⟨j, rfl, hj, hk, hp⟩
  · exact .inl ⟨rfl, look_none hn⟩
  · refine .inr ⟨j, rfl, hj, hk, ?_⟩
    obtain ⟨l1, l2, e, h1, -⟩ := row_cut hj hk hp
    rw [e, look_mid (by rw [hk]; exact h1), if_pos hk.symm, ← e]
theorem refused_calls (xb k : Nat) (hk : k < 4294967296) (l : List Row) (w : World) (h : RefL w xb l) :
    Calls Try.prog 23 #[.pointer (some ⟨xb, 0, none⟩), .int .u32 (k : Int)] w fun e w' => e = .returned (.int .u64 (((lookL l k).getD (0, 0)).2 : Int)) ∧ w = w' := by
  have H := Aside0.mk h
  clear h
  go_enter Try.func23, Try.ntmps23
  go_wp2_with fail
  refine (at_calls xb k hk l _ H.out).mono ?_
  rintro e w1 ⟨i, rfl, rfl, hw⟩
  rcases where_at hw with ⟨rfl, he⟩ | ⟨j, rfl, hj, hjk, he⟩
  · have HE := Aside0.mk he
    clear he hw
    go_wp2
    go_ret
    exact ⟨by rw [HE.out]; rfl, rfl⟩
  · obtain ⟨A, c, hc, hC⟩ := H.out.at_
    obtain ⟨t, ht⟩ : ∃ t, l.getD j (0, 0, 0) = t := ⟨_, rfl⟩
    obtain ⟨ad, rfl, -, -, -, c0, c1, c2⟩ := row_at hC j hj t ht
    have HE := Aside0.mk (show ((lookL l k).getD (0, 0)).2 = t.2.2 by rw [he, ht]; rfl)
    have hd : decide ((j : Int) < 0) = false := decide_eq_false (by omega)
    have hj0 : (0 : Int) ≤ (j : Int) := by omega
    have hj1 : (j : Int) < (l.length : Int) := by omega
    clear he hw ht hjk hC c0 c1
    go_wp2
    go_ret
    exact ⟨by rw [HE.out]; rfl, rfl⟩
set_option maxHeartbeats 1000000 in
theorem refleft_calls (xb k : Nat) (hk : k < 4294967296) (l : List Row) (hl : GoodL l) (w : World) (h : RefL w xb l) :
    Calls Try.prog 24 #[.pointer (some ⟨xb, 0, none⟩), .int .u32 (k : Int)] w fun e w' => e = .returned (.int .u64 ((((lookL l k).getD (0, 0)).1 - ((lookL l k).getD (0, 0)).2 : Nat) : Int)) ∧ Below w.heap.size w w' := by
  have H := Aside0.mk h
  have HL := Aside0.mk hl
  clear h hl
  go_enter Try.func24, Try.ntmps24
  go_wp2_with fail
  refine (at_calls xb k hk l _ H.out).mono ?_
  rintro e w1 ⟨i, rfl, rfl, hw⟩
  rcases where_at hw with ⟨rfl, he⟩ | ⟨j, rfl, hj, hjk, he⟩
  · have HE := Aside0.mk he
    clear he hw
    go_wp2
    go_ret
    exact ⟨by rw [HE.out]; rfl, Below.refl _ _⟩
  · obtain ⟨A, c, hc, hC⟩ := H.out.at_
    obtain ⟨t, ht⟩ : ∃ t, l.getD j (0, 0, 0) = t := ⟨_, rfl⟩
    obtain ⟨ad, rfl, -, hb1, hb2, c0, c1, c2⟩ := row_at hC j hj t ht
    have hge := HL.out.get hj ht
    obtain ⟨y, hy⟩ : ∃ y, t.2.1 = y := ⟨_, rfl⟩
    obtain ⟨z, hz⟩ : ∃ z, t.2.2 = z := ⟨_, rfl⟩
    rw [hy] at c1 hb1 hge
    rw [hz] at c2 hb2 hge
    have HE := Aside0.mk (show ((lookL l k).getD (0, 0)).1 - ((lookL l k).getD (0, 0)).2 = y - z by rw [he, ht, ← hy, ← hz]; rfl)
    have hwr : IntKind.u64.wrap ((y : Int) - (z : Int)) = ((y - z : Nat) : Int) := by rw [IntKind.wrap_u64]; omega
    have hd : decide ((j : Int) < 0) = false := decide_eq_false (by omega)
    have hj0 : (0 : Int) ≤ (j : Int) := by omega
    have hj1 : (j : Int) < (l.length : Int) := by omega
    have HB := Aside0.mk (fun q : Nat => pw_below_drewN (Below.refl w.heap.size w) q)
    clear he hw ht hjk hC c0 hy hz
    go_wp2
    go_quiet (fail)
    go_wp2
    go_ret
    refine ⟨?_, HB.out _⟩
    rw [HE.out]
    first | rfl | (show Ending.returned (.int .u64 _) = _; exact ret_u64 (by omega))
theorem usd_at {w : World} {A : Option Addr} {n : Nat} {xs : List (Nat × Nat)} (h : usedK.C w A n xs) (i : Nat) (hi : i < n) {t : Nat × Nat} (ht : xs.getD i (0, 0) = t) :
    ∃ ad, A = some ad ∧ w.cell? (ad.add (i * 2)) = some (.int .u32 (t.1 : Int)) ∧ w.cell? ⟨(ad.add (i * 2)).block, (ad.add (i * 2)).off + 1, none⟩ = some (.int .u64 (t.2 : Int)) := by
  obtain ⟨ad, c, e, _, hK, hc⟩ := ReadsRow.get_ h (0, 0) (i : Int) (by omega) (by omega)
  rw [Int.toNat_natCast] at hK hc
  rw [ht] at hK
  obtain ⟨c0, c1, rfl, ⟨rfl, h0⟩, ⟨rfl, h1⟩⟩ := hK
  have hs : usedK.sz = 2 := rfl
  rw [hs] at hc
  exact ⟨ad, e, hc 0 _ rfl, cell_fld (hc 1 _ rfl) (by omega)⟩
theorem eqUsed (d : Nat) (w : World) (x0 x1 : Int) : (Op.equalIn (d + 2) 72 (.agg #[.int .u32 x0, .int .u64 x1]) (.agg #[.int .u32 x0, .int .u64 x1])).run Try.prog w = .ok true w := by
  have h : (Op.equalIn (d + 2) 72 (.agg #[.int .u32 x0, .int .u64 x1]) (.agg #[.int .u32 x0, .int .u64 x1])).run Try.prog w = .ok (x0 == x0 && x1 == x1) w := by
    refine eqA_of Try.underlying72 (by kernel_rfl) ?_
    refine eqf_cons (by rfl) (by go_simp; rfl) (by go_simp; rfl) (by go_simp) ?_
    exact eqf_last (by rfl) (by go_simp; rfl) (by go_simp; rfl) (by go_simp)
  refine h.trans ?_
  rw [beq_self_eq_true, beq_self_eq_true]
  rfl
set_option maxRecDepth 100000 in
set_option maxHeartbeats 4000000 in
theorem sameused_calls (A B : Option Addr) (n m c d : Nat) (xs : List (Nat × Nat)) (w : World) (h : usedK.C w A n xs) (g : usedK.C w B m xs) :
    Calls Try.prog 22 #[.slice A n c, .slice B m d] w fun e w' => e = .returned (.bool true) ∧ Below w.heap.size w w' := by
  obtain ⟨hl, hm⟩ := C_len h
  obtain ⟨gl, -⟩ := C_len g
  obtain rfl : n = m := by omega
  have HC := Aside0.mk h
  have GC := Aside0.mk g
  clear h g hl gl
  go_enter Try.func22, Try.ntmps22
  go_wp2
  go_loopg [5] n (fun g1 v5 wr => ∃ i k : Nat, v5 = .int .i64 (i : Int) ∧ i ≤ n ∧ Aside0 (g1 + i = n) ∧ wr = w.drewN k)
  case atStart => exact ⟨0, 0, rfl, by omega, ⟨rfl⟩, rfl⟩
  case round =>
    obtain ⟨i, k, rfl, hi, HK, rfl⟩ := hrel
    by_cases hlt : i < n
    · have hd0 : decide ((i : Int) < (n : Int)) = true := decide_eq_true (by omega)
      have hd0' : decide (i < n) = true := decide_eq_true hlt
      obtain ⟨x, hx⟩ : ∃ x, xs.getD i (0, 0) = x := ⟨_, rfl⟩
      obtain ⟨pa, rfl, e0, e1⟩ := usd_at HC.out i hlt hx
      obtain ⟨pb, rfl, b0, b1⟩ := usd_at GC.out i hlt hx
      clear hx
      have hi0 : (0 : Int) ≤ (i : Int) := by omega
      have hi1 : (i : Int) < (n : Int) := by omega
      have heq := fun w => eqUsed 9998 w x.1 x.2
      have hgu : ∀ (X Y : Operand) (xs ys : Array Value) (w : World), (eqGuard .neq 72 X Y (.agg xs) (.agg ys)).run Try.prog w = .ok () w := fun X Y xs ys w => run_eqGuard_agg w .neq _ X Y xs ys (by kernel_rfl)
      go_wp2
      go_quiet (fail)
      clear heq hgu
      go_wp2
      go_roundg (gk - 1)
      case measure => have := HK.out; omega
      case rel => exact ⟨i + 1, k + nq, by congr 1, by omega, ⟨by have := HK.out; omega⟩, by first | rfl | rw [World.drewN_drewN]⟩
    · obtain rfl : i = n := by omega
      have hd0 : decide ((i : Int) < (i : Int)) = false := decide_eq_false (by omega)
      go_wp2
      go_ret
      exact ⟨rfl, pw_below_drewN (Below.refl _ _) k⟩
end Go.Proofs.Ytiepfinipmafcaa.Led
