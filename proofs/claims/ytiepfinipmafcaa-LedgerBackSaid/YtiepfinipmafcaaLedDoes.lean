/- LedgerDoes: any calls: each answers as the chapter says. -/
import Derived.Test.YtiepfinipmafcaaLedAllR
import Derived.Test.YtiepfinipmafcaaLedApart
namespace Go.Proofs.Ytiepfinipmafcaa.Led
open Go.RowKit Go.Maps Go.Proofs.YtiepfinipmafcaaW.PrintWords Go.Proofs.YtiepfinipmafcaaW.PrintMore Go.Proofs.Ytiepfinipmafcaa.Base
set_option linter.unusedVariables false
set_option linter.unusedSimpArgs false
theorem len_take {l l' : List Row} {k m : Nat} {b : Bool} (h : TakeL l k m b l') : l'.length = l.length := by
  rcases h with ⟨-, -, rfl⟩ | ⟨j, -, -, -, ⟨-, -, rfl⟩ | ⟨-, -, rfl⟩⟩
  · rfl
  · exact setL_length _ _ _
  · rfl
theorem len_give {l l' : List Row} {k m : Nat} {b : Bool} (h : GiveL l k m b l') : l'.length = l.length := by
  rcases h with ⟨-, -, rfl⟩ | ⟨j, -, -, -, ⟨-, -, rfl⟩ | ⟨-, -, rfl⟩⟩
  · rfl
  · exact setL_length _ _ _
  · rfl
theorem setF_some (f : Nat → Option (Nat × Nat)) (k j : Nat) (x : Nat × Nat) : (setF f k x j).isSome = (f j).isSome := by
  unfold setF
  split
  · rename_i h
    unfold upd
    by_cases e : j = k
    · subst e; simp [h]
    · simp [e]
  · rfl
theorem takeF_some (f : Nat → Option (Nat × Nat)) (k m j : Nat) : (takeF f k m j).isSome = (f j).isSome := by
  unfold takeF
  split
  · exact setF_some _ _ _ _
  · rfl
theorem giveF_some (f : Nat → Option (Nat × Nat)) (k m j : Nat) : (giveF f k m j).isSome = (f j).isSome := by
  unfold giveF
  split
  · exact setF_some _ _ _ _
  · rfl
theorem opF_some (gv : Bool) (f : Nat → Option (Nat × Nat)) (k m j : Nat) : (opF gv f k m j).isSome = (f j).isSome := by
  unfold opF
  split
  · exact giveF_some _ _ _ _
  · exact takeF_some _ _ _ _
theorem newF_some {k : Nat} : ∀ (xs : List Ten) (f : Nat → Option (Nat × Nat)), (xs.foldl (fun f t => upd f t.1 (t.2.2.1, 0)) f k).isSome = true → (f k).isSome = true ∨ ∃ t ∈ xs, t.1 = k
  | [], f, h => .inl h
  | t :: xs, f, h => by
    rcases newF_some xs _ h with h1 | ⟨u, h1, h2⟩
    · have h1 : (if k = t.1 then some (t.2.2.1, 0) else f k).isSome = true := h1
      by_cases e : k = t.1
      · exact .inr ⟨t, List.mem_cons_self .., e.symm⟩
      · rw [if_neg e] at h1; exact .inl h1
    · exact .inr ⟨u, List.mem_cons_of_mem _ h1, h2⟩
theorem newF_big {w : World} {A : Option Addr} {n : Nat} {xs : List Ten} (h : tenK.C w A n xs) : ∀ k, (newF xs k).isSome = true → k < 4294967296 := fun k hk => by
  rcases newF_some xs _ hk with h1 | ⟨t, h1, rfl⟩
  · cases h1
  · exact (ten_bounds h t h1).1
set_option maxHeartbeats 4000000 in
theorem does2_calls (xb bm n k m xr : Nat) (gv : Bool) (f : Nat → Option (Nat × Nat)) (l : List Row) (hk : k < 4294967296) (hm : m < 18446744073709551616) (hn : n < maxLen) (hf : Good f) (hl : GoodL l) (hfl : FL f l) (hx : xb < xr) (hb : bm < xr) (w : World) (h : Ledg w xb bm n f) (hr : RefL w xr l) :
    Calls Try.prog 13 #[.pointer (some ⟨xb, 0, none⟩), .pointer (some ⟨xr, 0, none⟩), .agg #[.bool gv, .int .u32 (k : Int), .int .u64 (m : Int)]] w
      fun e w' => e = .returned (.bool true) ∧ Ledg w' xb bm (n + 1) (opF gv f k m) ∧ (∃ l', RefL w' xr l' ∧ GoodL l' ∧ FL (opF gv f k m) l' ∧ l'.length = l.length) ∧ Keeps w w' bm xr := by
  obtain ⟨⟨y, z⟩, hyz⟩ : ∃ x, (f k).getD (0, 0) = x := ⟨_, rfl⟩
  have HYZ := Aside0.mk hyz
  have HF := Aside0.mk hf
  have HLL := Aside0.mk hl
  have hbs := h.acc.lt
  have hba := alloc_below w (.cells #[.bool gv, .int .u32 (k : Int), .int .u64 (m : Int)] 33)
  have HL := Aside0.mk (show Ledg (w.alloc (.cells #[.bool gv, .int .u32 (k : Int), .int .u64 (m : Int)] 33)).drew xb bm n f from (h.below hba).below (below_drew (Below.refl _ _)))
  have HR := Aside0.mk (show RefL (w.alloc (.cells #[.bool gv, .int .u32 (k : Int), .int .u64 (m : Int)] 33)).drew xr l from (hr.below hba).below (below_drew (Below.refl _ _)))
  have HK := Aside0.mk (show Keeps w (w.alloc (.cells #[.bool gv, .int .u32 (k : Int), .int .u64 (m : Int)] 33)).drew bm xr from (keeps_below bm xr hba).trans (keeps_below bm xr (below_drew (Below.refl _ _))))
  have HB := Aside0.mk (show (w.alloc (.cells #[.bool gv, .int .u32 (k : Int), .int .u64 (m : Int)] 33)).drew.heap[w.heap.size]? = some (.cells #[.bool gv, .int .u32 (k : Int), .int .u64 (m : Int)] 33 (0, 0)) from blk_here (W := w) rfl)
  have HNE := Aside0.mk (show (some w.heap.size : Option Nat) ≠ some bm from by simp; omega)
  have HX := Aside0.mk hx
  have HFL := Aside0.mk hfl
  have HBX := Aside0.mk hb
  clear h hr hf hl hyz hba hbs hx hb hfl
  cases gv with
  | true =>
    go_enter Try.func13, Try.ntmps13
    go_wp2
    generalize w.alloc (.cells #[.bool true, .int .u32 (k : Int), .int .u64 (m : Int)] 33) = W at *
    generalize w.heap.size = g at *
    obtain ⟨c1, c2, _⟩ := blk_cells HB.out
    go_region_held3 (fun w' => w'.cell? ⟨g, 1, none⟩ = some (.int .u32 (k : Int)) ∧ w'.cell? ⟨g, 2, none⟩ = some (.int .u64 (m : Int)) ∧ w'.heap[g]? = some (.cells #[.bool true, .int .u32 (k : Int), .int .u64 (m : Int)] 33 (0, 0)))
      (first
        | exact blk_cells HB.out
        | (go_split_ands; exact blk_cells (box_kept (by assumption) hg8 HNE.out))
        | (go_split_ands; exact blk_cells (box_kept (by assumption) hg9 (box_ne hgg9 (by assumption)))))
      (first
        | (go_at_call 14; (first | (with_reducible refine (give_calls xb bm n k m f hk hm hn HF.out y z HYZ.out _ HL.out).mono ?_) | (with_reducible refine (give_calls xb bm n k m f hk hm hn HF.out y z HYZ.out _ (HL.out.kept hg9 (fun e => by have := (hgg9 _ e.symm).1; have := HX.out; omega) (fun e => by have := (hgg9 _ e.symm).1; have := HBX.out; omega))).mono ?_)); rintro e w8 ⟨rfl, hl8, hg8⟩)
        | (go_at_call 26; (first | (with_reducible refine (refgive_calls xr k m hk hm l HLL.out _ HR.out).mono ?_) | (with_reducible refine (refgive_calls xr k m hk hm l HLL.out _ (HR.out.grown hg8 (fun k hk => by simp at hk; have := HBX.out; omega))).mono ?_)); rintro e w9 ⟨b9, l9, row9, rfl, ht9, hr9, hg9, hgg9⟩))
    go_wp2
    go_ret
    obtain ⟨hb9, hfl9⟩ := HFL.out.give ht9
    rw [HYZ.out] at hb9
    refine ⟨?_, ?_, ⟨l9, ?_, goodL_give HLL.out ht9, hfl9, len_give ht9⟩, ?_⟩
    · rw [hb9]
      first | exact congrArg (fun b => Ending.returned (.bool b)) (beq_self_eq_true _) | (simp; done) | fail
    · exact hl8.kept hg9 (fun e => by have := (hgg9 _ e.symm).1; have := HX.out; omega) (fun e => by have := (hgg9 _ e.symm).1; have := HBX.out; omega)
    · exact hr9
    · exact (HK.out.trans (keeps_map xr hg8)).trans (keeps_row bm hg9 (fun g hg => (hgg9 g hg).1))
  | false =>
    go_enter Try.func13, Try.ntmps13
    go_wp2
    generalize w.alloc (.cells #[.bool false, .int .u32 (k : Int), .int .u64 (m : Int)] 33) = W at *
    generalize w.heap.size = g at *
    obtain ⟨c1, c2, _⟩ := blk_cells HB.out
    go_region_held3 (fun w' => w'.cell? ⟨g, 1, none⟩ = some (.int .u32 (k : Int)) ∧ w'.cell? ⟨g, 2, none⟩ = some (.int .u64 (m : Int)) ∧ w'.heap[g]? = some (.cells #[.bool false, .int .u32 (k : Int), .int .u64 (m : Int)] 33 (0, 0)))
      (first
        | exact blk_cells HB.out
        | (go_split_ands; exact blk_cells (box_kept (by assumption) hg8 HNE.out))
        | (go_split_ands; exact blk_cells (box_kept (by assumption) hg9 (box_ne hgg9 (by assumption)))))
      (first
        | (go_at_call 15; (first | (with_reducible refine (take_calls xb bm n k m f hk hm hn HF.out y z HYZ.out _ HL.out).mono ?_) | (with_reducible refine (take_calls xb bm n k m f hk hm hn HF.out y z HYZ.out _ (HL.out.kept hg9 (fun e => by have := (hgg9 _ e.symm).1; have := HX.out; omega) (fun e => by have := (hgg9 _ e.symm).1; have := HBX.out; omega))).mono ?_)); rintro e w8 ⟨rfl, hl8, hg8⟩)
        | (go_at_call 27; (first | (with_reducible refine (reftake_calls xr k m hk hm l HLL.out _ HR.out).mono ?_) | (with_reducible refine (reftake_calls xr k m hk hm l HLL.out _ (HR.out.grown hg8 (fun k hk => by simp at hk; have := HBX.out; omega))).mono ?_)); rintro e w9 ⟨b9, l9, row9, rfl, ht9, hr9, hg9, hgg9⟩))
    go_wp2
    go_ret
    obtain ⟨hb9, hfl9⟩ := HFL.out.take ht9
    rw [HYZ.out] at hb9
    refine ⟨?_, ?_, ⟨l9, ?_, goodL_take HLL.out ht9, hfl9, len_take ht9⟩, ?_⟩
    · rw [hb9]
      first | exact congrArg (fun b => Ending.returned (.bool b)) (beq_self_eq_true _) | (simp; done) | fail
    · exact hl8.kept hg9 (fun e => by have := (hgg9 _ e.symm).1; have := HX.out; omega) (fun e => by have := (hgg9 _ e.symm).1; have := HBX.out; omega)
    · exact hr9
    · exact (HK.out.trans (keeps_map xr hg8)).trans (keeps_row bm hg9 (fun g hg => (hgg9 g hg).1))
/-- The ledger and the document's, while all goes well. -/
structure Inv2 (w0 w : World) (xb bm xr n : Nat) (f : Nat → Option (Nat × Nat)) (l : List Row) : Prop where
  x : Ledg w xb bm n f
  r : RefL w xr l
  gf : Good f
  gl : GoodL l
  fl : FL f l
  big : ∀ k, (f k).isSome = true → k < 4294967296
  ll : l.length ≤ 70
  below : Below w0.heap.size w0 w
  o1 : xb < xr ∧ bm < xr
  o2 : w0.heap.size ≤ xb ∧ w0.heap.size ≤ bm
theorem Inv2.go {w0 w w1 : World} {xb bm xr n : Nat} {f : Nat → Option (Nat × Nat)} {l : List Row} (h : Inv2 w0 w xb bm xr n f l) (hb : Below w.heap.size w w1) : Inv2 w0 w1 xb bm xr n f l :=
  ⟨h.x.below hb, h.r.below hb, h.gf, h.gl, h.fl, h.big, h.ll, below_then h.below h.below.size hb, h.o1, h.o2⟩
theorem used_C {w : World} {b : Nat} {e : Nat → Prop} {A : Option Addr} {n c : Nat} {xs : List (Nat × Nat)} (h : Kd.N usedK 72 w b e (.slice A n c) xs) : usedK.C w A n xs := by
  obtain ⟨A', c', e', -, h2⟩ := Kd.N_reads h
  injection e' with e1 e2 e3
  subst e1 e2 e3
  exact h2
set_option maxRecDepth 100000 in
set_option maxHeartbeats 4000000 in
theorem ldoes_calls (A : Option Addr) (n cap : Nat) (xs : List Ten) (A' : Option Addr) (n' cap' : Nat) (ys : List LOp) (w : World) (h : tenK.C w A n xs) (h' : opK.C w A' n' ys) :
    Calls Try.prog 8 #[.slice A n cap, .slice A' n' cap'] w fun e w' => e = .returned (.bool true) ∧ Below w.heap.size w w' := by
  obtain ⟨hlen', hmax'⟩ := C_len h'
  obtain ⟨hlen, hmax⟩ := C_len h
  have H := Aside0.mk h
  have H' := Aside0.mk h'
  have HLen := Aside0.mk hlen
  have HLen' := Aside0.mk hlen'
  clear h h' hlen hlen'
  by_cases hn' : n' ≤ 200
  · go_enter Try.func8, Try.ntmps8
    go_wp2_with fail
    refine (tenants_calls A n cap xs _ H.out).mono ?_
    rintro e w1 ⟨rfl | ⟨rfl, hn⟩, rfl⟩
    · go_wp2_with fail
      refine (known_calls _).mono ?_
      rintro e w2 ⟨rfl, hw2⟩
      go_wp2
      go_ret
      exact ⟨rfl, hw2⟩
    · go_wp2_with fail
      refine (known_calls _).mono ?_
      rintro e w2 ⟨rfl, hw2⟩
      have HB2 := Aside0.mk hw2
      clear hw2
      go_wp2_with fail
      refine (new_calls A n cap xs (by omega) _ (Kd.C_below H.out HB2.out)).mono ?_
      rintro e w3 ⟨xb, bm, rfl, hl3, hx3, hb3, hw3⟩
      have HL3 := Aside0.mk hl3
      have HB3 := Aside0.mk (below_go HB2.out hw3)
      have hbx : w.heap.size ≤ xb ∧ w.heap.size ≤ bm := by have := HB2.out.size; omega
      have HBX := Aside0.mk hbx
      clear hl3 hx3 hb3 hw3 HB2 hbx
      go_wp2_with fail
      refine (refnew_calls A n cap xs (by omega) _ (Kd.C_below H.out HB3.out)).mono ?_
      rintro e w5 ⟨xr, rfl, hr5, hx5, hw5⟩
      have HI := Aside0.mk (show Inv2 w w5 xb bm xr n (newF xs) (newL xs) from by
        have h1 := (Array.getElem?_eq_some_iff.1 HL3.out.cell).1
        have h2 := HL3.out.acc.lt
        have hg := Good.newF (l := xs) (fun t ht => (ten_bounds H.out t ht).2)
        exact ⟨HL3.out.below hw5, hr5, hg, goodL_newL xs, FL.new xs, newF_big H.out, newL_len 70 xs (by rw [HLen.out]; exact hn), below_go HB3.out hw5, by omega, HBX.out⟩)
      clear hr5 hx5 hw5 HL3 HB3 HBX
      go_wp2
      go_loopg [8] n' (fun k v8 wr => ∃ i : Nat, v8 = .int .i64 (i : Int) ∧ i ≤ n' ∧ Aside0 (k + i = n') ∧ Aside0 (∃ f l, Inv2 w wr xb bm xr (n + i) f l))
      case atStart => exact ⟨0, rfl, by omega, ⟨rfl⟩, ⟨_, _, HI.out⟩⟩
      case round =>
        obtain ⟨i, rfl, hi, HK, ⟨f, l, hinv⟩⟩ := hrel
        have HV := Aside0.mk hinv
        clear hinv
        by_cases hlt : i < n'
        · obtain ⟨o, ho⟩ : ∃ o, ys.getD i (false, 0, 0) = o := ⟨_, rfl⟩
          obtain ⟨ad, rfl, h1, h2, c0, c1, c2⟩ := op_at (Kd.C_below H'.out HV.out.below) i hlt o ho
          obtain ⟨gv, k, m⟩ := o
          simp only at h1 h2 c0 c1 c2
          clear ho
          go_wp2_with fail
          have hox := HV.out.o1
          refine (does2_calls xb bm (n + i) k m xr gv f l h1 h2 (by unfold maxLen; omega) HV.out.gf HV.out.gl HV.out.fl (by omega) (by omega) _ HV.out.x HV.out.r).mono ?_
          rintro e w6 ⟨rfl, hl6, ⟨l6, hr6, hg6, hfl6, hll6⟩, hk6⟩
          have HV6 := Aside0.mk (show Inv2 w w6 xb bm xr (n + (i + 1)) (opF gv f k m) l6 from
            ⟨hl6, hr6, HV.out.gf.opF _ _ _, hg6, hfl6, fun j hj => HV.out.big j (by rw [← opF_some gv f k m j]; exact hj), by rw [hll6]; exact HV.out.ll, HV.out.below.trans (hk6.2 _ HV.out.o2.2 (by have := HV.out.o2; omega) HV.out.below.size), HV.out.o1, HV.out.o2⟩)
          clear hl6 hr6 hg6 hk6 hox hfl6 hll6
          generalize opF gv f k m = f' at *
          obtain ⟨⟨y, z⟩, hyz⟩ : ∃ x, (f' k).getD (0, 0) = x := ⟨_, rfl⟩
          have HYZ := Aside0.mk hyz
          have HYL := Aside0.mk (show (lookL l6 k).getD (0, 0) = (y, z) by rw [← HV6.out.fl.look]; exact hyz)
          clear hyz c0 c1 c2
          go_wp2_with fail
          refine (used_calls xb bm (n + (i + 1)) k f' h1 y z HYZ.out _ HV6.out.x).mono ?_
          rintro e w7 ⟨rfl, rfl⟩
          go_wp2_with fail
          refine (refused_calls xr k h1 l6 _ HV6.out.r).mono ?_
          rw [HYL.out]
          rintro e w7 ⟨rfl, rfl⟩
          go_wp2_with fail
          refine (left_calls xb bm (n + (i + 1)) k f' h1 HV6.out.gf y z HYZ.out _ HV6.out.x).mono ?_
          rintro e w8 ⟨rfl, hw8⟩
          have HV8 := Aside0.mk (HV6.out.go hw8)
          clear hw8 HV6
          go_wp2_with fail
          refine (refleft_calls xr k h1 l6 HV8.out.gl _ HV8.out.r).mono ?_
          rw [HYL.out]
          rintro e w9 ⟨rfl, hw9⟩
          have HV9 := Aside0.mk (HV8.out.go hw9)
          clear hw9 HV8
          go_wp2_with fail
          refine (all_calls xb bm (n + (i + 1)) f' (by omega) HV9.out.gf HV9.out.big _ HV9.out.x).mono ?_
          rintro e wa ⟨va, ks, rfl, hrise, -, hNa, hwa⟩
          have HVa := Aside0.mk (HV9.out.go hwa)
          have hus := HVa.out.fl.used hrise
          rw [hus] at hNa
          obtain ⟨Aa, na, ca, rfl, -, -⟩ := N_open hNa
          have HNa := Aside0.mk hNa
          clear hwa HV9 hrise hus hNa
          go_wp2_with fail
          refine (refall_calls xr l6 HVa.out.gl (by have := HVa.out.ll; omega) _ HVa.out.r).mono ?_
          rintro e wb ⟨vb, rfl, hNb, hwb⟩
          obtain ⟨Ab, nb, cb, rfl, -, -⟩ := N_open hNb
          have HVb := Aside0.mk (HVa.out.go hwb)
          have HCa := Aside0.mk (used_C (Kd.N_below HNa.out hwb))
          have HCb := Aside0.mk (used_C hNb)
          clear hwb HVa hNb HNa
          go_wp2_with fail
          refine (sameused_calls Aa Ab na nb ca cb _ _ HCa.out HCb.out).mono ?_
          rintro e wc ⟨rfl, hwc⟩
          have HVc := Aside0.mk (HVb.out.go hwc)
          clear hwc HVb
          go_wp2
          go_roundg (gk - 1)
          case measure => have := HK.out; omega
          case rel => exact ⟨i + 1, by congr 1, by omega, ⟨by have := HK.out; omega⟩, ⟨_, _, HVc.out⟩⟩
        · obtain rfl : i = n' := by omega
          go_wp2_with fail
          refine (all_calls xb bm (n + i) f (by omega) HV.out.gf HV.out.big _ HV.out.x).mono ?_
          rintro e wa ⟨va, ks, rfl, hrise, -, hNa, hwa⟩
          have HVa := Aside0.mk (HV.out.go hwa)
          have hus := HVa.out.fl.used hrise
          rw [hus] at hNa
          obtain ⟨Aa, na, ca, rfl, -, -⟩ := N_open hNa
          have HNa := Aside0.mk hNa
          clear hwa HV hrise hus hNa
          go_wp2_with fail
          refine (refall_calls xr l HVa.out.gl (by have := HVa.out.ll; omega) _ HVa.out.r).mono ?_
          rintro e wb ⟨vb, rfl, hNb, hwb⟩
          obtain ⟨Ab, nb, cb, rfl, -, -⟩ := N_open hNb
          have HVb := Aside0.mk (HVa.out.go hwb)
          have HCa := Aside0.mk (used_C (Kd.N_below HNa.out hwb))
          have HCb := Aside0.mk (used_C hNb)
          clear hwb HVa hNb HNa
          go_wp2_with fail
          refine (sameused_calls Aa Ab na nb ca cb _ _ HCa.out HCb.out).mono ?_
          rintro e wc ⟨rfl, hwc⟩
          have HVc := Aside0.mk (HVb.out.go hwc)
          clear hwc HVb
          go_wp2
          go_ret
          exact ⟨rfl, HVc.out.below⟩
  · go_enter Try.func8, Try.ntmps8
    go_wp2_with fail
    refine (tenants_calls A n cap xs _ H.out).mono ?_
    rintro e w1 ⟨rfl | ⟨rfl, hn⟩, rfl⟩
    · go_wp2_with fail
      refine (known_calls _).mono ?_
      rintro e w2 ⟨rfl, hw2⟩
      go_wp2
      go_ret
      exact ⟨rfl, hw2⟩
    · go_wp2_with fail
      refine (known_calls _).mono ?_
      rintro e w2 ⟨rfl, hw2⟩
      go_wp2
      go_ret
      exact ⟨rfl, hw2⟩
theorem ldoes_walk (W : World) (a : Option Addr) (len cap : Nat) (l : List Ten) (le : len ≤ cap) (c : tenK.C W a len l) (a' : Option Addr) (len' cap' : Nat) (l' : List LOp) (le' : len' ≤ cap') (c' : opK.C W a' len' l') :
    Calls Try.prog 8 #[.slice a len cap, .slice a' len' cap'] W fun e w' => e = .returned (.bool true) ∧ Below W.heap.size W w' :=
  ldoes_calls a len cap l a' len' cap' l' W c c'
end Go.Proofs.Ytiepfinipmafcaa.Led
