/- The chapter's example (known), and what the plain functions of accounts do. -/
import Derived.Test.YtiepfinipmafcaaLedWalks
namespace Go.Proofs.Ytiepfinipmafcaa.Led
open Go.RowKit Go.Maps Go.Proofs.YtiepfinipmafcaaW.PrintWords Go.Proofs.YtiepfinipmafcaaW.PrintMore Go.Proofs.Ytiepfinipmafcaa.Base
set_option linter.unusedVariables false
set_option linter.unusedSimpArgs false

theorem Good.upd {f : Nat → Option (Nat × Nat)} (h : Good f) {k : Nat} {x : Nat × Nat} (h1 : x.2 ≤ x.1) (h2 : x.1 < 18446744073709551616) : Good (upd f k x) := by
  intro j
  by_cases e : j = k
  · subst e; simpa [Led.upd] using ⟨h1, h2⟩
  · simpa [Led.upd, e] using h j
theorem Good.setF {f : Nat → Option (Nat × Nat)} (h : Good f) {k : Nat} {x : Nat × Nat} (h1 : x.2 ≤ x.1) (h2 : x.1 < 18446744073709551616) : Good (setF f k x) := by
  unfold Led.setF
  split
  · exact h.upd h1 h2
  · exact h
theorem Good.takeF {f : Nat → Option (Nat × Nat)} (h : Good f) (k m : Nat) : Good (takeF f k m) := by
  unfold Led.takeF
  split
  · rename_i hm
    have := h k
    exact h.setF (by simp only; omega) this.2
  · exact h
theorem Good.giveF {f : Nat → Option (Nat × Nat)} (h : Good f) (k m : Nat) : Good (giveF f k m) := by
  unfold Led.giveF
  split
  · have := h k
    exact h.setF (by simp only; omega) this.2
  · exact h
theorem Good.none_ : Good (fun _ => none) := fun k => by simp
theorem Good.fold : ∀ (l : List Ten) (f : Nat → Option (Nat × Nat)), Good f → (∀ t ∈ l, t.2.2.1 < 18446744073709551616) → Good (l.foldl (fun f t => Led.upd f t.1 (t.2.2.1, 0)) f)
  | [], f, h, _ => h
  | t :: l, f, h, hl => Good.fold l _ (h.upd (by simp) (hl t (by simp))) (fun u hu => hl u (by simp [hu]))
theorem Good.newF {l : List Ten} (hl : ∀ t ∈ l, t.2.2.1 < 18446744073709551616) : Good (newF l) := Good.fold l _ Good.none_ hl
theorem ten_bounds {w : World} {A : Option Addr} {n : Nat} {xs : List Ten} (h : tenK.C w A n xs) : ∀ t ∈ xs, t.1 < 4294967296 ∧ t.2.2.1 < 18446744073709551616 := by
  intro t ht
  obtain ⟨i, hi, rfl⟩ := List.mem_iff_getElem.1 ht
  have hl := (C_len h).1
  obtain ⟨ad, a, m, k, a', m', k', _, h1, h2, _⟩ := ten_at h i (by omega) xs[i] (by rw [List.getD_eq_getElem?_getD, List.getElem?_eq_getElem hi]; rfl)
  exact ⟨h1, h2⟩

theorem one_ten {W : World} {b id q : Nat} (hb : W.heap[b]? = some (.cells #[.int .u32 (id : Int), .slice none 0 0, .int .u64 (q : Int), .int .u64 0, .slice none 0 0] 41 (0, 0))) (h1 : id < 4294967296) (h2 : q < 18446744073709551616) :
    tenK.C W (some ⟨b, 0, none⟩) 1 [(id, [], q, 0, [])] := by
  refine C_of_blockN (d := tenK) hb rfl (fun j x hj => ?_) (by simp)
  match j, hj with
  | 0, hj =>
    simp only [List.getElem?_cons_zero, Option.some.injEq] at hj
    subst hj
    refine ⟨[.int .u32 (id : Int)], _, rfl, ⟨rfl, wf_key h1⟩, [.slice none 0 0], _, rfl, ⟨none, 0, rfl, by simp, rfl, by simp, fun h => by simp at h⟩, [.int .u64 (q : Int)], _, rfl, ⟨rfl, ?_⟩, [.int .u64 0], _, rfl, ⟨rfl, (by show (Lit.int .u64 0).wf = true; decide)⟩, ⟨none, 0, rfl, by simp, rfl, by simp, fun h => by simp at h⟩⟩
    simp [Lit.wf, IntKind.min, IntKind.max, IntKind.bits, IntKind.signed]
    omega
  | j + 1, hj => simp at hj

def ex : List Ten := [(1, [], 5, 0, [])]
def ex1 := newF ex
def ex2 := takeF ex1 1 3
def ex3 := takeF ex2 1 3
def ex4 := giveF ex3 1 1
def ex5 := takeF ex4 2 1
theorem ex1_good : Good ex1 := Good.newF (by intro t ht; simp [ex] at ht; subst ht; decide)

theorem known_calls (w : World) : Calls Try.prog 10 #[] w fun e w' => e = .returned (.bool true) ∧ Below w.heap.size w w' := by
  have hq0 := one_ten (W := w.alloc (.cells #[.int .u32 1, .slice none 0 0, .int .u64 5, .int .u64 0, .slice none 0 0] 41)) (b := w.heap.size) (id := 1) (q := 5) (blk_here rfl) (by decide) (by decide)
  have HQ := Aside0.mk hq0
  clear hq0
  go_enter Try.func10, Try.ntmps10
  go_wp2_with fail
  refine (new_calls _ _ _ ex (by decide) _ HQ.out).mono ?_
  rintro e w1 ⟨xb, bm, rfl, hl, hx, hb, hw⟩
  have HB := Aside0.mk (Below.trans (alloc_below w _) (hw.mono (by simp)))
  have hx' : w.heap.size ≤ xb := by simp at hx; omega
  have hb' : w.heap.size ≤ bm := by simp at hb; omega
  have HL := Aside0.mk (show Ledg w1 xb bm 1 ex1 from hl)
  clear hl hx hb hw
  go_wp2_with fail
  refine (take_calls xb bm 1 1 3 ex1 (by decide) (by decide) (by decide) ex1_good 5 0 (by decide) _ HL.out).mono ?_
  rintro e w2 ⟨rfl, hl, hg⟩
  have HL2 := Aside0.mk (show Ledg w2 xb bm 2 ex2 from hl)
  have HB2 := Aside0.mk (HB.out.grown hg HB.out.size (fun k hk => by simp at hk; omega))
  clear hl hg HB HL
  rw [show decide (3 ≤ 5 - 0) = true from rfl]
  go_wp2_with fail
  refine (take_calls xb bm 2 1 3 ex2 (by decide) (by decide) (by decide) (ex1_good.takeF _ _) 5 3 (by decide) _ HL2.out).mono ?_
  rintro e w3 ⟨rfl, hl, hg⟩
  have HL3 := Aside0.mk (show Ledg w3 xb bm 3 ex3 from hl)
  have HB3 := Aside0.mk (HB2.out.grown hg HB2.out.size (fun k hk => by simp at hk; omega))
  clear hl hg HB2 HL2
  rw [show decide (3 ≤ 5 - 3) = false from rfl]
  go_wp2_with fail
  refine (give_calls xb bm 3 1 1 ex3 (by decide) (by decide) (by decide) ((ex1_good.takeF _ _).takeF _ _) 5 3 (by decide) _ HL3.out).mono ?_
  rintro e w4 ⟨rfl, hl, hg⟩
  have HL4 := Aside0.mk (show Ledg w4 xb bm 4 ex4 from hl)
  have HB4 := Aside0.mk (HB3.out.grown hg HB3.out.size (fun k hk => by simp at hk; omega))
  clear hl hg HB3 HL3
  rw [show decide (1 ≤ 3) = true from rfl]
  go_wp2_with fail
  refine (left_calls xb bm 4 1 ex4 (by decide) (((ex1_good.takeF _ _).takeF _ _).giveF _ _) 5 2 (by decide) _ HL4.out).mono ?_
  rintro e w5 ⟨rfl, hw⟩
  have HL5 := Aside0.mk (HL4.out.below hw)
  have HB5 := Aside0.mk (below_then HB4.out HB4.out.size hw)
  clear hw HB4 HL4
  rw [show ((5 - 2 : Nat) : Int) = 3 from rfl]
  go_wp2_with fail
  refine (take_calls xb bm 4 2 1 ex4 (by decide) (by decide) (by decide) (((ex1_good.takeF _ _).takeF _ _).giveF _ _) 0 0 (by decide) _ HL5.out).mono ?_
  rintro e w6 ⟨rfl, hl, hg⟩
  have HL6 := Aside0.mk (show Ledg w6 xb bm 5 ex5 from hl)
  have HB6 := Aside0.mk (HB5.out.grown hg HB5.out.size (fun k hk => by simp at hk; omega))
  clear hl hg HB5 HL5
  rw [show decide (1 ≤ 0 - 0) = false from rfl]
  go_wp2_with fail
  refine (take_calls xb bm 5 2 0 ex5 (by decide) (by decide) (by decide) ((((ex1_good.takeF _ _).takeF _ _).giveF _ _).takeF _ _) 0 0 (by decide) _ HL6.out).mono ?_
  rintro e w7 ⟨rfl, hl, hg⟩
  have HB7 := Aside0.mk (HB6.out.grown hg HB6.out.size (fun k hk => by simp at hk; omega))
  clear hl hg HB6 HL6
  rw [show decide (0 ≤ 0 - 0) = true from rfl]
  go_wp2
  go_ret
  exact ⟨rfl, HB7.out⟩

/-- A call: give, tenant, how many. -/
abbrev LOp := Bool × Nat × Nat
def opK : Kd LOp := Kd.pair Kd.bool (Kd.pair (nat .u32) (nat .u64))
theorem op_at {w : World} {A : Option Addr} {n : Nat} {xs : List LOp} (h : opK.C w A n xs) (i : Nat) (hi : i < n) (t : LOp) (ht : xs.getD i (false, 0, 0) = t) :
    ∃ ad, A = some ad ∧ t.2.1 < 4294967296 ∧ t.2.2 < 18446744073709551616 ∧ w.cell? (ad.add (i * 3)) = some (.bool t.1) ∧ w.cell? ⟨(ad.add (i * 3)).block, (ad.add (i * 3)).off + 1, none⟩ = some (.int .u32 (t.2.1 : Int)) ∧ w.cell? ⟨(ad.add (i * 3)).block, (ad.add (i * 3)).off + 2, none⟩ = some (.int .u64 (t.2.2 : Int)) := by
  obtain ⟨ad, c, e, _, hK, hc⟩ := ReadsRow.get_ h (false, 0, 0) (i : Int) (by omega) (by omega)
  rw [Int.toNat_natCast] at hK hc
  rw [ht] at hK
  obtain ⟨c0, c1, rfl, hb, c2, c3, rfl, ⟨rfl, h1⟩, ⟨rfl, h2⟩⟩ := hK
  obtain rfl : c0 = [.bool t.1] := hb
  have hs : opK.sz = 3 := rfl
  rw [hs] at hc
  exact ⟨ad, e, by have := wf_u32' h1; omega, by have := wf_u64' h2; omega, hc 0 _ rfl, cell_fld (hc 1 _ rfl) (by omega), cell_fld (hc 2 _ rfl) (by omega)⟩

theorem setF_at {f : Nat → Option (Nat × Nat)} {k : Nat} {x y : Nat × Nat} (h : f k = some x) : setF f k y k = some y := by simp [setF, upd, h]
theorem takeF_at {f : Nat → Option (Nat × Nat)} {k q z m : Nat} (h : f k = some (q, z)) : takeF f k m k = some (q, if m ≤ q - z then z + m else z) := by
  unfold takeF
  rw [h]
  simp only [Option.getD_some]
  split
  · exact setF_at h
  · exact h
theorem giveF_at {f : Nat → Option (Nat × Nat)} {k q z m : Nat} (h : f k = some (q, z)) : giveF f k m k = some (q, if m ≤ z then z - m else z) := by
  unfold giveF
  rw [h]
  simp only [Option.getD_some]
  split
  · exact setF_at h
  · exact h

theorem bounds_calls (q : Nat) (hq : q < 18446744073709551616) (A : Option Addr) (n cap : Nat) (xs : List LOp) (w : World) (h : opK.C w A n xs) :
    Calls Try.prog 4 #[.int .u64 (q : Int), .slice A n cap] w fun e w' => e = .returned (.bool true) ∧ Below w.heap.size w w' := by
  obtain ⟨hlen, hmax⟩ := C_len h
  by_cases hn : n ≤ 200
  · have H := Aside0.mk h
    have HLen := Aside0.mk hlen
    clear h hlen
    go_enter Try.func4, Try.ntmps4
    go_wp2_with fail
    refine (known_calls _).mono ?_
    rintro e w1 ⟨rfl, hw1⟩
    have HB1 := Aside0.mk hw1
    have HQ := Aside0.mk (one_ten (W := w1.alloc (.cells #[.int .u32 7, .slice none 0 0, .int .u64 (q : Int), .int .u64 0, .slice none 0 0] 41)) (b := w1.heap.size) (id := 7) (q := q) (blk_here rfl) (by decide) hq)
    clear hw1
    go_wp2_with fail
    refine (new_calls _ _ _ _ (by decide) _ HQ.out).mono ?_
    rintro e w2 ⟨xb, bm, rfl, hl, hx, hb, hw⟩
    have HB := Aside0.mk (below_then HB1.out HB1.out.size (Below.trans (alloc_below w1 _) (hw.mono (by simp))))
    have hb' : w.heap.size ≤ bm := by have := HB1.out.size; simp at hb; omega
    have HL := Aside0.mk hl
    have HG := Aside0.mk (Good.newF (l := [(7, [], q, 0, [])]) (by intro t ht; simp at ht; subst ht; exact hq))
    clear hl hx hb hw HQ
    go_wp2
    go_loopg [6, 7, 8, 9] n (fun k v6 v7 v8 v9 wr => ∃ i : Nat, v6 = .int .i64 (i : Int) ∧ i ≤ n ∧ Aside0 (k + i = n) ∧ ∃ f z, Aside0 (Ledg wr xb bm (i + 1) f ∧ Good f ∧ f 7 = some (q, z) ∧ Below w.heap.size w wr) ∧ z ≤ q)
    case atStart => exact ⟨0, rfl, by omega, ⟨rfl⟩, newF [(7, [], q, 0, [])], 0, ⟨HL.out, HG.out, by simp [newF, upd], HB.out⟩, by omega⟩
    case round =>
      obtain ⟨i, rfl, hi, HK, f, z, HS, hz⟩ := hrel
      by_cases hlt : i < n
      · obtain ⟨o, ho⟩ : ∃ o, xs.getD i (false, 0, 0) = o := ⟨_, rfl⟩
        obtain ⟨ad, rfl, h1, h2, c0, c1, c2⟩ := op_at (Kd.C_below H.out HS.out.2.2.2) i hlt o ho
        have HSf : (f 7).getD (0, 0) = (q, z) := by rw [HS.out.2.2.1]; rfl
        have HF := Aside0.mk HSf
        clear HSf ho
        go_wp2_with fail
        refine (used_calls xb bm (i + 1) 7 f (by decide) q z HF.out _ HS.out.1).mono ?_
        rintro e w3 ⟨rfl, rfl⟩
        cases hg : o.1 with
        | true =>
          rw [hg] at c0
          go_wp2_with fail
          refine (give_calls xb bm (i + 1) 7 o.2.2 f (by decide) h2 (by unfold maxLen; omega) HS.out.2.1 q z HF.out _ HS.out.1).mono ?_
          rintro e w4 ⟨rfl, hl, hgr⟩
          have HB' := Aside0.mk (HS.out.2.2.2.grown hgr HS.out.2.2.2.size (fun k hk => by simp at hk; omega))
          obtain ⟨z', hz1, hz2⟩ : ∃ z', giveF f 7 o.2.2 7 = some (q, z') ∧ z' ≤ q := ⟨_, giveF_at HS.out.2.2.1, by split <;> omega⟩
          have HS' := Aside0.mk (show Ledg w4 xb bm (i + 1 + 1) (giveF f 7 o.2.2) ∧ Good (giveF f 7 o.2.2) ∧ (giveF f 7 o.2.2) 7 = some (q, z') ∧ Below w.heap.size w w4 from ⟨hl, HS.out.2.1.giveF _ _, hz1, HB'.out⟩)
          clear hl hgr HB' hz1
          generalize giveF f 7 o.2.2 = f' at *
          have HF' := Aside0.mk (show (f' 7).getD (0, 0) = (q, z') by rw [HS'.out.2.2.1]; rfl)
          have hsum : (((z' : Int) + ((q - z' : Nat) : Int)) != (q : Int)) = false := by rw [bne_eq_false_iff_eq]; omega
          have hle : ¬ ((q : Int) < (z' : Int)) := by omega
          go_wp2_with fail
          refine (used_calls xb bm (i + 1 + 1) 7 f' (by decide) q z' HF'.out _ HS'.out.1).mono ?_
          rintro e w5 ⟨rfl, rfl⟩
          go_wp2_with fail
          refine (used_calls xb bm (i + 1 + 1) 7 f' (by decide) q z' HF'.out _ HS'.out.1).mono ?_
          rintro e w5 ⟨rfl, rfl⟩
          go_wp2_with fail
          refine (left_calls xb bm (i + 1 + 1) 7 f' (by decide) HS'.out.2.1 q z' HF'.out _ HS'.out.1).mono ?_
          rintro e w5 ⟨rfl, hw5⟩
          have HS5 := Aside0.mk (show Ledg w5 xb bm (i + 1 + 1) f' ∧ Good f' ∧ f' 7 = some (q, z') ∧ Below w.heap.size w w5 from ⟨HS'.out.1.below hw5, HS'.out.2.1, HS'.out.2.2.1, below_then HS'.out.2.2.2 HS'.out.2.2.2.size hw5⟩)
          clear hw5
          go_wp2
          go_roundg (gk - 1)
          case measure => have := HK.out; omega
          case rel => exact ⟨i + 1, by congr 1, by omega, ⟨by have := HK.out; omega⟩, f', z', HS5, hz2⟩
        | false =>
          rw [hg] at c0
          have hs : (q : Int) - (z : Int) = ((q - z : Nat) : Int) := by omega
          go_wp2_with fail
          refine (take_calls xb bm (i + 1) 7 o.2.2 f (by decide) h2 (by unfold maxLen; omega) HS.out.2.1 q z HF.out _ HS.out.1).mono ?_
          rintro e w4 ⟨rfl, hl, hgr⟩
          clear hs
          have HB' := Aside0.mk (HS.out.2.2.2.grown hgr HS.out.2.2.2.size (fun k hk => by simp at hk; omega))
          obtain ⟨z', hz1, hz2⟩ : ∃ z', takeF f 7 o.2.2 7 = some (q, z') ∧ z' ≤ q := ⟨_, takeF_at HS.out.2.2.1, by split <;> omega⟩
          have HS' := Aside0.mk (show Ledg w4 xb bm (i + 1 + 1) (takeF f 7 o.2.2) ∧ Good (takeF f 7 o.2.2) ∧ (takeF f 7 o.2.2) 7 = some (q, z') ∧ Below w.heap.size w w4 from ⟨hl, HS.out.2.1.takeF _ _, hz1, HB'.out⟩)
          clear hl hgr HB' hz1
          generalize takeF f 7 o.2.2 = f' at *
          have HF' := Aside0.mk (show (f' 7).getD (0, 0) = (q, z') by rw [HS'.out.2.2.1]; rfl)
          have hsum : (((z' : Int) + ((q - z' : Nat) : Int)) != (q : Int)) = false := by rw [bne_eq_false_iff_eq]; omega
          have hle : ¬ ((q : Int) < (z' : Int)) := by omega
          go_wp2_with fail
          refine (used_calls xb bm (i + 1 + 1) 7 f' (by decide) q z' HF'.out _ HS'.out.1).mono ?_
          rintro e w5 ⟨rfl, rfl⟩
          go_wp2_with fail
          refine (used_calls xb bm (i + 1 + 1) 7 f' (by decide) q z' HF'.out _ HS'.out.1).mono ?_
          rintro e w5 ⟨rfl, rfl⟩
          go_wp2_with fail
          refine (left_calls xb bm (i + 1 + 1) 7 f' (by decide) HS'.out.2.1 q z' HF'.out _ HS'.out.1).mono ?_
          rintro e w5 ⟨rfl, hw5⟩
          have HS5 := Aside0.mk (show Ledg w5 xb bm (i + 1 + 1) f' ∧ Good f' ∧ f' 7 = some (q, z') ∧ Below w.heap.size w w5 from ⟨HS'.out.1.below hw5, HS'.out.2.1, HS'.out.2.2.1, below_then HS'.out.2.2.2 HS'.out.2.2.2.size hw5⟩)
          clear hw5
          go_wp2
          go_roundg (gk - 1)
          case measure => have := HK.out; omega
          case rel => exact ⟨i + 1, by congr 1, by omega, ⟨by have := HK.out; omega⟩, f', z', HS5, hz2⟩
      · go_wp2
        go_ret
        exact ⟨rfl, HS.out.2.2.2⟩
  · clear h
    go_enter Try.func4, Try.ntmps4
    go_wp2_with fail
    refine (known_calls _).mono ?_
    rintro e w1 ⟨rfl, hw1⟩
    have HB := Aside0.mk hw1
    clear hw1
    go_wp2
    go_ret
    exact ⟨rfl, HB.out⟩

theorem pos_u32 (n : Int) (h : (Lit.int .u32 n).wf = true) : 0 ≤ n := (wf_u32' h).1
theorem pos_u64 (n : Int) (h : (Lit.int .u64 n).wf = true) : 0 ≤ n := (wf_u64' h).1
theorem opn_op : Opn Try.prog 33 opK :=
  Opn.struct Try.underlying33 (by kernel_rfl) (OpnFs.cons rfl (by kernel_rfl) (Opn.bool Try.underlying4)
    (OpnFs.cons rfl (by kernel_rfl) (Opn.nat Try.underlying24 pos_u32) (OpnFs.last rfl (by kernel_rfl) (Opn.nat Try.underlying31 pos_u64))))
theorem opn_ten : Opn Try.prog 41 tenK :=
  Opn.struct Try.underlying41 (by kernel_rfl) (OpnFs.cons rfl (by kernel_rfl) (Opn.nat Try.underlying24 pos_u32)
    (OpnFs.cons rfl (by kernel_rfl) (Opn.slice Try.underlying38 (by kernel_rfl) (Opn.byte Try.underlying5)) (OpnFs.cons rfl (by kernel_rfl) (Opn.nat Try.underlying31 pos_u64)
      (OpnFs.cons rfl (by kernel_rfl) (Opn.nat Try.underlying31 pos_u64) (OpnFs.last rfl (by kernel_rfl) (Opn.slice Try.underlying39 (by kernel_rfl) (Opn.nat Try.underlying24 pos_u32)))))))
theorem bounds_walk (W : World) (q : Nat) (hq : q < 18446744073709551616) (a : Option Addr) (len cap : Nat) (l : List LOp) (le : len ≤ cap) (c : opK.C W a len l) :
    Calls Try.prog 4 #[.int .u64 (q : Int), .slice a len cap] W fun e w' => e = .returned (.bool true) ∧ Below W.heap.size W w' := bounds_calls q hq a len cap l W c
end Go.Proofs.Ytiepfinipmafcaa.Led
