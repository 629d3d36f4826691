/- What the ledger's functions do: set, Take, Give, Used, Left, New: one contract each. -/
import Derived.Test.YtiepfinipmafcaaLedMap
import Derived.Test.YtiepfinipmafcaaWMore
import Derived.WalkKit
import Derived.Deep.LoopGhost
import Derived.Deep.QuietTactic
import Derived.BigQuiet
import Derived.WideLaws
import Derived.RegionTactic
import Derived.Deep.RegionWith
import Derived.Outline
namespace Go.Proofs.Ytiepfinipmafcaa.Led
open Go.RowKit Go.Maps Go.Proofs.YtiepfinipmafcaaW.PrintWords Go.Proofs.YtiepfinipmafcaaW.PrintMore Go.Proofs.Ytiepfinipmafcaa.Base
set_option linter.unusedVariables false
set_option linter.unusedSimpArgs false

def setF (f : Nat → Option (Nat × Nat)) (k : Nat) (x : Nat × Nat) : Nat → Option (Nat × Nat) := if (f k).isSome then upd f k x else f

theorem set_calls (xb bm n k : Nat) (f : Nat → Option (Nat × Nat)) (hk : k < 4294967296) (q u0 u : Nat) (hn : n < maxLen) (w : World) (h : Ledg w xb bm n f) :
    Calls Try.prog 28 #[.pointer (some ⟨xb, 0, none⟩), .int .u32 (k : Int), .agg #[.int .u64 (q : Int), .int .u64 (u0 : Int)], .int .u64 (u : Int)] w
      fun e w' => e = .returned (.tuple #[]) ∧ Ledg w' xb bm (n + 1) (setF f k (q, u)) ∧ w.grownBy w' (some bm) := by
  have hc := h.at_
  have hlx := (Array.getElem?_eq_some_iff.1 h.cell).1
  have H := Aside0.mk h
  clear h
  obtain ⟨⟨y, z⟩, hyz⟩ : ∃ x, (f k).getD (0, 0) = x := ⟨_, rfl⟩
  have HYZ := Aside0.mk hyz
  clear hyz
  cases hs : (f k).isSome with
  | false =>
    have e1 : setF f k (q, u) = f := by unfold setF; rw [hs]; rfl
    go_enter Try.func28, Try.ntmps28
    go_wp2_with (at_lookup; refine look_ok_at ((H.out.below (alloc_below w _)).acc) hk y z HYZ.out rfl _ _ rfl rfl rfl ?_)
    go_end0
    refine ⟨rfl, ?_, ?_⟩
    · rw [e1]
      exact ⟨((H.out.below (alloc_below w _)).below (alloc_below _ _)).cell, by obtain ⟨D, ho, hf⟩ := ((H.out.below (alloc_below w _)).below (alloc_below _ _)).acc; exact ⟨D, ho.mono (Nat.le_succ _), hf⟩⟩
    · exact (World.grownBy_alloc w _ _).trans (World.grownBy_alloc _ _ _)
  | true =>
    have e1 : setF f k (q, u) = upd f k (q, u) := by unfold setF; rw [hs]; rfl
    go_enter Try.func28, Try.ntmps28
    go_wp2_with (at_lookup; refine look_ok_at ((H.out.below (alloc_below w _)).acc) hk y z HYZ.out rfl _ _ rfl rfl rfl ?_)
    have HW := ((H.out.below (alloc_below w (.cells #[.int .u64 (q : Int), .int .u64 (u : Int)] 57))).below (alloc_below _ (.cells #[.int .u64 (y : Int), .int .u64 (z : Int)] 57)))
    have HG : w.grownBy ((w.alloc (.cells #[.int .u64 (q : Int), .int .u64 (u : Int)] 57)).alloc (.cells #[.int .u64 (y : Int), .int .u64 (z : Int)] 57)) (some bm) := (World.grownBy_alloc w _ _).trans (World.grownBy_alloc _ _ _)
    have c0 : ((w.alloc (.cells #[.int .u64 (q : Int), .int .u64 (u : Int)] 57)).alloc (.cells #[.int .u64 (y : Int), .int .u64 (z : Int)] 57)).cell? ⟨w.heap.size, 0, none⟩ = some (.int .u64 (q : Int)) := by go_simp
    have c1 : ((w.alloc (.cells #[.int .u64 (q : Int), .int .u64 (u : Int)] 57)).alloc (.cells #[.int .u64 (y : Int), .int .u64 (z : Int)] 57)).cell? ⟨w.heap.size, 1, none⟩ = some (.int .u64 (u : Int)) := by go_simp
    have cx := HW.at_
    obtain ⟨w1, hrun, ha, hg⟩ := (HW.acc.below (below_drew (Below.refl _ _))).put hn hk (q, u)
    have HA := Aside0.mk ha
    have HG1 := Aside0.mk (HG.trans (grown_undrew hg))
    have HW' := Aside0.mk HW
    have hcell := Aside0.mk ((hg.block xb (Array.getElem?_eq_some_iff.1 HW.cell).1 (by simpa using HW.ne)).trans HW.cell)
    clear ha hg HG HW
    unfold accV at hrun
    generalize (w.alloc (.cells #[.int .u64 (q : Int), .int .u64 (u : Int)] 57)).alloc (.cells #[.int .u64 (y : Int), .int .u64 (z : Int)] 57) = W at *
    go_region
    all_goals
      go_end0
      exact ⟨rfl, ⟨hcell.out, by rw [e1]; exact HA.out⟩, HG1.out⟩

def Good (f : Nat → Option (Nat × Nat)) : Prop := ∀ k, ((f k).getD (0, 0)).2 ≤ ((f k).getD (0, 0)).1 ∧ ((f k).getD (0, 0)).1 < 18446744073709551616
def takeF (f : Nat → Option (Nat × Nat)) (k m : Nat) : Nat → Option (Nat × Nat) :=
  if m ≤ ((f k).getD (0, 0)).1 - ((f k).getD (0, 0)).2 then setF f k (((f k).getD (0, 0)).1, ((f k).getD (0, 0)).2 + m) else f
def giveF (f : Nat → Option (Nat × Nat)) (k m : Nat) : Nat → Option (Nat × Nat) :=
  if m ≤ ((f k).getD (0, 0)).2 then setF f k (((f k).getD (0, 0)).1, ((f k).getD (0, 0)).2 - m) else f
theorem Ledg.mono {w : World} {xb bm n : Nat} {f : Nat → Option (Nat × Nat)} (h : Ledg w xb bm n f) : Ledg w xb bm (n + 1) f :=
  ⟨h.cell, by obtain ⟨D, ho, hf⟩ := h.acc; exact ⟨D, ho.mono (Nat.le_succ _), hf⟩⟩

theorem takeF_yes {f : Nat → Option (Nat × Nat)} {k m y z : Nat} (hyz : (f k).getD (0, 0) = (y, z)) (h : m ≤ y - z) : takeF f k m = setF f k (y, z + m) := by unfold takeF; rw [hyz]; exact if_pos h
theorem takeF_no {f : Nat → Option (Nat × Nat)} {k m y z : Nat} (hyz : (f k).getD (0, 0) = (y, z)) (h : ¬ m ≤ y - z) : takeF f k m = f := by unfold takeF; rw [hyz]; exact if_neg h
theorem giveF_yes {f : Nat → Option (Nat × Nat)} {k m y z : Nat} (hyz : (f k).getD (0, 0) = (y, z)) (h : m ≤ z) : giveF f k m = setF f k (y, z - m) := by unfold giveF; rw [hyz]; exact if_pos h
theorem giveF_no {f : Nat → Option (Nat × Nat)} {k m y z : Nat} (hyz : (f k).getD (0, 0) = (y, z)) (h : ¬ m ≤ z) : giveF f k m = f := by unfold giveF; rw [hyz]; exact if_neg h
theorem ret_bool {a b : Bool} (h : a = b) : Ending.returned (.bool a) = .returned (.bool b) := by rw [h]
theorem ret_u64 {a b : Int} (h : a = b) : Ending.returned (.int .u64 a) = .returned (.int .u64 b) := by rw [h]

theorem take_calls (xb bm n k m : Nat) (f : Nat → Option (Nat × Nat)) (hk : k < 4294967296) (hm : m < 18446744073709551616) (hn : n < maxLen) (hf : Good f) (y z : Nat) (hyz : (f k).getD (0, 0) = (y, z)) (w : World) (h : Ledg w xb bm n f) :
    Calls Try.prog 15 #[.pointer (some ⟨xb, 0, none⟩), .int .u32 (k : Int), .int .u64 (m : Int)] w
      fun e w' => e = .returned (.bool (decide (m ≤ y - z))) ∧ Ledg w' xb bm (n + 1) (takeF f k m) ∧ w.grownBy w' (some bm) := by
  have hc := h.at_
  have H := Aside0.mk h
  have hg := hf k
  rw [hyz] at hg
  obtain ⟨g1, g2⟩ := hg
  simp only at g1 g2
  have HYZ := Aside0.mk hyz
  clear hyz h hf
  by_cases hle : m ≤ y - z
  · have E1 := Aside0.mk (takeF_yes HYZ.out hle)
    have hd : ¬ ((y : Int) - (z : Int) < (m : Int)) := by omega
    go_enter Try.func15, Try.ntmps15
    go_wp2_with (at_lookup; refine look_at (H.out.acc) hk y z HYZ.out rfl _ _ rfl rfl rfl ?_)
    have ez : ((z : Int) + (m : Int)) = ((z + m : Nat) : Int) := by omega
    rw [ez]
    refine (set_calls xb bm n k f hk y z (z + m) hn _ (H.out.below (alloc_below w _))).mono ?_
    rintro e w1 ⟨rfl, hl, hg⟩
    have HL := Aside0.mk hl
    have HG := Aside0.mk hg
    clear hl hg ez
    go_wp2
    go_ret
    exact ⟨by rw [decide_eq_true hle]; rfl, by rw [E1.out]; exact HL.out, (World.grownBy_alloc w _ _).trans HG.out⟩
  · have E1 := Aside0.mk (takeF_no HYZ.out hle)
    have hd : ((y : Int) - (z : Int) < (m : Int)) := by omega
    go_enter Try.func15, Try.ntmps15
    go_wp2_with (at_lookup; refine look_at (H.out.acc) hk y z HYZ.out rfl _ _ rfl rfl rfl ?_)
    go_ret
    exact ⟨by rw [decide_eq_false hle]; rfl, by rw [E1.out]; exact (H.out.below (alloc_below w _)).mono, World.grownBy_alloc w _ _⟩

theorem give_calls (xb bm n k m : Nat) (f : Nat → Option (Nat × Nat)) (hk : k < 4294967296) (hm : m < 18446744073709551616) (hn : n < maxLen) (hf : Good f) (y z : Nat) (hyz : (f k).getD (0, 0) = (y, z)) (w : World) (h : Ledg w xb bm n f) :
    Calls Try.prog 14 #[.pointer (some ⟨xb, 0, none⟩), .int .u32 (k : Int), .int .u64 (m : Int)] w
      fun e w' => e = .returned (.bool (decide (m ≤ z))) ∧ Ledg w' xb bm (n + 1) (giveF f k m) ∧ w.grownBy w' (some bm) := by
  have hc := h.at_
  have H := Aside0.mk h
  have hg := hf k
  rw [hyz] at hg
  obtain ⟨g1, g2⟩ := hg
  simp only at g1 g2
  have HYZ := Aside0.mk hyz
  clear hyz h hf
  by_cases hle : m ≤ z
  · have E1 := Aside0.mk (giveF_yes HYZ.out hle)
    have hd : ¬ ((z : Int) < (m : Int)) := by omega
    go_enter Try.func14, Try.ntmps14
    go_wp2_with (at_lookup; refine look_at (H.out.acc) hk y z HYZ.out rfl _ _ rfl rfl rfl ?_)
    have ez : ((z : Int) - (m : Int)) = ((z - m : Nat) : Int) := by omega
    rw [ez]
    refine (set_calls xb bm n k f hk y z (z - m) hn _ (H.out.below (alloc_below w _))).mono ?_
    rintro e w1 ⟨rfl, hl, hg⟩
    have HL := Aside0.mk hl
    have HG := Aside0.mk hg
    clear hl hg ez
    go_wp2
    go_ret
    exact ⟨by rw [decide_eq_true hle]; rfl, by rw [E1.out]; exact HL.out, (World.grownBy_alloc w _ _).trans HG.out⟩
  · have E1 := Aside0.mk (giveF_no HYZ.out hle)
    have hd : ((z : Int) < (m : Int)) := by omega
    go_enter Try.func14, Try.ntmps14
    go_wp2_with (at_lookup; refine look_at (H.out.acc) hk y z HYZ.out rfl _ _ rfl rfl rfl ?_)
    go_ret
    exact ⟨by rw [decide_eq_false hle]; rfl, by rw [E1.out]; exact (H.out.below (alloc_below w _)).mono, World.grownBy_alloc w _ _⟩

theorem used_calls (xb bm n k : Nat) (f : Nat → Option (Nat × Nat)) (hk : k < 4294967296) (y z : Nat) (hyz : (f k).getD (0, 0) = (y, z)) (w : World) (h : Ledg w xb bm n f) :
    Calls Try.prog 16 #[.pointer (some ⟨xb, 0, none⟩), .int .u32 (k : Int)] w
      fun e w' => e = .returned (.int .u64 (z : Int)) ∧ w = w' := by
  have hc := h.at_
  have H := Aside0.mk h
  have HYZ := Aside0.mk hyz
  clear hyz h
  have hfld : ∀ (y z : Int) (W : World), (Instr.field 57 (.agg #[.int .u64 y, .int .u64 z]) 1).run Try.prog W = .ok (.int .u64 z) W := fun _ _ _ => by kernel_rfl
  go_enter Try.func16, Try.ntmps16
  go_wp2_with (at_lookup; refine look_at (H.out.acc) hk y z HYZ.out rfl _ _ rfl rfl rfl ?_)
  go_ret
  exact ⟨rfl, rfl⟩

theorem left_calls (xb bm n k : Nat) (f : Nat → Option (Nat × Nat)) (hk : k < 4294967296) (hf : Good f) (y z : Nat) (hyz : (f k).getD (0, 0) = (y, z)) (w : World) (h : Ledg w xb bm n f) :
    Calls Try.prog 17 #[.pointer (some ⟨xb, 0, none⟩), .int .u32 (k : Int)] w
      fun e w' => e = .returned (.int .u64 ((y - z : Nat) : Int)) ∧ Below w.heap.size w w' := by
  have hc := h.at_
  have H := Aside0.mk h
  have hg := hf k
  rw [hyz] at hg
  obtain ⟨g1, g2⟩ := hg
  simp only at g1 g2
  have HYZ := Aside0.mk hyz
  clear hyz h hf
  go_enter Try.func17, Try.ntmps17
  go_wp2_with (at_lookup; refine look_at (H.out.acc) hk y z HYZ.out rfl _ _ rfl rfl rfl ?_)
  go_ret
  refine ⟨?_, alloc_below w _⟩
  show Ending.returned (.int .u64 _) = _
  exact ret_u64 (by omega)

/-- A tenant: its number, key, quota, size, what is gone. -/
abbrev Ten := Nat × List UInt8 × Nat × Nat × List Nat
def tenK : Kd Ten := Kd.pair (nat .u32) (Kd.pair (Kd.slice 5 byte) (Kd.pair (nat .u64) (Kd.pair (nat .u64) (Kd.slice 24 (nat .u32)))))
theorem tenK_open {w : World} {t : Ten} {c : List Value} (h : tenK.K w t c) : ∃ a n k a' n' k', c = [.int .u32 (t.1 : Int), .slice a n k, .int .u64 (t.2.2.1 : Int), .int .u64 (t.2.2.2.1 : Int), .slice a' n' k'] ∧ t.1 < 4294967296 ∧ t.2.2.1 < 18446744073709551616 := by
  obtain ⟨c0, c1, rfl, ⟨rfl, h0⟩, c2, c3, rfl, ⟨a, k, rfl, _, _⟩, c4, c5, rfl, ⟨rfl, h4⟩, c6, c7, rfl, ⟨rfl, _⟩, ⟨a', k', rfl, _, _⟩⟩ := h
  refine ⟨a, _, k, a', _, k', rfl, ?_, ?_⟩
  · have := wf_u32' h0; omega
  · have := wf_u64' h4; omega
theorem ten_at {w : World} {A : Option Addr} {n : Nat} {xs : List Ten} (h : tenK.C w A n xs) (i : Nat) (hi : i < n) (t : Ten) (ht : xs.getD i (0, [], 0, 0, []) = t) :
    ∃ ad a m k a' m' k', A = some ad ∧ t.1 < 4294967296 ∧ t.2.2.1 < 18446744073709551616 ∧ w.cell? (ad.add (i * 5)) = some (.int .u32 (t.1 : Int)) ∧ w.cell? ⟨(ad.add (i * 5)).block, (ad.add (i * 5)).off + 1, none⟩ = some (.slice a m k) ∧ w.cell? ⟨(ad.add (i * 5)).block, (ad.add (i * 5)).off + 2, none⟩ = some (.int .u64 (t.2.2.1 : Int)) ∧ w.cell? ⟨(ad.add (i * 5)).block, (ad.add (i * 5)).off + 3, none⟩ = some (.int .u64 (t.2.2.2.1 : Int)) ∧ w.cell? ⟨(ad.add (i * 5)).block, (ad.add (i * 5)).off + 4, none⟩ = some (.slice a' m' k') := by
  obtain ⟨ad, c, e, _, hK, hc⟩ := ReadsRow.get_ h (0, [], 0, 0, []) (i : Int) (by omega) (by omega)
  rw [Int.toNat_natCast] at hK hc
  rw [ht] at hK
  obtain ⟨a, m, k, a', m', k', rfl, h1, h2⟩ := tenK_open hK
  have hs : tenK.sz = 5 := rfl
  rw [hs] at hc
  exact ⟨ad, a, m, k, a', m', k', e, h1, h2, hc 0 _ rfl, cell_fld (hc 1 _ rfl) (by omega), cell_fld (hc 2 _ rfl) (by omega), cell_fld (hc 3 _ rfl) (by omega), cell_fld (hc 4 _ rfl) (by omega)⟩

def newF (l : List Ten) : Nat → Option (Nat × Nat) := l.foldl (fun f t => upd f t.1 (t.2.2.1, 0)) (fun _ => none)

theorem new_calls (A : Option Addr) (n cap : Nat) (xs : List Ten) (hn : n ≤ 1000000) (w : World) (h : tenK.C w A n xs) :
    Calls Try.prog 11 #[.slice A n cap] w
      fun e w' => ∃ xb bm, e = .returned (.pointer (some ⟨xb, 0, none⟩)) ∧ Ledg w' xb bm n (newF xs) ∧ w.heap.size ≤ xb ∧ w.heap.size ≤ bm ∧ Below w.heap.size w w' := by
  have hmm := @run_makeMap Try.prog
  have H := Aside0.mk h
  obtain ⟨hlen, hmax⟩ := C_len h
  have HL := Aside0.mk hlen
  clear h hlen
  go_enter Try.func11, Try.ntmps11
  go_wp2
  go_loopg [11] n (fun k v11 wr => ∃ i : Nat, v11 = .int .i64 (i : Int) ∧ i ≤ n ∧ Aside0 (k + i = n) ∧ Aside0 (Ledg wr (w.heap.size + 1) w.heap.size i (newF (xs.take i)) ∧ Below w.heap.size w wr))
  case atStart =>
    refine ⟨0, rfl, by omega, ⟨rfl⟩, ⟨⟨⟨blk_here (by simp), ?_⟩, ?_⟩⟩⟩
    · exact (Acc.made w).below (alloc_below _ _)
    · exact (alloc_below w _).alloc (by simp) _
  case round =>
    obtain ⟨i, rfl, hi, HK, HA⟩ := hrel
    by_cases hlt : i < n
    · obtain ⟨t, ht⟩ : ∃ t, xs.getD i (0, [], 0, 0, []) = t := ⟨_, rfl⟩
      obtain ⟨ad, a, m, k, a', m', k', rfl, h1, h2, c0, c1, c2, c3, c4⟩ := ten_at (Kd.C_below H.out HA.out.2) i hlt t ht
      have hx := HA.out.1.at_
      have HT := Aside0.mk ht
      clear ht
      go_wp2
      have HW := HA.out.1.below (alloc_below wr (.cells #[.int .u32 (t.1 : Int), .slice a m k, .int .u64 (t.2.2.1 : Int), .int .u64 (t.2.2.2.1 : Int), .slice a' m' k'] 41))
      have HB := HA.out.2.alloc HA.out.2.size (.cells #[.int .u32 (t.1 : Int), .slice a m k, .int .u64 (t.2.2.1 : Int), .int .u64 (t.2.2.2.1 : Int), .slice a' m' k'] 41)
      have d0 : (wr.alloc (.cells #[.int .u32 (t.1 : Int), .slice a m k, .int .u64 (t.2.2.1 : Int), .int .u64 (t.2.2.2.1 : Int), .slice a' m' k'] 41)).cell? ⟨wr.heap.size, 0, none⟩ = some (.int .u32 (t.1 : Int)) := by go_simp
      have d2 : (wr.alloc (.cells #[.int .u32 (t.1 : Int), .slice a m k, .int .u64 (t.2.2.1 : Int), .int .u64 (t.2.2.2.1 : Int), .slice a' m' k'] 41)).cell? ⟨wr.heap.size, 2, none⟩ = some (.int .u64 (t.2.2.1 : Int)) := by go_simp
      have dx := HW.at_
      obtain ⟨w1, hrun, ha, hg⟩ := (HW.acc.below (below_drew (Below.refl _ _))).put (by unfold maxLen; omega) h1 (t.2.2.1, 0)
      have hg' := grown_undrew hg
      have HR := Aside0.mk (show Ledg w1 (w.heap.size + 1) w.heap.size (i + 1) (newF (xs.take (i + 1))) ∧ Below w.heap.size w w1 from by
        refine ⟨⟨(hg'.block _ (Array.getElem?_eq_some_iff.1 HW.cell).1 (by simp)).trans HW.cell, ?_⟩, HB.grown hg' HB.size (fun k hk => by simp at hk; omega)⟩
        have e : newF (xs.take (i + 1)) = upd (newF (xs.take i)) t.1 (t.2.2.1, 0) := by
          have hlt' : i < xs.length := by rw [HL.out]; exact hlt
          have e1 : xs[i] = t := by rw [← HT.out, List.getD_eq_getElem?_getD, List.getElem?_eq_getElem hlt']; rfl
          rw [List.take_succ_eq_append_getElem hlt', e1]
          unfold newF
          rw [List.foldl_append]
          rfl
        rw [e]
        exact ha)
      clear ha hg hg' HB HW c0 c1 c2 c3 c4 hx
      simp only [accV, Int.natCast_zero, Int.ofNat_zero, Int.cast_ofNat_Int] at hrun
      generalize wr.alloc (.cells #[.int .u32 (t.1 : Int), .slice a m k, .int .u64 (t.2.2.1 : Int), .int .u64 (t.2.2.2.1 : Int), .slice a' m' k'] 41) = W at *
      go_region
      all_goals
        go_wp2
        go_roundg (gk - 1)
        case measure => have := HK.out; omega
        case rel => exact ⟨i + 1, by congr 1, by omega, ⟨by have := HK.out; omega⟩, ⟨HR.out⟩⟩
    · have hin : i = n := by omega
      subst hin
      have hnew := Aside0.mk (show newF (xs.take i) = newF xs by rw [List.take_of_length_le (by rw [HL.out]; omega)])
      go_wp2
      go_ret
      exact ⟨_, _, rfl, by rw [← hnew.out]; exact HA.out.1, by omega, by omega, HA.out.2⟩
end Go.Proofs.Ytiepfinipmafcaa.Led
