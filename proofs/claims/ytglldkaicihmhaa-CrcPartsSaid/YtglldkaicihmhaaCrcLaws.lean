/- The statements' own functions: known, and each statement from the contracts of the sums. -/
import Derived.Test.YtglldkaicihmhaaCrcWalks
import Derived.Test.YtglldkaicihmhaaWords2
import Derived.Outline
import Derived.Test.YtglldkaicihmhaaWMore
import Derived.Lib.SlBytesConst
import Derived.Deep.RegionHeld3
import Derived.Laws.Rows
namespace Go.Proofs.Ytglldkaicihmhaa.Crc
open Go.RowKit Go.Proofs.YtglldkaicihmhaaW.PrintWords Go.Proofs.YtglldkaicihmhaaW.PrintMore Go.Proofs.Ytglldkaicihmhaa.Base
set_option linter.unusedVariables false
set_option linter.unusedSimpArgs false
attribute [local go_sem] max2_mx min2_mn max_two min_two

theorem known_calls (w : World) : Calls Try.prog 7 #[] w fun e w' => e = .returned (.bool true) ∧ Below w.heap.size w w' := by
  have kc := fun (w : World) (C : Array Value) (n c : Nat) => Lib.run_convert_bytes_const (P := Try.prog) w 22 5 C n c Try.underlying22 Try.underlying5
  go_enter Try.func7, Try.ntmps7
  have h1 : byte.C (w.alloc (.cells #[.int .u8 49, .int .u8 50, .int .u8 51, .int .u8 52, .int .u8 53, .int .u8 54, .int .u8 55, .int .u8 56, .int .u8 57] 5 (9, 10))) (some ⟨w.heap.size, 0, none⟩) 9 [49, 50, 51, 52, 53, 54, 55, 56, 57] :=
    C_lit rfl (by exact ⟨rfl, rfl, rfl, rfl, rfl, rfl, rfl, rfl, rfl, trivial⟩) rfl rfl (by decide)
  have h2 : (Kd.slice 5 byte).C ((w.alloc (.cells #[.int .u8 49, .int .u8 50, .int .u8 51, .int .u8 52, .int .u8 53, .int .u8 54, .int .u8 55, .int .u8 56, .int .u8 57] 5 (9, 10))).alloc (.cells #[.slice (some ⟨w.heap.size, 0, none⟩) 9 9] 22)) (some ⟨w.heap.size + 1, 0, none⟩) 1 [[49, 50, 51, 52, 53, 54, 55, 56, 57]] :=
    C_lit rfl (by exact ⟨K_bytes h1 (by omega), trivial⟩) (by simp) rfl (by decide)
  have hb2 : Below w.heap.size w ((w.alloc (.cells #[.int .u8 49, .int .u8 50, .int .u8 51, .int .u8 52, .int .u8 53, .int .u8 54, .int .u8 55, .int .u8 56, .int .u8 57] 5 (9, 10))).alloc (.cells #[.slice (some ⟨w.heap.size, 0, none⟩) 9 9] 22)) :=
    (alloc_below w _).alloc (by simp) _
  have h3 : (Kd.slice 5 byte).C ((w.alloc (.cells #[.int .u8 49, .int .u8 50, .int .u8 51, .int .u8 52, .int .u8 53, .int .u8 54, .int .u8 55, .int .u8 56, .int .u8 57] 5 (9, 10))).alloc (.cells #[.slice (some ⟨w.heap.size, 0, none⟩) 9 9] 22)) none 0 [] :=
    ⟨rfl, by omega, fun h => absurd h (by omega)⟩
  have H2 := Aside0.mk h2
  have H3 := Aside0.mk h3
  have HB := Aside0.mk hb2
  clear h1 h2 h3 hb2
  go_wp2_with fail
  refine (crc_sum_calls _ _ _ _ _ H2.out).mono ?_
  rintro e w1 ⟨rfl, rfl⟩
  rw [show sum (nat [[49, 50, 51, 52, 53, 54, 55, 56, 57]].flatten) = 3421780262 from known_sum]
  go_wp2_with fail
  refine (crc_sum_calls _ _ _ _ _ H3.out).mono ?_
  rintro e w1 ⟨rfl, rfl⟩
  rw [show sum (nat (List.flatten [])) = 0 from rfl]
  go_wp2
  go_ret
  exact ⟨rfl, HB.out⟩

/-- A list of one list, laid as a literal. -/
theorem lit_one {w : World} {A : Option Addr} {n cap : Nat} {xs : List UInt8} (h : byte.C w A n xs) (hc : n ≤ cap) :
    (Kd.slice 5 byte).C (w.alloc (.cells #[.slice A n cap] 22)) (some ⟨w.heap.size, 0, none⟩) 1 [xs] :=
  C_lit rfl (by exact ⟨K_bytes h hc, trivial⟩) rfl rfl (by simp)

theorem sums_calls (A : Option Addr) (n cap : Nat) (xs : List UInt8) (hc : n ≤ cap) (s b : Nat) (hs : s < 4294967296) (hb : b < 256) (w : World) (h : byte.C w A n xs) :
    Calls Try.prog 3 #[.slice A n cap, .int .u32 (s : Int), .int .u8 (b : Int)] w fun e w' => e = .returned (.bool true) ∧ Below w.heap.size w w' := by
  have hm := (C_len h).2
  by_cases hn : n ≤ 2000
  · have H := Aside0.mk h
    clear h
    go_enter Try.func3, Try.ntmps3
    go_wp2_with fail
    refine (known_calls _).mono ?_
    rintro e w1 ⟨rfl, hw1⟩
    have H1 := Aside0.mk (Kd.C_below H.out hw1)
    have HB := Aside0.mk hw1
    clear hw1
    go_wp2_with fail
    refine (crc_sum_calls _ _ _ _ _ (lit_one H1.out hc)).mono ?_
    rintro e w2 ⟨rfl, rfl⟩
    rw [show ([xs] : List (List UInt8)).flatten = xs by simp]
    go_wp2_with fail
    refine (ref_sum_calls _ _ _ _ _ (Kd.C_below H1.out (alloc_below w1 _))).mono ?_
    rintro e w2 ⟨rfl, rfl⟩
    go_wp2_with fail
    refine (next_calls _ _ hs hb _).mono ?_
    rintro e w2 ⟨rfl, rfl⟩
    go_wp2_with fail
    refine (ref_next_calls _ _ hs hb _).mono ?_
    rintro e w2 ⟨rfl, rfl⟩
    go_wp2
    go_ret
    exact ⟨rfl, HB.out.alloc HB.out.size _⟩
  · clear h
    go_enter Try.func3, Try.ntmps3
    go_wp2
    go_ret
    exact ⟨rfl, Below.refl _ _⟩

theorem eq_cast (a b c d : Nat) (h : a = b ↔ c = d) : ((a : Int) == (b : Int)) = ((c : Int) == (d : Int)) := by
  rw [Bool.eq_iff_iff, beq_iff_eq, beq_iff_eq]
  omega

theorem turns_calls (a b x y : Nat) (ha : a < 4294967296) (hb : b < 4294967296) (hx : x < 256) (hy : y < 256) (w : World) :
    Calls Try.prog 6 #[.int .u32 (a : Int), .int .u32 (b : Int), .int .u8 (x : Int), .int .u8 (y : Int)] w fun e w' => e = .returned (.bool true) ∧ Below w.heap.size w w' := by
  have e1 := eq_cast (nxt a x) (nxt a y) x y ⟨fun h => nxt_byte a x y ha hx hy h, fun h => by rw [h]⟩
  have e2 := eq_cast (nxt a x) (nxt b x) a b ⟨fun h => nxt_sum a b x ha hb hx h, fun h => by rw [h]⟩
  go_enter Try.func6, Try.ntmps6
  go_wp2_with fail
  refine (known_calls _).mono ?_
  rintro e w1 ⟨rfl, hw1⟩
  have HB := Aside0.mk hw1
  clear hw1
  go_wp2_with fail
  refine (next_calls _ _ ha hx _).mono ?_
  rintro e w2 ⟨rfl, rfl⟩
  go_wp2_with fail
  refine (next_calls _ _ ha hy _).mono ?_
  rintro e w2 ⟨rfl, rfl⟩
  go_wp2_with fail
  refine (next_calls _ _ ha hx _).mono ?_
  rintro e w2 ⟨rfl, rfl⟩
  go_wp2_with fail
  refine (next_calls _ _ hb hx _).mono ?_
  rintro e w2 ⟨rfl, rfl⟩
  go_wp2
  go_ret
  exact ⟨rfl, HB.out⟩

theorem parts_calls (A B : Option Addr) (n m cap cap' : Nat) (xs ys : List UInt8) (hc : n ≤ cap) (hc' : m ≤ cap') (b : Nat) (hb : b < 256) (w : World) (h : byte.C w A n xs) (h' : byte.C w B m ys) :
    Calls Try.prog 4 #[.slice A n cap, .slice B m cap', .int .u8 (b : Int)] w fun e w' => e = .returned (.bool true) ∧ Below w.heap.size w w' := by
  obtain ⟨hl, hm⟩ := C_len h
  obtain ⟨hl', hm'⟩ := C_len h'
  by_cases hn : n ≤ 2000
  · by_cases hn' : m ≤ 2000
    · have H := Aside0.mk h
      have H' := Aside0.mk h'
      have HL := Aside0.mk hl
      have HL' := Aside0.mk hl'
      clear h h' hl hl'
      have HO0 := Aside0.mk (Own.nil w w.heap.size)
      go_enter Try.func4, Try.ntmps4
      go_wp2_with (first
        | (at_builtin; refine app_row (w0 := w) w.heap.size (.tmp 17) (.tmp 18) rfl rfl _ [] xs _ _ _ rfl rfl HO0.out H.out (Below.refl _ _) (Nat.le_refl _) (by simp; omega) ?_; intro v1 w1 HO1 hb1 hg1; have HO1' := Aside0.mk HO1; have hb1' := Aside0.mk hb1; clear HO1 hb1 hg1)
        | (at_builtin; refine app_row (w0 := w) w.heap.size (.tmp 20) (.tmp 21) rfl rfl _ ([] ++ xs) ys _ _ _ rfl rfl HO1'.out (Kd.C_below H'.out hb1'.out) hb1'.out hb1'.out.size (by have := HL.out; simp; omega) ?_; intro v2 w2 HO2 hb2 hg2; have HO2' := Aside0.mk HO2; have hb2' := Aside0.mk hb2; clear HO2 hb2 hg2))
      have hb2 := hb2'.out
      have e2 := Aside0.mk ((alloc_below w2 (.cells #[.slice A n cap, .slice B m cap'] 22)))
      have hx2 : Kd.C (Kd.slice 5 byte) (w2.alloc (.cells #[.slice A n cap, .slice B m cap'] 22)) (some ⟨w2.heap.size, 0, none⟩) 2 [xs, ys] :=
        C_lit rfl (by exact ⟨K_bytes (Kd.C_below H.out hb2'.out) hc, K_bytes (Kd.C_below H'.out hb2'.out) hc', trivial⟩) rfl rfl (by simp)
      refine (crc_sum_calls _ _ _ _ _ hx2).mono ?_
      rintro e w3 ⟨rfl, rfl⟩
      clear hx2
      have hb3 := Aside0.mk (hb2.alloc hb2.size (.cells #[.slice A n cap, .slice B m cap'] 22))
      have HO3 := Aside0.mk (HO2'.out.below e2.out)
      generalize w2.alloc (.cells #[.slice A n cap, .slice B m cap'] 22) = w3 at *
      clear hb2 e2
      rw [show ([xs, ys] : List (List UInt8)).flatten = xs ++ ys by simp]
      go_wp2_with fail
      refine (known_calls _).mono ?_
      rintro e w4 ⟨rfl, hw4⟩
      have hb4 := Aside0.mk (below_then hb3.out hb3.out.size hw4)
      obtain ⟨A2, n2, c2, rfl, hc2, hr2⟩ := (HO3.out.below hw4).reads
      clear hw4
      have HR2 := Aside0.mk (show byte.C w4 A2 n2 (xs ++ ys) from hr2)
      clear hr2
      go_wp2_with fail
      refine (crc_sum_calls _ _ _ _ _ (lit_one HR2.out hc2)).mono ?_
      rintro e w5 ⟨rfl, rfl⟩
      rw [show ([xs ++ ys] : List (List UInt8)).flatten = xs ++ ys by simp]
      have e5 := Aside0.mk (alloc_below w4 (.cells #[.slice A2 n2 c2] 22))
      have hb5 := Aside0.mk (hb4.out.alloc hb4.out.size (.cells #[.slice A2 n2 c2] 22))
      have H5 := Aside0.mk (Kd.C_below H.out hb5.out)
      have H5' := Aside0.mk (Kd.C_below H'.out hb5.out)
      generalize w4.alloc (.cells #[.slice A2 n2 c2] 22) = w5 at *
      clear e5
      have e6 := Aside0.mk (alloc_below w5 (.cells #[.int .u8 (b : Int)] 5))
      have e7 := (hb5.out.alloc hb5.out.size (.cells #[.int .u8 (b : Int)] 5))
      have e8 := Aside0.mk (e7.alloc (by simpa using Nat.le_succ_of_le hb5.out.size) (.cells #[.slice A n cap, .slice B m cap', .slice (some ⟨w5.heap.size, 0, none⟩) 1 1] 22))
      clear e7
      have h6 : byte.C (w5.alloc (.cells #[.int .u8 (b : Int)] 5)) (some ⟨w5.heap.size, 0, none⟩) 1 [UInt8.ofNat b] :=
        C_lit rfl (by exact ⟨by show [Value.int .u8 (b : Int)] = [Value.int .u8 ((UInt8.ofNat b).toNat : Int)]; rw [UInt8.toNat_ofNat', Nat.mod_eq_of_lt hb], trivial⟩) rfl rfl (by simp)
      have h7 : (Kd.slice 5 byte).C ((w5.alloc (.cells #[.int .u8 (b : Int)] 5)).alloc (.cells #[.slice A n cap, .slice B m cap', .slice (some ⟨w5.heap.size, 0, none⟩) 1 1] 22)) (some ⟨w5.heap.size + 1, 0, none⟩) 3 [xs, ys, [UInt8.ofNat b]] :=
        C_lit rfl (by exact ⟨K_bytes (Kd.C_below H5.out e6.out) hc, K_bytes (Kd.C_below H5'.out e6.out) hc', K_bytes h6 (by omega), trivial⟩) (by simp) rfl (by simp)
      have H7 := Aside0.mk h7
      clear h6 h7
      go_wp2_with fail
      refine (crc_sum_calls _ _ _ _ _ H7.out).mono ?_
      rintro e w6 ⟨rfl, rfl⟩
      rw [show sum (nat ([xs, ys, [UInt8.ofNat b]] : List (List UInt8)).flatten) = nxt (sum (nat (xs ++ ys))) b by
        have : ([xs, ys, [UInt8.ofNat b]] : List (List UInt8)).flatten = (xs ++ ys) ++ [UInt8.ofNat b] := by simp
        rw [this, nat_append]
        unfold sum
        rw [sumFrom_append]
        show nxt _ (UInt8.ofNat b).toNat = _
        rw [UInt8.toNat_ofNat', Nat.mod_eq_of_lt hb]]
      have hs := sumFrom_lt (nat (xs ++ ys)) 0 (by omega)
      have hs' : sum (nat (xs ++ ys)) < 4294967296 := hs
      clear hs
      go_wp2_with fail
      refine (next_calls _ _ hs' hb _).mono ?_
      rintro e w6 ⟨rfl, rfl⟩
      go_wp2
      go_ret
      exact ⟨rfl, e8.out⟩
    · clear h h'
      go_enter Try.func4, Try.ntmps4
      go_wp2
      go_ret
      exact ⟨rfl, Below.refl _ _⟩
  · clear h h'
    go_enter Try.func4, Try.ntmps4
    go_wp2
    go_ret
    exact ⟨rfl, Below.refl _ _⟩

theorem sum_one_at {A : Option Addr} {n cap b : Nat} (xs : List UInt8) {W : World} (hb : W.heap[b]? = some (.cells #[.slice A n cap] 22 (0, 0))) (hC : byte.C W A n xs) (hc : n ≤ cap) :
    Calls Try.prog 8 #[.slice (some ⟨b, 0, none⟩) 1 1] W fun e w' => e = .returned (.int .u32 (sum (nat xs) : Int)) ∧ W = w' := by
  have h := crc_sum_calls (some ⟨b, 0, none⟩) 1 1 [xs] W (C_of_block rfl hb (by exact ⟨K_bytes hC hc, trivial⟩) (by simp))
  rwa [show ([xs] : List (List UInt8)).flatten = xs by simp] at h

theorem byte_law (xs : List UInt8) (q : Nat) (hq : q < xs.length) (b : UInt8) :
    (((sum (nat xs) : Nat) : Int) == ((sum (nat (xs.set q b)) : Nat) : Int)) = ((((xs[q]?.getD 0).toNat : Nat) : Int) == ((b.toNat : Nat) : Int)) := by
  apply eq_cast
  have e1 : xs = xs.take q ++ (xs[q]?.getD 0) :: xs.drop (q + 1) := by
    have h1 := List.take_append_drop q xs
    rw [drop_getD xs q 0 hq, List.getD_eq_getElem?_getD] at h1
    exact h1.symm
  have e2 : xs.set q b = xs.take q ++ b :: xs.drop (q + 1) := by
    rw [List.set_eq_take_append_cons_drop, if_pos hq]
  constructor
  · intro h
    rw [e2] at h
    have h' : sum (nat (xs.take q ++ (xs[q]?.getD 0) :: xs.drop (q + 1))) = sum (nat (xs.take q ++ b :: xs.drop (q + 1))) := by rw [← e1]; exact h
    rw [nat_append, nat_append, nat_cons, nat_cons] at h'
    exact sum_one _ _ _ _ (nat_lt _) (UInt8.toNat_lt _) (UInt8.toNat_lt _) h'
  · intro h
    have : xs[q]?.getD 0 = b := UInt8.toNat_inj.1 h
    rw [e2, ← this, ← e1]

theorem byte_calls (A : Option Addr) (n cap : Nat) (xs : List UInt8) (hc : n ≤ cap) (k : Int) (hk : -9223372036854775808 ≤ k ∧ k ≤ 9223372036854775807) (b : UInt8) (w : World) (h : byte.C w A n xs) :
    Calls Try.prog 5 #[.slice A n cap, .int .i64 k, .int .u8 (b.toNat : Int)] w fun e w' => e = .returned (.bool true) ∧ Below w.heap.size w w' := by
  obtain ⟨hl, hm⟩ := C_len h
  by_cases hn : n ≤ 2000
  · by_cases h0 : n = 0
    · have hz : ((n : Int) == 0) = true := by rw [h0]; rfl
      clear h
      go_enter Try.func5, Try.ntmps5
      go_wp2_with fail
      refine (known_calls _).mono ?_
      rintro e w1 ⟨rfl, hw1⟩
      have HB := Aside0.mk hw1
      clear hw1
      go_wp2
      go_ret
      exact ⟨rfl, HB.out⟩
    · have hz : ((n : Int) == 0) = false := by rw [beq_eq_false_iff_ne]; omega
      have H := Aside0.mk h
      have HL := Aside0.mk hl
      have HO0 := Aside0.mk (Own.nil w w.heap.size)
      clear h hl
      go_enter Try.func5, Try.ntmps5
      go_wp2_with fail
      refine (known_calls _).mono ?_
      rintro e w1 ⟨rfl, hw1⟩
      have HB := Aside0.mk hw1
      have H1 := Aside0.mk (Kd.C_below H.out hw1)
      clear hw1
      have hm0 : 0 ≤ mx k 0 := by unfold mx; split <;> omega
      have hm1 : mx k 0 ≤ 9223372036854775807 := by unfold mx; split <;> omega
      obtain ⟨q, hq⟩ : ∃ q : Nat, mx k 0 % (n : Int) = (q : Int) := ⟨(mx k 0 % (n : Int)).toNat, by have := Int.emod_nonneg (mx k 0) (show (n : Int) ≠ 0 by omega); omega⟩
      have hqn : q < n := by have := Int.emod_lt_of_pos (mx k 0) (show 0 < (n : Int) by omega); omega
      have hb1 := HB.out.size
      go_wp2_with (first
        | (at_builtin; refine app_row (w0 := w) w.heap.size (.tmp 27) (.tmp 28) rfl rfl _ [] xs _ _ _ rfl rfl (Own.nil _ _) H1.out HB.out hb1 (by simp; omega) ?_; intro v2 w2 HO2 hb2 hg2; have HO2' := Aside0.mk HO2; have hb2' := Aside0.mk hb2; have H2 := Aside0.mk (Kd.C_below H1.out (below_of_grown hg2)); clear HO2 hb2 hg2; obtain ⟨g, n2, cap2, rfl, hn2, hbg, hcell, hfz, HO3⟩ := HO2'.out.store q (by have := HL.out; simp; omega) b; have hq2 : q < n2 := (by have := HL.out; simp at hn2; omega); have HO3' := Aside0.mk HO3; clear hn2 HO3))
      have hb3 := Aside0.mk (hb2'.out.setCell (p := ⟨g, q, none⟩) hbg (.int .u8 (b.toNat : Int)))
      obtain ⟨A3, n3, cap3, he3, hc3, hr3⟩ := HO3'.out.reads
      injection he3 with he3 he4 he5
      subst he3 he4 he5
      have H3 := Aside0.mk (Kd.C_below H.out hb3.out)
      have HR3 := Aside0.mk (show byte.C _ _ _ (xs.set q b) from hr3)
      clear hr3 hcell hfz HO3' H2 hb2' HO2'
      generalize w2.setCell ⟨g, q, none⟩ (.int .u8 (b.toNat : Int)) = w3 at *
      obtain ⟨ad, rfl, hcell⟩ := byte_at H3.out q hqn
      have hq0 : (0 : Int) ≤ (q : Int) := Int.natCast_nonneg _
      have hq1 : (q : Int) < (n : Int) := by omega
      clear hq
      have HF := Aside0.mk (byte_law xs q (by have := HL.out; omega) b)
      go_region_held3 (fun w' => w'.cell? (ad.add q) = some (.int .u8 ((xs.getD q 0).toNat : Int)) ∧ Below w3.heap.size w3 w')
        ((refine (fun hB => And.intro (pw_cell_below hB hcell) hB) ?_; repeat (first | (with_reducible exact Below.refl _ _) | (with_reducible refine below_drew ?_) | (with_reducible refine below_alloc ?_ _))))
        (first | (go_at_call 8; (with_reducible refine (sum_one_at (xs) ?_ (Kd.C_below H3.out ?_) hc).mono ?_); (focus (repeat (first | (with_reducible refine blk_drawn ?_) | ((with_reducible refine blk_here ?_); (first | rfl | (simp; done))) | (with_reducible refine blk_past ?_)))); (focus (repeat (first | (with_reducible exact Below.refl _ _) | (with_reducible refine below_drew ?_) | (with_reducible refine below_alloc ?_ _)))); rintro e w1 ⟨rfl, rfl⟩) | (go_at_call 8; (with_reducible refine (sum_one_at (xs.set q b) ?_ (Kd.C_below HR3.out ?_) hc3).mono ?_); (focus (repeat (first | (with_reducible refine blk_drawn ?_) | ((with_reducible refine blk_here ?_); (first | rfl | (simp; done))) | (with_reducible refine blk_past ?_)))); (focus (repeat (first | (with_reducible exact Below.refl _ _) | (with_reducible refine below_drew ?_) | (with_reducible refine below_alloc ?_ _)))); rintro e w1 ⟨rfl, rfl⟩))
      all_goals
        clear hcell hq0 hq1
        go_wp2
        go_ret
        refine ⟨?_, ?_⟩
        · show Ending.returned (.bool _) = _
          rw [HF.out, beq_self_eq_true]
        · refine Below.trans hb3.out (Below.mono ?_ hb3.out.size)
          (repeat (first | (with_reducible exact Below.refl _ _) | (with_reducible refine below_drew ?_) | (with_reducible refine below_alloc ?_ _)))
  · clear h
    go_enter Try.func5, Try.ntmps5
    go_wp2_with fail
    refine (known_calls _).mono ?_
    rintro e w1 ⟨rfl, hw1⟩
    have HB := Aside0.mk hw1
    clear hw1
    go_wp2
    go_ret
    exact ⟨rfl, HB.out⟩

/-! The walks, as the rows ask for them. -/
theorem sums_walk (W : World) (a : Option Addr) (len cap : Nat) (l : List UInt8) (le : len ≤ cap) (c : byte.C W a len l) (n : Nat) (hn : n < 4294967296) (b : UInt8) :
    Calls Try.prog 3 #[.slice a len cap, .int .u32 (n : Int), .int .u8 (b.toNat : Int)] W fun e w' => e = .returned (.bool true) ∧ Below W.heap.size W w' := sums_calls a len cap l le n b.toNat hn b.toNat_lt W c
theorem parts_walk (W : World) (a : Option Addr) (len cap : Nat) (l : List UInt8) (le : len ≤ cap) (c : byte.C W a len l) (a' : Option Addr) (len' cap' : Nat) (l' : List UInt8) (le' : len' ≤ cap') (c' : byte.C W a' len' l') (b : UInt8) :
    Calls Try.prog 4 #[.slice a len cap, .slice a' len' cap', .int .u8 (b.toNat : Int)] W fun e w' => e = .returned (.bool true) ∧ Below W.heap.size W w' := parts_calls a a' len len' cap cap' l l' le le' b.toNat b.toNat_lt W c c'
theorem byte_walk (W : World) (a : Option Addr) (len cap : Nat) (l : List UInt8) (le : len ≤ cap) (c : byte.C W a len l) (k : Int) (hk : -9223372036854775808 ≤ k ∧ k ≤ 9223372036854775807) (b : UInt8) :
    Calls Try.prog 5 #[.slice a len cap, .int .i64 k, .int .u8 (b.toNat : Int)] W fun e w' => e = .returned (.bool true) ∧ Below W.heap.size W w' := byte_calls a len cap l le k hk b W c
theorem turns_walk (W : World) (n : Nat) (hn : n < 4294967296) (m : Nat) (hm : m < 4294967296) (x y : UInt8) :
    Calls Try.prog 6 #[.int .u32 (n : Int), .int .u32 (m : Int), .int .u8 (x.toNat : Int), .int .u8 (y.toNat : Int)] W fun e w' => e = .returned (.bool true) ∧ Below W.heap.size W w' := turns_calls n m x.toNat y.toNat hn hm x.toNat_lt y.toNat_lt W
end Go.Proofs.Ytglldkaicihmhaa.Crc
