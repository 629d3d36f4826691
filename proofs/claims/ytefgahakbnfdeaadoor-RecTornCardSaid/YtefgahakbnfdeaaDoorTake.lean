/- Numbers at the front of bytes: (*reader).number, wire.Take. -/
import Derived.Test.YtefgahakbnfdeaaDoorWire
import Derived.Recover
import Derived.RangeFuncBox
import Derived.Laws.Pointers
import Derived.WalkLawsBesides
namespace Go.Proofs.YtefgahakbnfdeaaDoor.Rc
open Go.RowKit Go.Proofs.YtefgahakbnfdeaaDoorW.PrintWords Go.Proofs.YtefgahakbnfdeaaDoorW.PrintMore Go.Proofs.YtefgahakbnfdeaaDoor.Base
set_option linter.unusedVariables false
set_option linter.unusedSimpArgs false

theorem or_byte (y x : Nat) (hx : x < 256) (hy : y < 72057594037927936) : bits .or .u64 ((y : Int) * 256) (x : Int) = ((y * 256 + x : Nat) : Int) := by
  have h := u64_or_nat (y * 256) x (by omega) (by omega)
  rw [Int.natCast_mul] at h
  refine h.trans ?_
  have := Nat.two_pow_add_eq_or_of_lt (i := 8) (b := x) (by omega) y
  rw [show (2 : Nat) ^ 8 = 256 from rfl, Nat.mul_comm] at this
  rw [this]
theorem un_lt7 (l : List UInt8) (h : l.length ≤ 7) : un l < 72057594037927936 := by
  have h1 := un_lt l
  have h2 : 256 ^ l.length ≤ 256 ^ 7 := Nat.pow_le_pow_right (by omega) h
  have : (256 : Nat) ^ 7 = 72057594037927936 := by decide
  omega
theorem un_snoc (l : List UInt8) (x : UInt8) : un (l ++ [x]) = un l * 256 + x.toNat := by unfold un; rw [unF_append]; rfl
theorem take_snocD {α : Type} (l : List α) (d : α) (i : Nat) (h : i < l.length) : l.take (i + 1) = l.take i ++ [l.getD i d] := by
  rw [List.take_add_one, List.getD_eq_getElem?_getD, List.getElem?_eq_getElem h]; rfl
/-- A reader's bytes. -/
structure Rd (w0 w : World) (g : Nat) (A : Option Addr) (n c : Nat) (b : List UInt8) : Prop where
  blk : Boxed w g 73 (.slice A n c)
  byt : byte.C w0 A n b
  cap : n ≤ c
  bel : Below w0.heap.size w0 w
  new : w0.heap.size ≤ g
theorem Rd.cell {w0 w : World} {g : Nat} {A : Option Addr} {n c : Nat} {b : List UInt8} (h : Rd w0 w g A n c b) : w.cell? ⟨g, 0, none⟩ = some (.slice A n c) ∧ w.frozen? ⟨g, 0, none⟩ = false :=
  ⟨h.blk.cell, h.blk.frozen⟩
set_option maxHeartbeats 1000000 in
theorem number_calls (w0 w : World) (g : Nat) (A : Option Addr) (n c : Nat) (b : List UInt8) (k : Nat) (h : Rd w0 w g A n c b) (hk : k ≤ n) (hk8 : k ≤ 8) (hc : c ≤ 9223372036854775807) :
    Calls Tryd.prog 39 #[.pointer (some ⟨g, 0, none⟩), .int .i64 (k : Int)] w fun e w' => e = .returned (.int .u64 ((un (b.take k) : Nat) : Int)) ∧
      w.setCell ⟨g, 0, none⟩ (.slice (if c = k then A else A.map (·.add k)) (n - k) (c - k)) = w' := by
  obtain ⟨r0, r1⟩ := h.cell
  have HR := Aside0.mk h
  obtain ⟨hl, hm⟩ := C_len h.byt
  have hcap := h.cap
  have hd : decide ((n : Int) < (k : Int)) = false := decide_eq_false (by omega)
  have hd' : decide (n < k) = false := decide_eq_false (by omega)
  clear h
  go_enter Tryd.func39, Tryd.ntmps39
  go_wp2
  go_loopg [4, 30] k (fun g4 v4 v30 wr => ∃ (i y : Nat), v30 = .int .i64 (i : Int) ∧ v4 = .int .u64 (y : Int) ∧ i ≤ k ∧ Aside0 (g4 + i = k) ∧ Aside0 (y = un (b.take i)) ∧ w = wr)
  case atStart => exact ⟨0, 0, rfl, rfl, by omega, ⟨rfl⟩, ⟨rfl⟩, rfl⟩
  case round =>
    obtain ⟨i, y, rfl, rfl, hi, HK, HY, rfl⟩ := hrel
    by_cases hlt : i < k
    · obtain ⟨pa, hpa, e0⟩ := byte_at (Kd.C_below HR.out.byt HR.out.bel) i (by omega)
      subst hpa
      obtain ⟨x, hx⟩ : ∃ x, b.getD i 0 = x := ⟨_, rfl⟩
      rw [hx] at e0
      have HX := Aside0.mk hx
      have hx8 := x.toNat_lt
      have hy7 : y < 72057594037927936 := by rw [HY.out]; exact un_lt7 _ (by rw [List.length_take]; omega)
      have hor := or_byte y x.toNat hx8 hy7
      clear hx
      go_wp2
      go_roundg (gk - 1)
      case measure => have := HK.out; omega
      case rel => exact ⟨i + 1, y * 256 + x.toNat, by congr 1, by congr 1, by omega, ⟨by have := HK.out; omega⟩, ⟨by rw [take_snocD b 0 i (by omega), un_snoc, HX.out, HY.out]⟩, rfl⟩
    · obtain rfl : i = k := by omega
      have hd0 : decide ((i : Int) < (i : Int)) = false := decide_eq_false (by omega)
      by_cases hck : c = i
      · subst hck
        go_wp2
        go_ret
        exact ⟨by rw [HY.out]; rfl, rfl⟩
      · have HCK := Aside0.mk hck
        go_wp2
        go_ret
        exact ⟨by rw [HY.out]; rfl, rfl⟩
theorem number_next (w0 w : World) (g : Nat) (A : Option Addr) (n c : Nat) (b : List UInt8) (k : Nat) (h : Rd w0 w g A n c b) (hk : k ≤ n) (hk8 : k ≤ 8) (hc : c ≤ 9223372036854775807) :
    Calls Tryd.prog 39 #[.pointer (some ⟨g, 0, none⟩), .int .i64 (k : Int)] w fun e w' => e = .returned (.int .u64 ((un (b.take k) : Nat) : Int)) ∧
      (∃ A' c', c' ≤ 9223372036854775807 ∧ Rd w0 w' g A' (n - k) c' (b.drop k)) ∧ w.grownBy w' (some g) := by
  refine (number_calls w0 w g A n c b k h hk hk8 hc).mono ?_
  rintro e w' ⟨rfl, rfl⟩
  have hg := grownBy_setCell' w g (.slice (if c = k then A else A.map (·.add k)) (n - k) (c - k))
  refine ⟨rfl, ⟨_, c - k, by omega, h.blk.set _, ?_, by have := h.cap; omega, ?_, h.new⟩, hg⟩
  · have := C_drop h.byt h.cap k hk
    rwa [show k * byte.sz = k from by show k * 1 = k; omega] at this
  · exact h.bel.setCell h.new _
set_option maxHeartbeats 1000000 in
theorem number_short (w0 w : World) (g : Nat) (A : Option Addr) (n c : Nat) (b : List UInt8) (k : Nat) (h : Rd w0 w g A n c b) (hk : n < k) (hk8 : k ≤ 8) :
    Calls Tryd.prog 39 #[.pointer (some ⟨g, 0, none⟩), .int .i64 (k : Int)] w fun e w' => ∃ u pv, e = .panicked [{ v := .iface u pv, recovered := false }] ∧ Below w.heap.size w w' := by
  obtain ⟨r0, r1⟩ := h.cell
  have HR := Aside0.mk h
  obtain ⟨hl, hm⟩ := C_len h.byt
  have hcap := h.cap
  have hd : decide ((n : Int) < (k : Int)) = true := decide_eq_true (by omega)
  have hd' : decide (n < k) = true := decide_eq_true (by omega)
  clear h
  go_enter Tryd.func39, Tryd.ntmps39
  go_wp2
  exact ⟨rfl, _, _, rfl, Below.refl _ _⟩

/-! The deferred closure. -/
theorem Boxed.far {W : World} {B B' : Nat} {t : TypeId} {v : Value} (h : Boxed W B t v) (hne : B ≠ B') (u : Value) : Boxed (W.setCell ⟨B', 0, none⟩ u) B t v := h.kept (grownBy_setCell' W B' u) (fun e => hne (by injection e))
theorem catch_panicking (gl gr gi : Nat) (vl vr vi : Value) (u : TypeId) (pv : Value) (w : World) (h0 : Boxed w gl 61 vl) (h1 : Boxed w gr 27 vr) (h2 : Boxed w gi 4 vi) (h01 : gl ≠ gr) (h02 : gl ≠ gi) (h12 : gr ≠ gi) :
    CallsD Tryd.prog 38 #[.pointer (some ⟨gl, 0, none⟩), .pointer (some ⟨gr, 0, none⟩), .pointer (some ⟨gi, 0, none⟩)] (.panicking ({ v := .iface u pv, recovered := false } :: [])) w fun e u' w' =>
      e = .returned (.tuple #[]) ∧ u' = .panicking ({ v := .iface u pv, recovered := true } :: []) ∧ w' = ((w.setCell ⟨gl, 0, none⟩ (.slice none 0 0)).setCell ⟨gr, 0, none⟩ (.slice none 0 0)).setCell ⟨gi, 0, none⟩ (.bool false) := by
  have c0 := h0.cell
  have z0 := h0.frozen
  have c1 := (Boxed.far h1 h01.symm (.slice none 0 0)).cell
  have z1 := (Boxed.far h1 h01.symm (.slice none 0 0)).frozen
  have c2 := (Boxed.far (Boxed.far h2 h02.symm (.slice none 0 0)) h12.symm (.slice none 0 0)).cell
  have z2 := (Boxed.far (Boxed.far h2 h02.symm (.slice none 0 0)) h12.symm (.slice none 0 0)).frozen
  refine callsD_of_wpS Tryd.func38 rfl fun c₀ cs hu => ?_
  apply wpS_seq
  apply wpS_region
  simp [wpOpsS, go_sem, recoverD, hu, Tryd.ntmps38, Exit.thenS]
  apply wpS_seq
  apply wpS_region
  simp [wpOpsS, go_sem, Exit.thenS]
  refine wpS_cond (t := true) (by simp [Act.eval, Array.replicate]) ?_
  simp only [if_true]
  apply wpS_region
  simp [wpOpsS, go_sem, c0, z0, c1, z1, c2, z2, bodyPostS, results, Tryd.results38]
theorem catch_idle (gl gr gi : Nat) (w : World) :
    CallsD Tryd.prog 38 #[.pointer (some ⟨gl, 0, none⟩), .pointer (some ⟨gr, 0, none⟩), .pointer (some ⟨gi, 0, none⟩)] .returning w fun e u' w' => e = .returned (.tuple #[]) ∧ u' = .returning ∧ w' = w := by
  refine callsD_of_wpS Tryd.func38 rfl fun c₀ cs hu => ?_
  apply wpS_seq
  apply wpS_region
  simp [wpOpsS, go_sem, recoverD, hu, Tryd.ntmps38, Exit.thenS]
  apply wpS_seq
  apply wpS_region
  simp [wpOpsS, go_sem, Exit.thenS]
  refine wpS_cond (t := false) (by simp [Act.eval, Array.replicate]) ?_
  simp only [Bool.false_eq_true, if_false]
  refine wpS_of_wp (wp_skip ?_)
  cases c₀
  simp_all [bodyPostS, results, Tryd.results38]
end Go.Proofs.YtefgahakbnfdeaaDoor.Rc
