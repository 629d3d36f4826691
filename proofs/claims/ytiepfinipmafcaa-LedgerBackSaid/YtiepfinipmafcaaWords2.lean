/- Laws of this seat's program at its appends of bytes; no function of the program in sight. -/
import Derived.Test.YtiepfinipmafcaaProg
import Derived.Test.YtiepfinipmafcaaBase
import Derived.Test.YtiepfinipmafcaaWMore
import Derived.Test.YtiepfinipmafcaaWNEv
import Derived.Test.YtiepfinipmafcaaWShare
import Derived.WalkKit
import Derived.KernelRfl
namespace Go.Proofs.Ytiepfinipmafcaa.Base
open Go.RowKit Go.Proofs.YtiepfinipmafcaaW.PrintWords
set_option linter.unusedVariables false

theorem below_of_grown {w w1 : World} (h : w.grownBy w1 none) : Below w.heap.size w w1 := ⟨h.os, h.tape, h.output, h.size, fun i hi => h.block i hi (by simp)⟩
theorem max2_mx (k k' : IntKind) (x y : Int) : Builtin.max2 (.int k x) (.int k' y) = pure (.int k (mx x y)) := by simp only [Builtin.max2, mx, gt_iff_lt]
theorem min2_mn (k k' : IntKind) (x y : Int) : Builtin.min2 (.int k x) (.int k' y) = pure (.int k (mn x y)) := by simp only [Builtin.min2, mn]
theorem mx0 (k : Int) (h : k ≤ 9223372036854775807) : 0 ≤ mx k 0 ∧ mx k 0 ≤ 9223372036854775807 := by unfold mx; split <;> omega
theorem info_u8 : (Try.prog.info? 5).map (fun i => (i.zero, i.size, i.bytes)) = some (some (.int .u8 0), 1, 1) := by kernel_rfl
def anyB : Nat → Prop := fun _ => True
/-- A row of bytes of the call's own, blocks from base on. -/
def Own (w : World) (base : Nat) (v : Value) (xs : List UInt8) : Prop := byte.R 5 w base anyB v xs
theorem Own.nil (w : World) (base : Nat) : Own w base (.slice none 0 0) [] := Kd.R_nil _ _ _ _ _
theorem Own.below {w w1 : World} {base : Nat} {v : Value} {xs : List UInt8} (h : Own w base v xs) (hb : Below w.heap.size w w1) : Own w1 base v xs := Kd.R_below h hb
theorem Own.reads {w : World} {base : Nat} {v : Value} {xs : List UInt8} (h : Own w base v xs) : ∃ A n c, v = .slice A n c ∧ n ≤ c ∧ byte.C w A n xs := by
  obtain ⟨A, c, h1, h2, h3⟩ := Kd.R_reads h
  exact ⟨A, _, c, h1, h2, h3⟩

/-- A store into a row of the call's own. -/
theorem Own.store {w : World} {base : Nat} {v : Value} {xs : List UInt8} (h : Own w base v xs) (i : Nat) (hi : i < xs.length) (c : UInt8) :
    ∃ g n cap, v = .slice (some ⟨g, 0, none⟩) n cap ∧ n = xs.length ∧ base ≤ g ∧ w.cell? ⟨g, i, none⟩ = some (.int .u8 ((xs.getD i 0).toNat : Int)) ∧ w.frozen? ⟨g, i, none⟩ = false ∧
      Own (w.setCell ⟨g, i, none⟩ (.int .u8 (c.toNat : Int))) base v (xs.set i c) := by
  obtain ⟨A, cap, rfl, hc, hr⟩ := Kd.R_reads h
  have hpos : 0 < xs.length := by omega
  obtain ⟨h0, inner, hown, hrep⟩ := h
  obtain ⟨g, cap', he, hb, _⟩ := hown.form hpos
  injection he with he1 _ he2
  subst he1 he2
  have hcell := byte_at hr i hi
  obtain ⟨ad, hA, hcell⟩ := hcell
  injection hA with hA
  subst hA
  rw [add_plain] at hcell
  refine ⟨g, xs.length, cap, rfl, rfl, hb, hcell, ?_, ?_⟩
  · exact hown.frozenAt i
  · exact Kd.R_putn ⟨h0, inner, hown, hrep⟩ (i : Int) c

section
variable {ops : Array Oper} {rest : List Oper} {o : Oper} {a : Act} {Q : Exit → Act → World → Prop}
/-- append(v, ys...) -/
theorem app_row {w0 W : World} (base : Nat) (s x : Operand) (hgd : o.guard = none) (ho : o.op = .call { callee := .builtin .append, args := #[s, x], argTypes := #[38, 38] })
    (v : Value) (xs ys : List UInt8) (A : Option Addr) (m c : Nat) (hs : a.eval s = v) (hx : a.eval x = .slice A m c)
    (HO : Own W base v xs) (HR : byte.C W A m ys) (HB : Below base w0 W) (hbase : base ≤ W.heap.size) (hl : xs.length + m ≤ 140737488355328)
    (h : ∀ v1 w1, Own w1 base v1 (xs ++ ys) → Below base w0 w1 → W.grownBy w1 v.ownBlock → wpList Try.prog ops Q rest (a.put o.dst v1) w1) : wpList Try.prog ops Q (o :: rest) a W :=
  Kd.R_append_row (w0 := w0) _ (0 : UInt8) base hgd s x 38 5 (.int .u8 0) 1 ho Try.underlying38 info_u8 rfl (by decide) v xs ys A m c anyB hs hx (fun _ _ => trivial) HO HR HB hbase (by omega)
    (fun v1 w1 h1 h2 h3 _ => h v1 w1 h1 h2 h3)
end

/-! Lists that are cut; lists of what came in that the call gathers. -/
theorem C_take {α : Type} {d : Kd α} {w : World} {A : Option Addr} {n : Nat} {xs : List α} (h : d.C w A n xs) (m : Nat) (hm : m ≤ n) : d.C w A m (xs.take m) := by
  obtain ⟨hl, hmx, hc⟩ := h
  refine ⟨by rw [List.length_take]; omega, by omega, fun hp => ?_⟩
  obtain ⟨ad, e, hc⟩ := hc (by omega)
  refine ⟨ad, e, fun j p hj => hc j p ?_⟩
  rw [List.getElem?_take] at hj
  split at hj
  · exact hj
  · cases hj
theorem C_drop {α : Type} {d : Kd α} {w : World} {A : Option Addr} {n c : Nat} {xs : List α} (h : d.C w A n xs) (hc : n ≤ c) (m : Nat) (hm : m ≤ n) :
    d.C w (if c = m then A else A.map (·.add (m * d.sz))) (n - m) (xs.drop m) := by
  obtain ⟨hl, hmx, hcc⟩ := h
  refine ⟨by rw [List.length_drop]; omega, by omega, fun hp => ?_⟩
  obtain ⟨ad, e, hcd⟩ := hcc (by omega)
  subst e
  rw [if_neg (by omega)]
  refine ⟨ad.add (m * d.sz), rfl, fun j p hj => ?_⟩
  rw [List.getElem?_drop] at hj
  obtain ⟨cs, h1, h2, h3⟩ := hcd (m + j) p hj
  refine ⟨cs, h1, h2, fun i u hu => ?_⟩
  rw [Go.Deep.add_add, ← Nat.add_assoc, ← Nat.add_mul]
  exact h3 i u hu
section
variable {P : Program} {ops : Array Oper} {rest : List Oper} {o : Oper} {a : Act} {Q : Exit → Act → World → Prop} {α : Type}
/-- append(v, ys...) where ys came in (or was made before w0). -/
theorem app_came (d : Kd α) (hd : Kd.Heap d) {w0 W : World} (s x : Operand) (t e : TypeId) (z : Value) (bytes : Nat) (hgd : o.guard = none)
    (ho : o.op = .call { callee := .builtin .append, args := #[s, x], argTypes := #[t, t] })
    (ht : P.underlying t = some (.slice e)) (hinfo : (P.info? e).map (fun i => (i.zero, i.size, i.bytes)) = some (some z, d.sz, bytes)) (hz : z.cells.size = d.sz) (hs0 : 0 < d.sz) (hb0 : 0 < bytes)
    (v : Value) (xs ys : List α) (A : Option Addr) (m c : Nat) (hs : a.eval s = v) (hx : a.eval x = .slice A m c)
    (HO : Kd.N d e W w0.heap.size anyB v xs) (HC : d.C w0 A m ys) (HB : Below w0.heap.size w0 W) (hl : (xs.length + m) * bytes ≤ 140737488355328)
    (h : ∀ v1 w1, Kd.N d e w1 w0.heap.size anyB v1 (xs ++ ys) → Below w0.heap.size w0 w1 → W.grownBy w1 v.ownBlock → wpList P ops Q rest (a.put o.dst v1) w1) : wpList P ops Q (o :: rest) a W :=
  Kd.N_append_rows d (w0 := w0) w0.heap.size hgd s x t e z bytes ho ht hinfo hz hs0 hb0 v xs ys A m c anyB (fun k => k < w0.heap.size) hs hx HO
    (Kd.F_step (Kd.C_F hd HC) (fun k hk _ => HB.block k hk)) (fun k hk => ⟨trivial, fun e => by have := Kd.N_base HO k e.symm; omega⟩) (fun _ _ => trivial) HB HB.size hl (fun v1 w1 h1 h2 h3 _ => h v1 w1 h1 h2 h3)
/-- append(v, x) where x's cells lead to what came in. -/
theorem app_came1 (d : Kd α) (hd : Kd.Heap d) {w0 W : World} (s x : Operand) (t e : TypeId) (z : Value) (bytes : Nat) (hgd : o.guard = none)
    (ho : o.op = .call { callee := .builtin .append, args := #[s, x], argTypes := #[t, t] })
    (ht : P.underlying t = some (.slice e)) (hinfo : (P.info? e).map (fun i => (i.zero, i.size, i.bytes)) = some (some z, d.sz, bytes)) (hz : z.cells.size = d.sz) (hs0 : 0 < d.sz) (hb0 : 0 < bytes)
    (v : Value) (xs : List α) (p : α) (cs : List Value) (hs : a.eval s = v) (hx : a.eval x = .slice (some ⟨W.heap.size, 0, none⟩) 1 1)
    (HO : Kd.N d e W w0.heap.size anyB v xs) (HC : d.K w0 p cs) (HB : Below w0.heap.size w0 W) (hl : (xs.length + 1) * bytes ≤ 140737488355328)
    (h : ∀ v1 w1, Kd.N d e w1 w0.heap.size anyB v1 (xs ++ [p]) → Below w0.heap.size w0 w1 → W.grownBy w1 v.ownBlock → wpList P ops Q rest (a.put o.dst v1) w1) : wpList P ops Q (o :: rest) a (W.alloc (.cells cs.toArray e)) :=
  Kd.N_append d (w0 := w0) w0.heap.size hgd s x t e z bytes ho ht hinfo hz hs0 hb0 v xs p cs anyB (fun k => k < w0.heap.size) hs hx
    (fun W' hW => hd.K (fun k hk => (hW k hk (Nat.lt_of_lt_of_le hk HB.size)).trans (HB.block k hk)) HC) (fun k hk => ⟨trivial, fun e => by have := Kd.N_base HO k e.symm; omega⟩) (fun _ _ => trivial) HO HB HB.size hl (fun v1 w1 h1 h2 h3 _ => h v1 w1 h1 h2 h3)
end
theorem heap_nat (k : IntKind) : Kd.Heap (nat k) := ⟨fun _ h => h⟩
theorem heap_num (k : IntKind) : Kd.Heap (num k) := ⟨fun _ h => h⟩
theorem heap_byte : Kd.Heap byte := Kd.heap_scalar
/-- What a row of the call's own reads as, the length a number of its own. -/
theorem N_open {α : Type} {d : Kd α} {e base : Nat} {ok : Nat → Prop} {w : World} {v : Value} {xs : List α} (h : Kd.N d e w base ok v xs) : ∃ A n c, v = .slice A n c ∧ n ≤ c ∧ d.C w A n xs := by
  obtain ⟨A, c, h1, h2, h3⟩ := Kd.N_reads h
  exact ⟨A, _, c, h1, h2, h3⟩
end Go.Proofs.Ytiepfinipmafcaa.Base
