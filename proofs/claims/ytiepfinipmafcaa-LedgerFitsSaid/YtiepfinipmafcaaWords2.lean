/- Laws of this seat's program at its appends of bytes; no function of the program in sight. -/
import Derived.Test.YtiepfinipmafcaaProg
import Derived.Test.YtiepfinipmafcaaBase
import Derived.Test.YtiepfinipmafcaaWMore
import Derived.WalkKit
import Derived.KernelRfl
namespace Go.Proofs.Ytiepfinipmafcaa.Base
open Go.RowKit Go.Proofs.YtiepfinipmafcaaW.PrintWords
set_option linter.unusedVariables false

theorem below_of_grown {w w1 : World} (h : w.grownBy w1 none) : Below w.heap.size w w1 := ⟨h.os, h.tape, h.output, h.size, fun i hi => h.block i hi (by simp)⟩
theorem max2_mx (k k' : IntKind) (x y : Int) : Builtin.max2 (.int k x) (.int k' y) = pure (.int k (mx x y)) := by simp only [Builtin.max2, mx, gt_iff_lt]
theorem min2_mn (k k' : IntKind) (x y : Int) : Builtin.min2 (.int k x) (.int k' y) = pure (.int k (mn x y)) := by simp only [Builtin.min2, mn]
theorem mx0 (k : Int) (h : k ≤ 9223372036854775807) : 0 ≤ mx k 0 ∧ mx k 0 ≤ 9223372036854775807 := by unfold mx; split <;> omega
theorem info_u8 : (Try.prog.info? 5).map (fun i => (i.zero, i.size, i.bytes)) = some (some (.int .u8 0), 1, 1) := by kernel_rfl
def anyB : Nat → Prop := fun _ => True
/-- A row of bytes of the call's own, blocks from base on. -/
def Own (w : World) (base : Nat) (v : Value) (xs : List UInt8) : Prop := byte.R 5 w base anyB v xs
theorem Own.nil (w : World) (base : Nat) : Own w base (.slice none 0 0) [] := Kd.R_nil _ _ _ _ _
theorem Own.below {w w1 : World} {base : Nat} {v : Value} {xs : List UInt8} (h : Own w base v xs) (hb : Below w.heap.size w w1) : Own w1 base v xs := Kd.R_below h hb
theorem Own.reads {w : World} {base : Nat} {v : Value} {xs : List UInt8} (h : Own w base v xs) : ∃ A n c, v = .slice A n c ∧ n ≤ c ∧ byte.C w A n xs := by
  obtain ⟨A, c, h1, h2, h3⟩ := Kd.R_reads h
  exact ⟨A, _, c, h1, h2, h3⟩

/-- A store into a row of the call's own. -/
theorem Own.store {w : World} {base : Nat} {v : Value} {xs : List UInt8} (h : Own w base v xs) (i : Nat) (hi : i < xs.length) (c : UInt8) :
    ∃ g n cap, v = .slice (some ⟨g, 0, none⟩) n cap ∧ n = xs.length ∧ base ≤ g ∧ w.cell? ⟨g, i, none⟩ = some (.int .u8 ((xs.getD i 0).toNat : Int)) ∧ w.frozen? ⟨g, i, none⟩ = false ∧
      Own (w.setCell ⟨g, i, none⟩ (.int .u8 (c.toNat : Int))) base v (xs.set i c) := by
  obtain ⟨A, cap, rfl, hc, hr⟩ := Kd.R_reads h
  have hpos : 0 < xs.length := by omega
  obtain ⟨h0, inner, hown, hrep⟩ := h
  obtain ⟨g, cap', he, hb, _⟩ := hown.form hpos
  injection he with he1 _ he2
  subst he1 he2
  have hcell := byte_at hr i hi
  obtain ⟨ad, hA, hcell⟩ := hcell
  injection hA with hA
  subst hA
  rw [add_plain] at hcell
  refine ⟨g, xs.length, cap, rfl, rfl, hb, hcell, ?_, ?_⟩
  · exact hown.frozenAt i
  · exact Kd.R_putn ⟨h0, inner, hown, hrep⟩ (i : Int) c

section
variable {ops : Array Oper} {rest : List Oper} {o : Oper} {a : Act} {Q : Exit → Act → World → Prop}
/-- append(v, ys...) -/
theorem app_row {w0 W : World} (base : Nat) (s x : Operand) (hgd : o.guard = none) (ho : o.op = .call { callee := .builtin .append, args := #[s, x], argTypes := #[38, 38] })
    (v : Value) (xs ys : List UInt8) (A : Option Addr) (m c : Nat) (hs : a.eval s = v) (hx : a.eval x = .slice A m c)
    (HO : Own W base v xs) (HR : byte.C W A m ys) (HB : Below base w0 W) (hbase : base ≤ W.heap.size) (hl : xs.length + m ≤ 140737488355328)
    (h : ∀ v1 w1, Own w1 base v1 (xs ++ ys) → Below base w0 w1 → W.grownBy w1 v.ownBlock → wpList Try.prog ops Q rest (a.put o.dst v1) w1) : wpList Try.prog ops Q (o :: rest) a W :=
  Kd.R_append_row (w0 := w0) _ (0 : UInt8) base hgd s x 38 5 (.int .u8 0) 1 ho Try.underlying38 info_u8 rfl (by decide) v xs ys A m c anyB hs hx (fun _ _ => trivial) HO HR HB hbase (by omega)
    (fun v1 w1 h1 h2 h3 _ => h v1 w1 h1 h2 h3)
end
end Go.Proofs.Ytiepfinipmafcaa.Base
