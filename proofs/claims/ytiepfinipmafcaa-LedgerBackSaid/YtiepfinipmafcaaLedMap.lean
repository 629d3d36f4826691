/- A map of accounts, told as a function: what is asked of it, what a store makes of it. No function of the program in sight. -/
import Derived.Test.YtiepfinipmafcaaProg
import Derived.Test.YtiepfinipmafcaaBase
import Derived.Maps.OwnSet
import Derived.Maps.OwnOps
import Derived.KernelRfl
namespace Go.Proofs.Ytiepfinipmafcaa.Led
open Go.RowKit Go.Maps Go.Proofs.YtiepfinipmafcaaW.PrintWords Go.Proofs.Ytiepfinipmafcaa.Base
set_option linter.unusedVariables false

/-- An account: the quota, what is used. -/
def accV (x : Nat × Nat) : Value := .agg #[.int .u64 (x.1 : Int), .int .u64 (x.2 : Int)]
def accD (x : Nat × Nat) : DataW Unit := .agg [.lit (.int .u64 (x.1 : Int)), .lit (.int .u64 (x.2 : Int))]
theorem accV_inj {x y : Nat × Nat} (h : accV x = accV y) : x = y := by
  simp only [accV, Value.agg.injEq] at h
  have h1 := congrArg (fun a => a[0]?) h
  have h2 := congrArg (fun a => a[1]?) h
  simp at h1 h2
  exact Prod.ext (by omega) (by omega)
theorem accD_inj {x y : Nat × Nat} (h : accD x = accD y) : x = y := by
  simp only [accD, DataW.agg.injEq, List.cons.injEq, DataW.lit.injEq, Lit.int.injEq, true_and, and_true] at h
  exact Prod.ext (by omega) (by omega)
open Classical in
noncomputable def accR (v : Value) : Option (DataW Unit × List MemPlace) := if h : ∃ x, v = accV x then some (accD h.choose, []) else none
theorem accR_mk (x : Nat × Nat) : accR (accV x) = some (accD x, []) := by
  have h : ∃ y, accV x = accV y := ⟨x, rfl⟩
  unfold accR
  rw [dif_pos h, ← accV_inj h.choose_spec]
theorem accR_inv {v : Value} {x : Nat × Nat} {ps : List MemPlace} (h : accR v = some (accD x, ps)) : v = accV x := by
  unfold accR at h
  split at h
  · rename_i hx
    simp only [Option.some.injEq, Prod.mk.injEq] at h
    rw [← accD_inj h.1]
    exact hx.choose_spec
  · cases h

def key (k : Nat) : Lit := .int .u32 (k : Int)
theorem law : Keyed Try.prog 24 := int_keyed Try.underlying24
theorem zeroAcc (w : World) : (zeroValue 57).run Try.prog w = .ok (accV (0, 0)) w := by kernel_rfl
theorem wf_key {k : Nat} (h : k < 4294967296) : (Lit.int .u32 (k : Int)).wf = true := by
  simp [Lit.wf, IntKind.min, IntKind.max, IntKind.bits, IntKind.signed]
  omega
theorem isKey_key {k : Nat} (h : k < 4294967296) : WideAt.IsKeyLit (key k) := by
  simp [WideAt.IsKeyLit, key]
theorem key_ne {a b : Nat} (h : a ≠ b) : key a ≠ key b := by
  intro e
  apply h
  injection e with _ e
  omega

/-- The block bm of w is a map of at most n entries that tells f. -/
def Acc (w : World) (bm n : Nat) (f : Nat → Option (Nat × Nat)) : Prop :=
  ∃ D : DataW Unit, w.ownsMap Try.prog 24 accR bm n D ∧ ∀ k, k < 4294967296 → Maps.has D (key k) = (f k).isSome ∧ D.atKey (key k) (accD (0, 0)) = accD ((f k).getD (0, 0))
def upd (f : Nat → Option (Nat × Nat)) (k : Nat) (x : Nat × Nat) : Nat → Option (Nat × Nat) := fun j => if j = k then some x else f j

theorem Acc.made (w : World) : Acc (w.alloc (.map #[] 0)) w.heap.size 0 (fun _ => none) :=
  ⟨.map [], World.ownsMap_made _ _ _ _, fun k hk => ⟨rfl, rfl⟩⟩
theorem Acc.kept {w w1 : World} {bm n : Nat} {f : Nat → Option (Nat × Nat)} (h : Acc w bm n f) {row : Option Nat} (hg : w.grownBy w1 row) (hne : some bm ≠ row) : Acc w1 bm n f := by
  obtain ⟨D, ho, hf⟩ := h
  exact ⟨D, ho.kept hg hne, hf⟩
theorem Acc.lt {w : World} {bm n : Nat} {f : Nat → Option (Nat × Nat)} (h : Acc w bm n f) : bm < w.heap.size := by
  obtain ⟨D, ho, _⟩ := h
  exact ho.lt
theorem Acc.below {w w1 : World} {bm n : Nat} {f : Nat → Option (Nat × Nat)} (h : Acc w bm n f) (hb : Below w.heap.size w w1) : Acc w1 bm n f := h.kept (grown_of_below hb none) (by simp)
theorem Acc.look {w : World} {bm n : Nat} {f : Nat → Option (Nat × Nat)} (h : Acc w bm n f) {k : Nat} (hk : k < 4294967296) :
    (Instr.lookup 53 (.map (some bm)) (.int .u32 (k : Int)) false).run Try.prog w = .ok (accV ((f k).getD (0, 0))) w := by
  obtain ⟨D, ho, hf⟩ := h
  obtain ⟨v, ps, hrun, hv⟩ := ho.lookup law Try.underlying53 (zeroAcc w) (accR_mk (0, 0)) (keyOf_int_mk Try.underlying24 (wf_key hk))
  have e := (hf k hk).2
  unfold key at e
  rw [e] at hv
  rw [accR_inv hv] at hrun
  exact hrun
theorem Acc.look_ok {w : World} {bm n : Nat} {f : Nat → Option (Nat × Nat)} (h : Acc w bm n f) {k : Nat} (hk : k < 4294967296) :
    (Instr.lookup 53 (.map (some bm)) (.int .u32 (k : Int)) true).run Try.prog w = .ok (.tuple #[accV ((f k).getD (0, 0)), .bool (f k).isSome]) w := by
  obtain ⟨D, ho, hf⟩ := h
  obtain ⟨v, ps, hrun, hv⟩ := ho.look_ok law Try.underlying53 (zeroAcc w) (accR_mk (0, 0)) (keyOf_int_mk Try.underlying24 (wf_key hk))
  obtain ⟨e1, e⟩ := hf k hk
  unfold key at e e1
  rw [e] at hv
  rw [accR_inv hv, e1] at hrun
  exact hrun
theorem Acc.put {w : World} {bm n : Nat} {f : Nat → Option (Nat × Nat)} (h : Acc w bm n f) (hn : n < maxLen) {k : Nat} (hk : k < 4294967296) (x : Nat × Nat) :
    ∃ w1, (Instr.mapUpdate 53 (.map (some bm)) (.int .u32 (k : Int)) (accV x)).run Try.prog w = .ok () w1 ∧ Acc w1 bm (n + 1) (upd f k x) ∧ w.grownBy w1 (some bm) := by
  obtain ⟨D, ho, hf⟩ := h
  obtain ⟨w1, hrun, ho1, hg⟩ := ho.update law Try.underlying53 hn (keyOf_int_mk Try.underlying24 (wf_key hk)) (accR_mk x)
  refine ⟨w1, hrun, ⟨_, ho1, fun j hj => ?_⟩, hg⟩
  have hm := ho.isMap
  by_cases e : j = k
  · subst e
    constructor
    · rw [show (upd f j x j) = some x by simp [upd]]
      exact Maps.has_put_same hm (isKey_key hk) _
    · rw [show (upd f j x j) = some x by simp [upd]]
      exact Maps.atKey_put_same hm (isKey_key hk) _ _
  · have e1 : upd f k x j = f j := by simp [upd, e]
    rw [e1]
    have e2 := key_ne e
    exact ⟨(Maps.has_put_other e2 _).trans (hf j hj).1, (Maps.atKey_put_other e2 _ _).trans (hf j hj).2⟩

/-- A ledger: its own block leads to its map. -/
structure Ledg (w : World) (xb bm n : Nat) (f : Nat → Option (Nat × Nat)) : Prop where
  cell : w.heap[xb]? = some (.cells #[.map (some bm)] 55 (0, 0))
  acc : Acc w bm n f
theorem Ledg.kept {w w1 : World} {xb bm n : Nat} {f : Nat → Option (Nat × Nat)} (h : Ledg w xb bm n f) {row : Option Nat} (hg : w.grownBy w1 row) (h1 : some xb ≠ row) (h2 : some bm ≠ row) : Ledg w1 xb bm n f :=
  ⟨(hg.block xb (Array.getElem?_eq_some_iff.1 h.cell).1 h1).trans h.cell, h.acc.kept hg h2⟩
theorem Ledg.below {w w1 : World} {xb bm n : Nat} {f : Nat → Option (Nat × Nat)} (h : Ledg w xb bm n f) (hb : Below w.heap.size w w1) : Ledg w1 xb bm n f := h.kept (grown_of_below hb none) (by simp) (by simp)
theorem Ledg.ne {w : World} {xb bm n : Nat} {f : Nat → Option (Nat × Nat)} (h : Ledg w xb bm n f) : xb ≠ bm := by
  intro e
  obtain ⟨D, ⟨es, cl, hb, _⟩, _⟩ := h.acc
  have := h.cell
  rw [e, hb] at this
  cases this
theorem Ledg.at_ {w : World} {xb bm n : Nat} {f : Nat → Option (Nat × Nat)} (h : Ledg w xb bm n f) : w.cell? ⟨xb, 0, none⟩ = some (.map (some bm)) := by simp [World.cell?, h.cell]

section
variable {ops : Array Oper} {rest : List Oper} {o : Oper} {a : Act} {Q : Exit → Act → World → Prop} {w : World} {bm n k : Nat} {f : Nat → Option (Nat × Nat)}
/-- m[k], at the operation. -/
theorem look_at (h : Acc w bm n f) (hk : k < 4294967296) (y z : Nat) (hyz : (f k).getD (0, 0) = (y, z)) (hg : o.guard = none) (m x : Operand) (hop : o.op = .lookup 53 m x false) (hm : a.eval m = .map (some bm)) (hx : a.eval x = .int .u32 (k : Int))
    (hK : wpList Try.prog ops Q rest (a.put o.dst (.agg #[.int .u64 (y : Int), .int .u64 (z : Int)])) w) : wpList Try.prog ops Q (o :: rest) a w := by
  refine wpList_plain hg fun K' hK' => ?_
  unfold Oper.wp
  simp [execOp, hop, hm, hx, h.look hk, hyz, Result.andThen]
  exact hK' _ _ hK
/-- v, ok := m[k], at the operation. -/
theorem look_ok_at (h : Acc w bm n f) (hk : k < 4294967296) (y z : Nat) (hyz : (f k).getD (0, 0) = (y, z)) (hg : o.guard = none) (m x : Operand) (hop : o.op = .lookup 53 m x true) (hm : a.eval m = .map (some bm)) (hx : a.eval x = .int .u32 (k : Int))
    (hK : wpList Try.prog ops Q rest (a.put o.dst (.tuple #[.agg #[.int .u64 (y : Int), .int .u64 (z : Int)], .bool (f k).isSome])) w) : wpList Try.prog ops Q (o :: rest) a w := by
  refine wpList_plain hg fun K' hK' => ?_
  unfold Oper.wp
  simp [execOp, hop, hm, hx, h.look_ok hk, hyz, Result.andThen]
  exact hK' _ _ hK
end
end Go.Proofs.Ytiepfinipmafcaa.Led
