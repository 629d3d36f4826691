/- Part 2 of 5 of the proof of CkptSaves: EncKit, Take, CrcWalks, CkptBlk, Right, Dev, DevNew, DevApp, DevRead, DevRd, DevOps, DevBlk, DevBlock, DevFlush, DevLose, DevCrash, Known, ReadsPure, ReadsMem, Ref, RefNew, RefOps, RefFlush, RefRead, RefApp, EqvPure, Bridge, Chunk. -/
import Derived.Test.YtkmeipblgdahoaaMCkptSaves1
import Derived.Test.YtkmeipblgdahoaaWZeros
import Derived.Laws.CopyOwn
import Derived.Handy
import Derived.Recover
import Derived.RangeFuncBox
import Derived.Laws.Pointers
import Derived.WalkLawsBesides
import Derived.Test.YtkmeipblgdahoaaProg
import Derived.WalkKit
import Derived.KernelRfl
import Derived.Deep.LoopGhost
import Derived.Deep.QuietTactic
import Derived.BigQuiet
import Derived.WideLaws
import Derived.Test.YtkmeipblgdahoaaWMore
import Derived.Laws.BitsAllLaws
import Derived.Laws.Bits64
import Derived.Outline
import Derived.Lib.SmallJoins
import Derived.WideShapes
import Derived.Test.YtkmeipblgdahoaaWKept
import Derived.Deep.RegionHeld3
import Derived.Laws.BytesArg
import Derived.Deep.DeepCutAuto
import Derived.RangeFuncNested
import Derived.RangeFuncBound
import Derived.RangeFuncCalls
import Derived.RangeFuncLeaves
import Derived.RangeFuncWrites
import Derived.RegionTactic
import Derived.OrdersIn
import Derived.Shelf.Abstract
import Derived.Shelf.RegionOpen
import Derived.OwnWalkIn
import Derived.TacticsInMore
import Derived.LoopNIn
import Derived.LoopIn
namespace Go.Proofs.Ytkmeipblgdahoaa.Rc
open Go.RowKit Go.Proofs.YtkmeipblgdahoaaW.PrintWords Go.Proofs.YtkmeipblgdahoaaW.PrintMore Go.Proofs.Ytkmeipblgdahoaa.Base
set_option linter.unusedVariables false
set_option linter.unusedSimpArgs false
theorem wfN {k : IntKind} {n : Nat} (hs : k.signed = false) (h : (n : Int) < 2 ^ k.bits) : (Lit.int k (n : Int)).wf = true := by
  simp only [Lit.wf, IntKind.min, IntKind.max, hs, decide_eq_true_eq, Bool.and_eq_true, Bool.false_eq_true, if_false]
  exact ⟨by omega, by omega⟩
theorem own_typed {w : World} {b : Nat} {v : Value} {xs : List UInt8} (h : Base.Own w b v xs) : w.ownsRow b 5 1 v xs.length (xs.map fun x => .int .u8 (x.toNat : Int)) := Kd.own_of_R h
theorem own_mk {w : World} {b : Nat} {v : Value} {xs : List UInt8} (h : w.ownsRow b 5 1 v xs.length (xs.map fun x => .int .u8 (x.toNat : Int))) : Base.Own w b v xs := Kd.R_of_own h (fun _ _ => trivial)
section
variable {ops : Array Oper} {rest : List Oper} {o : Oper} {a : Act} {Q : Exit → Act → World → Prop} {K : Act → World → Prop} {E : Prop}
/-- copy(out[k:], ys) -/
theorem copy_step {w0 W : World} (base : Nat) (hgd : o.guard = none) (d s : Operand) (ho : o.op = .call { callee := .builtin .copy, args := #[d, s], argTypes := #[39, 39] })
    (g n c : Nat) (xs ys : List UInt8) (k : Nat) (B : Option Addr) (m c' : Nat) (hd : a.eval d = .slice (some ⟨g, k, none⟩) (n - k) (c - k)) (hs : a.eval s = .slice B m c')
    (HO : Base.Own W base (.slice (some ⟨g, 0, none⟩) n c) xs) (HR : byte.C W B m ys) (hk : k + m ≤ n) (hm : 0 < m) (HB : Below base w0 W)
    (h : ∀ w', Base.Own w' base (.slice (some ⟨g, 0, none⟩) n c) (xs.take k ++ (ys ++ xs.drop (k + m))) → Below base w0 w' → K (a.put o.dst (.int .i64 (m : Int))) w') :
    if Region.wanted o (yielded ops a.tmps) = true then Oper.wp Try.prog o a W K Q else E := by
  obtain ⟨hl, hh⟩ := own_typed HO
  have hn : xs.length = n := by obtain ⟨A, q, he, _, _⟩ := Kd.R_reads HO; injection he with _ he; exact he.symm
  rcases hh with ⟨he, _⟩ | ⟨g', cap, cur, he, hbg, hblk, hnc, hcm, hcs, htk⟩
  · cases he
  · simp only [Value.slice.injEq, Option.some.injEq, Addr.mk.injEq, and_true] at he
    obtain ⟨rfl, -, rfl⟩ := he
    have hys : ys.length = m := HR.1
    have hcl : cur.toList.length = c := by simpa using hcs
    refine step_copy_splice hgd d s 39 39 ho 5 Try.underlying39 (by kernel_rfl) _ B (n - k) (c - k) m c' hd hs g k cur.toList 5 (by simpa using hblk) (ys.map fun x => .int .u8 (x.toNat : Int))
      (by rw [List.length_map, hys]; exact (Nat.min_eq_left (by omega)).symm) (fun _ => ⟨rfl, ?_⟩) (by rw [List.length_map, hys, hcl]; omega) (by intro v hv; obtain ⟨x, _, rfl⟩ := List.mem_map.1 hv; rfl) base w0 HB hbg (fun w' hw' hB' => ?_)
    · obtain ⟨ad, hA, -⟩ := byte_at HR 0 hm
      refine ⟨ad, hA, fun j v hv => ?_⟩
      rw [List.getElem?_map] at hv
      obtain ⟨x, hx, rfl⟩ := Option.map_eq_some_iff.1 hv
      have hj : j < m := by have := (List.getElem?_eq_some_iff.1 hx).1; omega
      obtain ⟨ad', hA', hc⟩ := byte_at HR j hj
      rw [hA] at hA'
      injection hA' with hA'
      subst hA'
      rw [List.getD_eq_getElem?_getD, hx] at hc
      exact hc
    · have hres : goInt (ys.map fun x => Value.int .u8 (x.toNat : Int)).length = .int .i64 (m : Int) := by rw [List.length_map, hys]; rfl
      rw [hres]
      refine h w' (own_mk ⟨by rw [List.length_map, Nat.mul_one], .inr ⟨g, c, _, ?_, hbg, hw'.out, ?_, hcm, ?_, ?_⟩⟩) hB'
      · rw [show (xs.take k ++ (ys ++ xs.drop (k + m))).length = n from by simp only [List.length_append, List.length_take, List.length_drop]; omega]
      · simp only [List.length_append, List.length_take, List.length_drop]; omega
      · have := length_splice cur.toList k (ys.map fun x => Value.int .u8 (x.toNat : Int)) (by rw [List.length_map]; omega)
        simp only [List.size_toArray, this, hcl, Nat.mul_one]
      · have e : (xs.take k ++ (ys ++ xs.drop (k + m))).length * 1 = n := by simp only [List.length_append, List.length_take, List.length_drop]; omega
        rw [e]
        have htk' : cur.toList.take n = xs.map fun x => .int .u8 (x.toNat : Int) := by rw [← htk, hn, Nat.mul_one]
        simp only [splice, List.length_map, hys, List.map_append, List.map_take, List.map_drop]
        rw [← htk']
        rw [List.take_append, List.take_append, List.length_take, List.length_map, hys, List.take_take, List.take_take, List.drop_take, List.take_of_length_le (l := ys.map _) (by rw [List.length_map]; omega)]
        rw [hcl, Nat.min_eq_left (show k ≤ c by omega), Nat.min_eq_right (show k ≤ n by omega), Nat.min_eq_left (show k ≤ n by omega), show n - k - m = n - (k + m) from by omega]
end
theorem wid_lit (W : World) (ws : List Int) (vs : Array Value) (hv : vs.toList = ws.map fun x => .int .i64 x) (hw : ∀ x ∈ ws, (Lit.int .i64 x).wf = true) (hl : ws.length ≤ 1000) : (num .i64).C (W.alloc (.cells vs 3)) (some ⟨W.heap.size, 0, none⟩) ws.length ws := by
  refine C_lit rfl ?_ rfl rfl (by omega)
  rw [hv]
  clear hv hl
  induction ws with
  | nil => exact trivial
  | cons x l ih => exact ⟨⟨rfl, hw x (by simp)⟩, ih (fun y hy => hw y (by simp [hy]))⟩
theorem val_lit (W : World) (ws : List Nat) (vs : Array Value) (hv : vs.toList = ws.map fun (x : Nat) => .int .u64 (x : Int)) (hw : ∀ x ∈ ws, x < 18446744073709551616) (hl : ws.length ≤ 1000) : (nat .u64).C (W.alloc (.cells vs 24)) (some ⟨W.heap.size, 0, none⟩) ws.length ws := by
  refine C_lit rfl ?_ rfl rfl (by omega)
  rw [hv]
  clear hv hl
  induction ws with
  | nil => exact trivial
  | cons x l ih => exact ⟨⟨rfl, wfN rfl (by have := hw x (by simp); show (x : Int) < 18446744073709551616; omega)⟩, ih (fun y hy => hw y (by simp [hy]))⟩
/-- Pack of literals. -/
theorem pack_lits (w W : World) (ws : List Int) (vs : List Nat) (wv vv : Array Value) (B : World) (hB : B = (W.alloc (.cells wv 3)).alloc (.cells vv 24)) (g1 g2 n1 n2 : Nat) (h1 : g1 = W.heap.size) (h2 : g2 = W.heap.size + 1) (e1 : n1 = ws.length) (e2 : n2 = vs.length)
    (hwv : wv.toList = ws.map fun x => .int .i64 x) (hw : ∀ x ∈ ws, (Lit.int .i64 x).wf = true) (hvv : vv.toList = vs.map fun (x : Nat) => .int .u64 (x : Int)) (hv : ∀ x ∈ vs, x < 18446744073709551616) (hwl : ws.length ≤ 1000) (hvl : vs.length ≤ 1000) (hb : Below w.heap.size w W) :
    Calls Try.prog 69 #[.slice (some ⟨g1, 0, none⟩) n1 n1, .slice (some ⟨g2, 0, none⟩) n2 n2] B fun e w' => ∃ v, e = .returned v ∧ Base.Own w' W.heap.size v (pack ws vs) ∧ Below w.heap.size w w' ∧ Below W.heap.size W w' := by
  subst hB h1 h2 e1 e2
  have c1 := Kd.C_below (wid_lit W ws wv hwv hw hwl) (alloc_below (W.alloc (.cells wv 3)) (.cells vv 24))
  have c2 := val_lit (W.alloc (.cells wv 3)) vs vv hvv hv hvl
  have hz : (W.alloc (.cells wv 3)).heap.size = W.heap.size + 1 := by simp
  rw [hz] at c2
  refine (pack_calls _ _ _ ws _ _ _ vs _ c1 c2 hwl hvl).mono ?_
  rintro e w' ⟨v, rfl, hO, hb'⟩
  have hbW : Below W.heap.size W w' := below_go (below_alloc (alloc_below W _) _) hb'
  exact ⟨v, rfl, Kd.R_lower hO (by simp; omega), below_go hb hbW, hbW⟩
section
variable {ops : Array Oper} {rest : List Oper} {o : Oper} {a : Act} {Q : Exit → Act → World → Prop}
/-- append(v, make([]byte, n)...) -/
theorem app_zeros {w0 W : World} (base : Nat) (s x : Operand) (hgd : o.guard = none) (ho : o.op = .call { callee := .builtin .append, args := #[s, x], argTypes := #[39, 3] })
    (v : Value) (xs : List UInt8) (n : Int) (hs : a.eval s = v) (hx : a.eval x = .int .i64 n) (HO : Base.Own W base v xs) (h0 : 0 ≤ n) (HB : Below base w0 W) (hbase : base ≤ W.heap.size) (hl : xs.length + n.toNat ≤ 140737488355328)
    (h : ∀ v1 w1, Base.Own w1 base v1 (xs ++ List.replicate n.toNat 0) → Below base w0 w1 → W.grownBy w1 v.ownBlock → wpList Try.prog ops Q rest (a.put o.dst v1) w1) : wpList Try.prog ops Q (o :: rest) a W :=
  Kd.R_append_zeros byte (w0 := w0) base hgd s x 39 3 5 (.int .u8 0) 1 ho Try.underlying39 Try.underlying3 info_u8 rfl (by decide) (by decide) v xs 0 n anyB hs hx rfl (fun _ _ => trivial) HO h0 HB hbase (by omega) (fun v1 w1 h1 h2 h3 _ => h v1 w1 h1 h2 h3)
/-- The same, a byte being stored at the end then. -/
theorem app_zeros2 {w0 W : World} (base : Nat) (s x : Operand) (hgd : o.guard = none) (ho : o.op = .call { callee := .builtin .append, args := #[s, x], argTypes := #[39, 3] })
    (v : Value) (xs : List UInt8) (n : Int) (hs : a.eval s = v) (hx : a.eval x = .int .i64 n) (HO : Base.Own W base v xs) (h0 : 0 ≤ n) (HB : Below base w0 W) (hbase : base ≤ W.heap.size) (hl : xs.length + n.toNat ≤ 140737488355328)
    (m : Nat) (hm : xs.length + n.toNat = m) (hm0 : 0 < m) (e : UInt8)
    (h : ∀ g c w1, base ≤ g → w1.cell? ⟨g, m - 1, none⟩ = some (.int .u8 ((((xs ++ List.replicate n.toNat (0 : UInt8)).getD (m - 1) 0).toNat : Nat) : Int)) → w1.frozen? ⟨g, m - 1, none⟩ = false →
      Base.Own (w1.setCell ⟨g, m - 1, none⟩ (.int .u8 (e.toNat : Int))) base (.slice (some ⟨g, 0, none⟩) m c) ((xs ++ List.replicate n.toNat 0).set (m - 1) e) → m ≤ c → Below base w0 w1 → wpList Try.prog ops Q rest (a.put o.dst (.slice (some ⟨g, 0, none⟩) m c)) w1) : wpList Try.prog ops Q (o :: rest) a W := by
  refine app_zeros base s x hgd ho v xs n hs hx HO h0 HB hbase hl (fun v1 w1 h1 h2 h3 => ?_)
  have hml : (xs ++ List.replicate n.toNat (0 : UInt8)).length = m := by rw [List.length_append, List.length_replicate]; exact hm
  obtain ⟨g, n8, c8, rfl, hn8, hg8, hc8, hz8, hO9⟩ := h1.store (m - 1) (by omega) e
  obtain rfl : n8 = m := by omega
  obtain ⟨A, q, he, hq, _⟩ := Kd.R_reads h1
  simp only [Value.slice.injEq] at he
  exact h g c8 w1 hg8 hc8 hz8 hO9 (by omega) h2
end
theorem own_C {w : World} {b g n c : Nat} {xs : List UInt8} (h : Base.Own w b (.slice (some ⟨g, 0, none⟩) n c) xs) : byte.C w (some ⟨g, 0, none⟩) n xs := by
  obtain ⟨A, n', c', he, _, hC⟩ := h.reads
  simp only [Value.slice.injEq] at he
  obtain ⟨rfl, rfl, rfl⟩ := he
  exact hC
theorem own_cap {w : World} {b g n c : Nat} {xs : List UInt8} (h : Base.Own w b (.slice (some ⟨g, 0, none⟩) n c) xs) : c ≤ 9223372036854775807 := by
  obtain ⟨_, hh⟩ := own_typed h
  rcases hh with ⟨he, _⟩ | ⟨g', cap, cur, he, _, _, _, hcm, _, _⟩
  · cases he
  · simp only [Value.slice.injEq] at he
    obtain ⟨-, -, rfl⟩ := he
    simpa [maxLen] using hcm
theorem pack4_C {w : World} {A : Option Addr} {n sm : Nat} (h : byte.C w A n (pack [4] [sm])) : byte.C w A 4 (pack [4] [sm]) ∧ n = 4 := by
  have h1 := h.1
  have h2 : (pack [4] [sm]).length = 4 := by simp [pack, wd, be_len]
  obtain rfl : n = 4 := by omega
  exact ⟨h, rfl⟩
theorem wrap_u64_in {x : Int} (h0 : 0 ≤ x) (h1 : x < 18446744073709551616) : IntKind.u64.wrap x = x := by
  have e : IntKind.u64.wrap x = x % 18446744073709551616 := by simp [IntKind.wrap, IntKind.signed, IntKind.bits]
  rw [e]; omega
end Go.Proofs.Ytkmeipblgdahoaa.Rc
namespace Go.Proofs.Ytkmeipblgdahoaa.Rc
open Go.RowKit Go.Proofs.YtkmeipblgdahoaaW.PrintWords Go.Proofs.YtkmeipblgdahoaaW.PrintMore Go.Proofs.Ytkmeipblgdahoaa.Base
set_option linter.unusedVariables false
set_option linter.unusedSimpArgs false
theorem or_byte (y x : Nat) (hx : x < 256) (hy : y < 72057594037927936) : bits .or .u64 ((y : Int) * 256) (x : Int) = ((y * 256 + x : Nat) : Int) := by
  have h := u64_or_nat (y * 256) x (by omega) (by omega)
  rw [Int.natCast_mul] at h
  refine h.trans ?_
  have := Nat.two_pow_add_eq_or_of_lt (i := 8) (b := x) (by omega) y
  rw [show (2 : Nat) ^ 8 = 256 from rfl, Nat.mul_comm] at this
  rw [this]
theorem un_lt7 (l : List UInt8) (h : l.length ≤ 7) : un l < 72057594037927936 := by
  have h1 := un_lt l
  have h2 : 256 ^ l.length ≤ 256 ^ 7 := Nat.pow_le_pow_right (by omega) h
  have : (256 : Nat) ^ 7 = 72057594037927936 := by decide
  omega
theorem un_snoc (l : List UInt8) (x : UInt8) : un (l ++ [x]) = un l * 256 + x.toNat := by unfold un; rw [unF_append]; rfl
theorem take_snocD {α : Type} (l : List α) (d : α) (i : Nat) (h : i < l.length) : l.take (i + 1) = l.take i ++ [l.getD i d] := by
  rw [List.take_add_one, List.getD_eq_getElem?_getD, List.getElem?_eq_getElem h]; rfl
/-- A reader's bytes. -/
structure Rd (w0 w : World) (g : Nat) (A : Option Addr) (n c : Nat) (b : List UInt8) : Prop where
  blk : Boxed w g 146 (.slice A n c)
  byt : byte.C w0 A n b
  cap : n ≤ c
  bel : Below w0.heap.size w0 w
  new : w0.heap.size ≤ g
theorem Rd.cell {w0 w : World} {g : Nat} {A : Option Addr} {n c : Nat} {b : List UInt8} (h : Rd w0 w g A n c b) : w.cell? ⟨g, 0, none⟩ = some (.slice A n c) ∧ w.frozen? ⟨g, 0, none⟩ = false :=
  ⟨h.blk.cell, h.blk.frozen⟩
set_option maxHeartbeats 1000000 in
theorem number_calls (w0 w : World) (g : Nat) (A : Option Addr) (n c : Nat) (b : List UInt8) (k : Nat) (h : Rd w0 w g A n c b) (hk : k ≤ n) (hk8 : k ≤ 8) :
    Calls Try.prog 88 #[.pointer (some ⟨g, 0, none⟩), .int .i64 (k : Int)] w fun e w' => e = .returned (.int .u64 ((un (b.take k) : Nat) : Int)) ∧
      w.setCell ⟨g, 0, none⟩ (.slice (if c = k then A else A.map (·.add k)) (n - k) (c - k)) = w' := by
  obtain ⟨r0, r1⟩ := h.cell
  have HR := Aside0.mk h
  obtain ⟨hl, hm⟩ := C_len h.byt
  have hcap := h.cap
  have hd : decide ((n : Int) < (k : Int)) = false := decide_eq_false (by omega)
  have hd' : decide (n < k) = false := decide_eq_false (by omega)
  clear h
  go_enter Try.func88, Try.ntmps88
  go_wp2
  go_loopg [4, 30] k (fun g4 v4 v30 wr => ∃ (i y : Nat), v30 = .int .i64 (i : Int) ∧ v4 = .int .u64 (y : Int) ∧ i ≤ k ∧ Aside0 (g4 + i = k) ∧ Aside0 (y = un (b.take i)) ∧ w = wr)
  case atStart => exact ⟨0, 0, rfl, rfl, by omega, ⟨rfl⟩, ⟨rfl⟩, rfl⟩
  case round =>
    obtain ⟨i, y, rfl, rfl, hi, HK, HY, rfl⟩ := hrel
    by_cases hlt : i < k
    · obtain ⟨pa, hpa, e0⟩ := byte_at (Kd.C_below HR.out.byt HR.out.bel) i (by omega)
      subst hpa
      obtain ⟨x, hx⟩ : ∃ x, b.getD i 0 = x := ⟨_, rfl⟩
      rw [hx] at e0
      have HX := Aside0.mk hx
      have hx8 := x.toNat_lt
      have hy7 : y < 72057594037927936 := by rw [HY.out]; exact un_lt7 _ (by rw [List.length_take]; omega)
      have hor := or_byte y x.toNat hx8 hy7
      clear hx
      go_wp2
      go_roundg (gk - 1)
      case measure => have := HK.out; omega
      case rel => exact ⟨i + 1, y * 256 + x.toNat, by congr 1, by congr 1, by omega, ⟨by have := HK.out; omega⟩, ⟨by rw [take_snocD b 0 i (by omega), un_snoc, HX.out, HY.out]⟩, rfl⟩
    · obtain rfl : i = k := by omega
      have hd0 : decide ((i : Int) < (i : Int)) = false := decide_eq_false (by omega)
      by_cases hck : c = i
      · subst hck
        go_wp2
        go_ret
        exact ⟨by rw [HY.out]; rfl, rfl⟩
      · have HCK := Aside0.mk hck
        go_wp2
        go_ret
        exact ⟨by rw [HY.out]; rfl, rfl⟩
theorem number_next {M : Nat} (w0 w : World) (g : Nat) (A : Option Addr) (n c : Nat) (b : List UInt8) (k : Nat) (h : Rd w0 w g A n c b) (hk : k ≤ n) (hk8 : k ≤ 8) (hc : c ≤ M) :
    Calls Try.prog 88 #[.pointer (some ⟨g, 0, none⟩), .int .i64 (k : Int)] w fun e w' => e = .returned (.int .u64 ((un (b.take k) : Nat) : Int)) ∧
      (∃ A' c', c' ≤ M ∧ Rd w0 w' g A' (n - k) c' (b.drop k)) ∧ w.grownBy w' (some g) := by
  refine (number_calls w0 w g A n c b k h hk hk8).mono ?_
  rintro e w' ⟨rfl, rfl⟩
  have hg := grownBy_setCell' w g (.slice (if c = k then A else A.map (·.add k)) (n - k) (c - k))
  refine ⟨rfl, ⟨_, c - k, by omega, h.blk.set _, ?_, by have := h.cap; omega, ?_, h.new⟩, hg⟩
  · have := C_drop h.byt h.cap k hk
    rwa [show k * byte.sz = k from by show k * 1 = k; omega] at this
  · exact h.bel.setCell h.new _
set_option maxHeartbeats 1000000 in
theorem number_short (w0 w : World) (g : Nat) (A : Option Addr) (n c : Nat) (b : List UInt8) (k : Nat) (h : Rd w0 w g A n c b) (hk : n < k) (hk8 : k ≤ 8) :
    Calls Try.prog 88 #[.pointer (some ⟨g, 0, none⟩), .int .i64 (k : Int)] w fun e w' => ∃ u pv, e = .panicked [{ v := .iface u pv, recovered := false }] ∧ Below w.heap.size w w' := by
  obtain ⟨r0, r1⟩ := h.cell
  have HR := Aside0.mk h
  obtain ⟨hl, hm⟩ := C_len h.byt
  have hcap := h.cap
  have hd : decide ((n : Int) < (k : Int)) = true := decide_eq_true (by omega)
  have hd' : decide (n < k) = true := decide_eq_true (by omega)
  clear h
  go_enter Try.func88, Try.ntmps88
  go_wp2
  exact ⟨rfl, _, _, rfl, Below.refl _ _⟩

/-! The deferred closure. -/
theorem Boxed.far {W : World} {B B' : Nat} {t : TypeId} {v : Value} (h : Boxed W B t v) (hne : B ≠ B') (u : Value) : Boxed (W.setCell ⟨B', 0, none⟩ u) B t v := h.kept (grownBy_setCell' W B' u) (fun e => hne (by injection e))
theorem catch_panicking (gl gr gi : Nat) (vl vr vi : Value) (u : TypeId) (pv : Value) (w : World) (h0 : Boxed w gl 92 vl) (h1 : Boxed w gr 39 vr) (h2 : Boxed w gi 4 vi) (h01 : gl ≠ gr) (h02 : gl ≠ gi) (h12 : gr ≠ gi) :
    CallsD Try.prog 87 #[.pointer (some ⟨gl, 0, none⟩), .pointer (some ⟨gr, 0, none⟩), .pointer (some ⟨gi, 0, none⟩)] (.panicking ({ v := .iface u pv, recovered := false } :: [])) w fun e u' w' =>
      e = .returned (.tuple #[]) ∧ u' = .panicking ({ v := .iface u pv, recovered := true } :: []) ∧ w' = ((w.setCell ⟨gl, 0, none⟩ (.slice none 0 0)).setCell ⟨gr, 0, none⟩ (.slice none 0 0)).setCell ⟨gi, 0, none⟩ (.bool false) := by
  have c0 := h0.cell
  have z0 := h0.frozen
  have c1 := (Boxed.far h1 h01.symm (.slice none 0 0)).cell
  have z1 := (Boxed.far h1 h01.symm (.slice none 0 0)).frozen
  have c2 := (Boxed.far (Boxed.far h2 h02.symm (.slice none 0 0)) h12.symm (.slice none 0 0)).cell
  have z2 := (Boxed.far (Boxed.far h2 h02.symm (.slice none 0 0)) h12.symm (.slice none 0 0)).frozen
  refine callsD_of_wpS Try.func87 rfl fun c₀ cs hu => ?_
  apply wpS_seq
  apply wpS_region
  simp [wpOpsS, go_sem, recoverD, hu, Try.ntmps87, Exit.thenS]
  apply wpS_seq
  apply wpS_region
  simp [wpOpsS, go_sem, Exit.thenS]
  refine wpS_cond (t := true) (by simp [Act.eval, Array.replicate]) ?_
  simp only [if_true]
  apply wpS_region
  simp [wpOpsS, go_sem, c0, z0, c1, z1, c2, z2, bodyPostS, results, Try.results87]
theorem catch_idle (gl gr gi : Nat) (w : World) :
    CallsD Try.prog 87 #[.pointer (some ⟨gl, 0, none⟩), .pointer (some ⟨gr, 0, none⟩), .pointer (some ⟨gi, 0, none⟩)] .returning w fun e u' w' => e = .returned (.tuple #[]) ∧ u' = .returning ∧ w' = w := by
  refine callsD_of_wpS Try.func87 rfl fun c₀ cs hu => ?_
  apply wpS_seq
  apply wpS_region
  simp [wpOpsS, go_sem, recoverD, hu, Try.ntmps87, Exit.thenS]
  apply wpS_seq
  apply wpS_region
  simp [wpOpsS, go_sem, Exit.thenS]
  refine wpS_cond (t := false) (by simp [Act.eval, Array.replicate]) ?_
  simp only [Bool.false_eq_true, if_false]
  refine wpS_of_wp (wp_skip ?_)
  cases c₀
  simp_all [bodyPostS, results, Try.results87]
end Go.Proofs.Ytkmeipblgdahoaa.Rc
namespace Go.Proofs.Ytkmeipblgdahoaa.Crc
open Go.RowKit Go.Proofs.YtkmeipblgdahoaaW.PrintWords Go.Proofs.Ytkmeipblgdahoaa.Base
set_option linter.unusedVariables false
set_option linter.unusedSimpArgs false
def stpN : Nat → Nat → Nat
  | 0, x => x
  | k + 1, x => stpN k (stp x)

theorem half_calls (c : Nat) (hc : c < 4294967296) (w : World) :
    Calls Try.prog 92 #[.int .u32 (c : Int)] w fun e w' => e = .returned (.int .u32 (half c : Int)) ∧ w = w' := by
  go_enter Try.func92, Try.ntmps92
  go_wp2
  go_loopg [0, 3] 4 (fun k v0 v3 w' => ∃ (x : Nat), v0 = .int .u32 (x : Int) ∧ v3 = .int .i64 (4 - (k : Int)) ∧ x < 4294967296 ∧ k ≤ 4 ∧ Aside0 (stpN k x = half c) ∧ w = w')
  case atStart => exact ⟨c, rfl, rfl, hc, Nat.le_refl _, ⟨rfl⟩, rfl⟩
  case round =>
    obtain ⟨x, rfl, rfl, hx, hk, HA, rfl⟩ := hrel
    cases gk with
    | zero =>
      have he : x = half c := HA.out
      subst he
      go_wp2
      go_ret
      exact ⟨rfl, rfl⟩
    | succ k =>
      have hs := Aside0.mk (step_code x hx)
      have hl := stp_lt x hx
      go_wp2
      go_roundg k
      case measure => omega
      case rel => exact ⟨stp x, by rw [hs.out], by congr 1; omega, hl, by omega, HA, rfl⟩

theorem inv_code (c : Nat) (hc : c < 4294967296) : bits .xor .u32 IntKind.u32.max (c : Int) = ((inv c : Nat) : Int) := by
  have h := u32_xor_nat 4294967295 c (by omega) hc
  have e : (4294967295 ^^^ c) = inv c := by
    unfold inv
    apply Nat.eq_of_testBit_eq
    intro i
    have h1 := Nat.testBit_two_pow_sub_succ (x := c) (n := 32) hc i
    rw [show 2 ^ 32 - (c + 1) = 4294967295 - c by omega] at h1
    rw [h1, Nat.testBit_xor]
    have h2 := Nat.testBit_two_pow_sub_one 32 i
    rw [show 2 ^ 32 - 1 = 4294967295 by decide] at h2
    rw [h2]
    by_cases hi : i < 32
    · simp [hi]
    · have : c.testBit i = false := Nat.testBit_lt_two_pow (Nat.lt_of_lt_of_le hc (by
        rw [show 4294967296 = 2 ^ 32 by decide]; exact Nat.pow_le_pow_right (by omega) (by omega)))
      simp [hi, this]
  rw [e] at h
  exact h

theorem next_calls (c b : Nat) (hc : c < 4294967296) (hb : b < 256) (w : World) :
    Calls Try.prog 86 #[.int .u32 (c : Int), .int .u8 (b : Int)] w fun e w' => e = .returned (.int .u32 (nxt c b : Int)) ∧ w = w' := by
  have hsg : IntKind.u32.signed = false := rfl
  have e1 := inv_code c hc
  have hx := xor_byte_lt c b hb
  have e2 := u32_xor_nat (inv c) b (inv_lt c) (by omega)
  have h1 := half_lt _ hx
  have h2 := half_lt _ h1
  have e3 := inv_code _ h2
  have E3 := Aside0.mk e3
  clear e3
  go_enter Try.func86, Try.ntmps86
  go_wp2_with fail
  refine (half_calls _ hx _).mono ?_
  rintro e w1 ⟨rfl, rfl⟩
  go_wp2_with fail
  refine (half_calls _ h1 _).mono ?_
  rintro e w1 ⟨rfl, rfl⟩
  go_wp2
  go_ret
  refine ⟨?_, rfl⟩
  show Ending.returned (.int .u32 _) = _
  rw [E3.out]
  rfl

/-- The reference's: one round. -/
theorem ref_next_calls (c b : Nat) (hc : c < 4294967296) (hb : b < 256) (w : World) :
    Calls Try.prog 73 #[.int .u32 (c : Int), .int .u8 (b : Int)] w fun e w' => e = .returned (.int .u32 (nxt c b : Int)) ∧ w = w' := by
  have hsg : IntKind.u32.signed = false := rfl
  have e1 := inv_code c hc
  have hx := xor_byte_lt c b hb
  have e2 := u32_xor_nat (inv c) b (inv_lt c) (by omega)
  have h2 := half_lt _ (half_lt _ hx)
  have E3 := Aside0.mk (inv_code _ h2)
  go_enter Try.func73, Try.ntmps73
  go_wp2
  clear e1 e2
  go_loopg [5, 6, 7] 8 (fun k v3 v4 v5 w' => ∃ (x : Nat), v3 = .int .u32 (x : Int) ∧ v4 = .int .i64 (8 - (k : Int)) ∧ x < 4294967296 ∧ k ≤ 8 ∧ Aside0 (stpN k x = half (half (inv c ^^^ b))) ∧ w = w')
  case atStart => exact ⟨inv c ^^^ b, rfl, rfl, hx, Nat.le_refl _, ⟨rfl⟩, rfl⟩
  case round =>
    obtain ⟨x, rfl, rfl, hxx, hk, HA, rfl⟩ := hrel
    cases gk with
    | zero =>
      have he : x = half (half (inv c ^^^ b)) := HA.out
      subst he
      go_wp2
      go_ret
      refine ⟨?_, rfl⟩
      show Ending.returned (.int .u32 _) = _
      rw [E3.out]
      rfl
    | succ k =>
      have hl := stp_lt x hxx
      rcases Nat.mod_two_eq_zero_or_one x with h0 | h0
      · have hq : ((x : Int) % 2 == 1) = false := by rw [show (x : Int) % 2 = 0 by omega]; rfl
        have hv := Aside0.mk (stp_even x (by omega))
        go_wp2
        go_roundg k
        case measure => omega
        case rel => exact ⟨stp x, by rw [← hv.out]; congr 1, by congr 1; omega, hl, by omega, HA, rfl⟩
      · have hq : ((x : Int) % 2 == 1) = true := by rw [show (x : Int) % 2 = 1 by omega]; rfl
        have ho := Aside0.mk (stp_odd x h0)
        have e4 := u32_xor_nat (x / 2) 3988292384 (by omega) (by omega)
        rw [show ((x / 2 : Nat) : Int) = (x : Int) / 2 by omega, show ((3988292384 : Nat) : Int) = 3988292384 from rfl] at e4
        have E4 := Aside0.mk e4
        clear e4
        go_wp2
        go_roundg k
        case measure => omega
        case rel => exact ⟨stp x, by rw [E4.out, ho.out], by congr 1; omega, hl, by omega, HA, rfl⟩

theorem ref_sum_calls (A : Option Addr) (n cap : Nat) (xs : List UInt8) (w : World) (h : byte.C w A n xs) :
    Calls Try.prog 42 #[.slice A n cap] w fun e w' => e = .returned (.int .u32 (sum (nat xs) : Int)) ∧ w = w' := by
  obtain ⟨hlen, hmax⟩ := C_len h
  have HC := Aside0.mk h
  have HL := Aside0.mk hlen
  clear h hlen
  go_enter Try.func42, Try.ntmps42
  go_wp2
  go_loopg [3, 4] n (fun k v3 v4 w' => ∃ (x i : Nat), v3 = .int .u32 (x : Int) ∧ v4 = .int .i64 (i : Int) ∧ x < 4294967296 ∧ i ≤ n ∧ Aside0 (k + i = n) ∧ Aside0 (sumFrom x (nat (xs.drop i)) = sum (nat xs)) ∧ w = w')
  case atStart => exact ⟨0, 0, rfl, rfl, by omega, by omega, ⟨rfl⟩, ⟨rfl⟩, rfl⟩
  case round =>
    obtain ⟨x, i, rfl, rfl, hx, hi, HK, HA, rfl⟩ := hrel
    by_cases hlt : i < n
    · obtain ⟨ad, rfl, hc⟩ := byte_at HC.out i hlt
      have hb := (xs.getD i 0).toNat_lt
      have hn := nxt_lt x (xs.getD i 0).toNat
      have hd := Aside0.mk (drop_getD xs i 0 (by rw [HL.out]; exact hlt))
      generalize xs.getD i 0 = b at *
      go_wp2_with fail
      refine (ref_next_calls _ _ hx hb _).mono ?_
      rintro e w1 ⟨rfl, rfl⟩
      go_wp2
      go_roundg (gk - 1)
      case measure => have := HK.out; omega
      case rel => exact ⟨nxt x b.toNat, i + 1, rfl, by congr 1, hn, by omega, ⟨by have := HK.out; omega⟩, ⟨by rw [← HA.out, hd.out]; rfl⟩, rfl⟩
    · have he : x = sum (nat xs) := by have := HA.out; rw [List.drop_of_length_le (by rw [HL.out]; omega)] at this; exact this
      subst he
      go_wp2
      go_ret
      exact ⟨rfl, rfl⟩

def sumAll (c : Nat) (xss : List (List UInt8)) : Nat := xss.foldl (fun c xs => sumFrom c (nat xs)) c
theorem sumAll_flat (xss : List (List UInt8)) : ∀ c, sumAll c xss = sumFrom c (nat xss.flatten) := by
  induction xss with
  | nil => intro c; rfl
  | cons x l ih =>
    intro c
    rw [List.flatten_cons, nat_append, sumFrom_append, ← ih]
    rfl

theorem crc_sum_calls (A : Option Addr) (n cap : Nat) (xss : List (List UInt8)) (w : World) (h : (Kd.slice 5 byte).C w A n xss) :
    Calls Try.prog 70 #[.slice A n cap] w fun e w' => e = .returned (.int .u32 (sum (nat xss.flatten) : Int)) ∧ w = w' := by
  obtain ⟨hlen, hmax⟩ := C_len h
  have HC := Aside0.mk h
  have HL := Aside0.mk hlen
  have HF := Aside0.mk (sumAll_flat xss 0)
  clear h hlen
  go_enter Try.func70, Try.ntmps70
  go_wp2
  go_loopg [3, 10] n (fun k v3 v4 w' => ∃ (x i : Nat), v3 = .int .u32 (x : Int) ∧ v4 = .int .i64 (i : Int) ∧ x < 4294967296 ∧ i ≤ n ∧ Aside0 (k + i = n) ∧ Aside0 (sumAll x (xss.drop i) = sumAll 0 xss) ∧ w = w')
  case atStart => exact ⟨0, 0, rfl, rfl, by omega, by omega, ⟨rfl⟩, ⟨rfl⟩, rfl⟩
  case round =>
    obtain ⟨x, i, rfl, rfl, hx, hi, HK, HA, rfl⟩ := hrel
    by_cases hlt : i < n
    · obtain ⟨ad, A0, c0, rfl, hc, hl0, hr0⟩ := bytes_at HC.out i hlt
      have hd := Aside0.mk (drop_getD xss i [] (by rw [HL.out]; exact hlt))
      have HA1 : Aside0 (sumAll (sumFrom x (nat (xss.getD i []))) (xss.drop (i + 1)) = sumAll 0 xss) := ⟨by rw [← HA.out, hd.out]; rfl⟩
      clear HA hd
      generalize xss.getD i [] = xs at *
      obtain ⟨_, hmax0⟩ := C_len hr0
      have HC0 := Aside0.mk hr0
      clear hr0
      go_wp2
      go_loopg [3, 16] xs.length (fun k v3 v4 w' => ∃ (y j : Nat), v3 = .int .u32 (y : Int) ∧ v4 = .int .i64 (j : Int) ∧ y < 4294967296 ∧ j ≤ xs.length ∧ Aside0 (k + j = xs.length) ∧ Aside0 (sumFrom y (nat (xs.drop j)) = sumFrom x (nat xs)) ∧ w = w')
      case atStart => exact ⟨x, 0, rfl, rfl, hx, by omega, ⟨rfl⟩, ⟨rfl⟩, rfl⟩
      case round =>
        rename_i gk0 _ _ _ _ _
        obtain ⟨y, j, rfl, rfl, hy, hj, HK2, HA2, rfl⟩ := hrel
        by_cases hlt2 : j < xs.length
        · obtain ⟨ad0, rfl, hc0⟩ := byte_at HC0.out j hlt2
          have hb := (xs.getD j 0).toNat_lt
          have hn := nxt_lt y (xs.getD j 0).toNat
          have hd := Aside0.mk (drop_getD xs j 0 hlt2)
          generalize xs.getD j 0 = b at *
          go_wp2_with fail
          refine (next_calls _ _ hy hb _).mono ?_
          rintro e w1 ⟨rfl, rfl⟩
          go_wp2
          go_roundg (gk - 1)
          case measure => have := HK2.out; omega
          case rel => exact ⟨nxt y b.toNat, j + 1, rfl, by congr 1, hn, by omega, ⟨by have := HK2.out; omega⟩, ⟨by rw [← HA2.out, hd.out]; rfl⟩, rfl⟩
        · have he : y = sumFrom x (nat xs) := by have := HA2.out; rw [List.drop_of_length_le (by omega)] at this; exact this
          subst he
          go_wp2
          go_roundg (n - (i + 1))
          case measure => have := HK.out; omega
          case rel => exact ⟨sumFrom x (nat xs), i + 1, rfl, by congr 1, hy, by omega, ⟨by omega⟩, HA1, rfl⟩
    · have he : x = sumAll 0 xss := by have := HA.out; rw [List.drop_of_length_le (by rw [HL.out]; omega)] at this; exact this
      go_wp2
      go_ret
      refine ⟨?_, rfl⟩
      rw [he, HF.out]
      rfl
end Go.Proofs.Ytkmeipblgdahoaa.Crc
namespace Go.Proofs.Ytkmeipblgdahoaa.Ck
open Go.RowKit Go.Proofs.YtkmeipblgdahoaaW.PrintWords Go.Proofs.YtkmeipblgdahoaaW.PrintMore Go.Proofs.Ytkmeipblgdahoaa.Base Go.Proofs.Ytkmeipblgdahoaa.Rc
set_option maxRecDepth 100000
set_option linter.unusedVariables false
set_option linter.unusedSimpArgs false
theorem set_lastC (at_ many q : Nat) (l : List Plc) (hd p : List UInt8) (i n7 bn : Nat) (h1 : pack [4, 4, 4, 4, 8, 2] [cmagic, 0, at_, many, q, i] = hd) (h2 : l.length = i) (h3 : p = hd ++ plsB l) (h4 : n7 = 26 + 16 * i) (hb : 16 * i + 27 ≤ bn) :
    (p ++ List.replicate ((bn : Int) - (n7 : Int)).toNat (0 : UInt8)).set (bn - 1) 231 = cpre at_ many q l bn := by
  have hpl : p.length = 26 + 16 * i := by
    rw [h3, List.length_append, plsB_len, h2, ← h1]
    simp [pack, wd, be_len]
  obtain ⟨k, hk⟩ : ∃ k, ((bn : Int) - (n7 : Int)).toNat = k + 1 := ⟨((bn : Int) - (n7 : Int)).toNat - 1, by omega⟩
  rw [hk, List.set_append, if_neg (by omega), show bn - 1 - p.length = k from by omega, List.replicate_succ', List.set_append, if_neg (by simp), List.length_replicate, Nat.sub_self]
  show p ++ (List.replicate k 0 ++ [231]) = _
  have hk2 : bn - 27 - 16 * l.length = k := by omega
  unfold cpre
  rw [hk2, h3, ← h1, h2]
  simp [pack, wd]
theorem copy_preC (at_ many q : Nat) (l : List Plc) (bn sm : Nat) (h : Crc.sum (Crc.nat (cpre at_ many q l bn)) = sm) : (cpre at_ many q l bn).take 4 ++ (pack [4] [sm] ++ (cpre at_ many q l bn).drop (4 + 4)) = cblk at_ many q l bn := by
  unfold cblk put4
  rw [h]
  simp [pack, wd]
theorem one_lit (W : World) (g n c : Nat) (xs : List UInt8) (h : byte.C W (some ⟨g, 0, none⟩) n xs) (hc : n ≤ c) :
    (Kd.slice 5 byte).C (W.alloc (.cells #[.slice (some ⟨g, 0, none⟩) n c] 39)) (some ⟨W.heap.size, 0, none⟩) 1 [xs] :=
  C_lit rfl (by exact ⟨K_bytes h hc, trivial⟩) rfl rfl (by simp)
set_option maxHeartbeats 4000000 in
theorem block_calls (z zb r : Int) (bn at_ many q : Nat) (A : Option Addr) (n c : Nat) (l : List Plc) (w : World) (h : plK.C w A n l) (hb : 16 * n + 27 ≤ bn) (hb2 : bn ≤ 4096) (hat : at_ < 65536) (hmany : many < 65536) (hq : q < 18446744073709551616) (hfit : ∀ x ∈ l, PlcFit x) :
    Calls Try.prog 37 #[.agg #[.int .i64 z, .int .i64 zb, .int .i64 (bn : Int), .int .i64 r], .agg #[.int .i64 (at_ : Int), .int .i64 (many : Int), .int .u64 (q : Int)], .slice A n c] w
      fun e w' => ∃ v, e = .returned v ∧ Base.Own w' w.heap.size v (cblk at_ many q l bn) ∧ Below w.heap.size w w' := by
  obtain ⟨hl, hm⟩ := C_len h
  have HL := Aside0.mk hl
  have HC := Aside0.mk h
  have HF := Aside0.mk hfit
  have HA := Aside0.mk (below_alloc (alloc_below w (.cells #[.int .i64 z, .int .i64 zb, .int .i64 (bn : Int), .int .i64 r] 23)) (.cells #[.int .i64 (at_ : Int), .int .i64 (many : Int), .int .u64 (q : Int)] 82))
  have HS := Aside0.mk (show ((w.alloc (.cells #[.int .i64 z, .int .i64 zb, .int .i64 (bn : Int), .int .i64 r] 23)).alloc (.cells #[.int .i64 (at_ : Int), .int .i64 (many : Int), .int .u64 (q : Int)] 82)).cell? ⟨w.heap.size, 2, none⟩ = some (.int .i64 (bn : Int)) by go_simp)
  clear h hl hfit
  have w1 : IntKind.u64.wrap (at_ : Int) = (at_ : Int) := wrap_u64_in (by omega) (by omega)
  have w2 : IntKind.u64.wrap (many : Int) = (many : Int) := wrap_u64_in (by omega) (by omega)
  have w3 : IntKind.u64.wrap (n : Int) = (n : Int) := wrap_u64_in (by omega) (by omega)
  go_enter Try.func37, Try.ntmps37
  go_wp2_with fail
  obtain ⟨W2, hW2⟩ : ∃ W2, ((w.alloc (.cells #[.int .i64 z, .int .i64 zb, .int .i64 (bn : Int), .int .i64 r] 23)).alloc (.cells #[.int .i64 (at_ : Int), .int .i64 (many : Int), .int .u64 (q : Int)] 82)) = W2 := ⟨_, rfl⟩
  have HZ := Aside0.mk (show W2.heap.size = w.heap.size + 1 + 1 by rw [← hW2]; simp)
  rw [hW2] at HA HS ⊢
  have HC := Aside0.mk (Kd.C_below HC.out HA.out)
  clear hW2
  refine (pack_lits W2 W2 [4, 4, 4, 4, 8, 2] [cmagic, 0, at_, many, q, n] _ _ _ rfl _ _ _ _ HZ.out.symm (by rw [HZ.out]) rfl rfl rfl (by decide) rfl ?hv (by decide) (by simp) (Below.refl _ _)).mono ?_
  case hv =>
    intro x hx
    simp only [List.mem_cons, List.not_mem_nil, or_false] at hx
    rcases hx with rfl | rfl | rfl | rfl | rfl | rfl
    · decide
    · omega
    · omega
    · omega
    · exact hq
    · omega
  rintro e w4 ⟨v3, rfl, hO3, hb3, hb23⟩
  have HO3 := Aside0.mk hO3
  have HB3 := Aside0.mk hb3
  clear hO3 hb3 hb23 w1 w2 w3
  obtain ⟨g, hg⟩ : ∃ g, w.heap.size = g := ⟨_, rfl⟩
  rw [hg]
  have HG := Aside0.mk hg
  clear hg
  obtain ⟨hd, hhd⟩ : ∃ hd, pack [4, 4, 4, 4, 8, 2] [cmagic, 0, at_, many, q, n] = hd := ⟨_, rfl⟩
  rw [hhd] at HO3
  have HHD := Aside0.mk hhd
  have HHL := Aside0.mk (show hd.length = 26 by rw [← hhd]; simp [pack, wd, be_len])
  clear hhd
  go_wp2
  go_loopg [7, 26] n (fun g1 v7 v26 wr => ∃ (i : Nat) (p : List UInt8), v26 = .int .i64 (i : Int) ∧ i ≤ n ∧ Aside0 (g1 + i = n) ∧ Aside0 (p = hd ++ plsB (l.take i)) ∧ Aside0 (Base.Own wr W2.heap.size v7 p) ∧ Aside0 (Below W2.heap.size W2 wr))
  case atStart => exact ⟨0, hd, rfl, by omega, ⟨rfl⟩, ⟨by simp [plsB]⟩, HO3, HB3⟩
  case round =>
    obtain ⟨i, p, rfl, hi, HK, HP, HO, HBW⟩ := hrel
    by_cases hlt : i < n
    · obtain ⟨x, hx⟩ : ∃ x, l.getD i plc0 = x := ⟨_, rfl⟩
      obtain ⟨pa, rfl, hok, -, -, e0, e1, e2, e3⟩ := pl_at (Kd.C_below HC.out HBW.out) i hlt hx
      have HTK := Aside0.mk (take_snocD l plc0 i (by rw [HL.out]; exact hlt))
      have HX := Aside0.mk hx
      have hft : PlcFit x := HF.out x (by rw [← hx, List.getD_eq_getElem?_getD, List.getElem?_eq_getElem (by rw [HL.out]; exact hlt)]; exact List.getElem_mem _)
      obtain ⟨x1, x2, x3, x4⟩ := x
      obtain ⟨⟨k1, k2⟩, k3, k4, k5, k6⟩ := hft
      dsimp only at e0 e1 e2 e3 k1 k2 k3 k4 k5 k6
      obtain ⟨y3, rfl⟩ := Int.eq_ofNat_of_zero_le k3
      obtain ⟨y4, rfl⟩ := Int.eq_ofNat_of_zero_le k5
      have hlt' : (i : Int) < (n : Int) := by omega
      have hd0 : decide ((i : Int) < (n : Int)) = true := decide_eq_true hlt'
      have q1 : (x1 : Int) < 4294967296 := by omega
      have q2 : (x2 : Int) < 18446744073709551616 := by omega
      have q3 : IntKind.u64.wrap (y3 : Int) = (y3 : Int) := wrap_u64_in (by omega) (by omega)
      have q4 : IntKind.u64.wrap (y4 : Int) = (y4 : Int) := wrap_u64_in (by omega) (by omega)
      clear hx hok
      go_wp2_with fail
      refine (pack_lits W2 (wr.alloc (.cells #[.int .u32 (x1 : Int), .int .u64 (x2 : Int), .int .i64 (y3 : Int), .int .i64 (y4 : Int)] 88)) [4, 8, 2, 2] [x1, x2, y3, y4] _ _ _ rfl _ _ _ _ (by simp) (by simp) rfl rfl rfl (by decide) rfl ?hv (by decide) (by simp) (below_alloc HBW.out _)).mono ?_
      case hv =>
        intro y hy
        simp only [List.mem_cons, List.not_mem_nil, or_false] at hy
        rcases hy with rfl | rfl | rfl | rfl <;> omega
      rintro e w5 ⟨v5, rfl, hO5, hb5, hb25⟩
      have HO5 := Aside0.mk hO5
      have HB5 := Aside0.mk hb5
      have HB25 := Aside0.mk hb25
      clear hO5 hb5 hb25
      obtain ⟨A5, n5, c5, rfl, -, hC5⟩ := HO5.out.reads
      have HC5 := Aside0.mk hC5
      have HOW := Aside0.mk ((HO.out.below (alloc_below _ _)).below HB25.out)
      have HPL := Aside0.mk (show p.length + n5 ≤ 140737488355328 by
        have h1 := (C_len HC5.out).1
        have h2 : (pack [4, 8, 2, 2] [x1, x2, y3, y4]).length ≤ 32 := pack_len _ _
        rw [HP.out, List.length_append, HHL.out, plsB_len, List.length_take]
        omega)
      clear hC5 e0 e1 e2 e3
      go_wp2_with (at_builtin; (refine app_row (w0 := W2) W2.heap.size (.tmp 30) (.tmp 46) rfl rfl _ p (pack [4, 8, 2, 2] [x1, x2, y3, y4]) A5 n5 c5 rfl rfl HOW.out HC5.out HB5.out HB5.out.size HPL.out ?_); intro v6 w6 hO6 hB6 hg6; (have HO6 := Aside0.mk hO6; have HB6 := Aside0.mk hB6; have HG6 := Aside0.mk hg6; clear hO6 hB6 hg6))
      go_wp2
      go_roundg (gk - 1)
      case measure => have := HK.out; omega
      case rel =>
        refine ⟨i + 1, _, by congr 1, by omega, ⟨by have := HK.out; omega⟩, ⟨?_⟩, HO6, HB6⟩
        rw [HP.out, HTK.out, HX.out, plsB_snoc, List.append_assoc]
        congr 2
    · obtain rfl : i = n := by omega
      have hd0 : decide ((i : Int) < (i : Int)) = false := decide_eq_false (by omega)
      have hs5 := pw_cell_below HBW.out HS.out
      rw [HG.out] at hs5
      have HP2 := Aside0.mk (show p = hd ++ plsB l by have := HP.out; rw [List.take_of_length_le (by rw [HL.out]; omega)] at this; exact this)
      have HPL := Aside0.mk (show p.length = 26 + 16 * i by rw [HP2.out, List.length_append, HHL.out, plsB_len, HL.out])
      obtain ⟨A7, n7, c7, rfl, -, hC7⟩ := HO.out.reads
      have hn7 : n7 = 26 + 16 * i := by have := (C_len hC7).1; have := HPL.out; omega
      have HN7 := Aside0.mk hn7
      have hnb : n7 ≤ bn := by omega
      clear hC7 hn7
      go_wp2_with (at_builtin; (refine app_zeros2 (w0 := W2) W2.heap.size (.tmp 49) (.tmp 54) rfl rfl _ p ((bn : Int) - (n7 : Int)) rfl (by rfl) HO.out (by omega) HBW.out HBW.out.size (by have h1 := HPL.out; have h2 := hb2; omega) bn (by have h1 := HPL.out; have h2 := HN7.out; omega) (by omega) 0xe7 ?_); intro g8 c8 w8 hg8 hc8 hz8 hO8 hcc8 hB8; (have HB8 := Aside0.mk hB8; have HO8 := Aside0.mk hO8; have HG8 := Aside0.mk hg8; have hs6 := pw_cell_below HB8.out HS.out; clear hO8 hB8 hg8; rw [HG.out] at hs6))
      obtain ⟨Wq, hWq⟩ : ∃ Wq, (w8.setCell ⟨g8, bn - 1, none⟩ (.int .u8 231)) = Wq := ⟨_, rfl⟩
      have HPQ := Aside0.mk (set_lastC at_ many q l hd p i n7 bn HHD.out HL.out HP2.out HN7.out (by omega))
      have HOq := Aside0.mk (show Base.Own Wq W2.heap.size (.slice (some ⟨g8, 0, none⟩) bn c8) (cpre at_ many q l bn) by
        have h1 := HO8.out
        rw [HPQ.out] at h1
        rw [← hWq]
        exact h1)
      have HBq := Aside0.mk (show Below W2.heap.size W2 Wq by rw [← hWq]; exact HB8.out.setCell HG8.out _)
      rw [hWq]
      obtain ⟨sm, hsm⟩ : ∃ sm, Crc.sum (Crc.nat (cpre at_ many q l bn)) = sm := ⟨_, rfl⟩
      have hsml : (sm : Int) < 4294967296 := by
        have : Crc.sum (Crc.nat (cpre at_ many q l bn)) < 4294967296 := sum_lt _
        omega
      have HSM := Aside0.mk hsm
      have hwr : IntKind.u64.wrap (sm : Int) = (sm : Int) := wrap_u64_in (by omega) (by omega)
      have HCC := Aside0.mk hcc8
      have k1 : (4 : Int) ≤ (bn : Int) := by omega
      have k2 : (4 : Int) ≤ (c8 : Int) := by omega
      have k3 : ¬ c8 = 4 := by omega
      clear hWq hsm hc8 hz8
      refine wp_region_any (by kernel_rfl) ?_
      rw [show ({ Wq with drawn := Wq.drawn + 1 } : World) = Wq.drew from rfl]
      obtain ⟨X, hX⟩ : ∃ X, Wq.drew = X := ⟨_, rfl⟩
      have HX : Aside0 (Below Wq.heap.size Wq X) := ⟨by rw [← hX]; exact below_drew (Below.refl _ _)⟩
      rw [hX]
      clear hX
      refine wpAny_take (i := 0) (oi := { dst := some 61, op := Op.move (Operand.tmp 7), type := 39, pos := "ckpt.go:62", after := #[], guard := none }) (v := ?_) rfl (by kernel_rfl) (by kernel_rfl) (by kernel_rfl) (fun _ _ _ h => h) (Or.inl ⟨by rfl, ?_⟩) ?_
      rotate_left
      · (intro w; go_simp; (try with_reducible rfl))
      (try simp only [Act.put, List.setIfInBounds_toArray, List.set_cons_zero, List.set_cons_succ])
      refine wpAny_take (i := 1) (oi := { dst := some 62, op := Op.slice 39 (Operand.tmp 61) (some (Operand.const (Value.int IntKind.i64 4))) none none, type := 39, pos := "ckpt.go:62", after := #[{ on := 0, ground := Ground.data }], guard := none }) (v := ?_) rfl (by kernel_rfl) (by kernel_rfl) (by kernel_rfl) (fun _ _ _ h => h) (Or.inl ⟨by rfl, ?_⟩) ?_
      rotate_left
      · (intro w; go_simp; (try with_reducible rfl))
      (try simp only [Act.put, List.setIfInBounds_toArray, List.set_cons_zero, List.set_cons_succ])
      refine wpAny_take (i := 3) (oi := { dst := some 64, op := Op.move (Operand.tmp 7), type := 39, pos := "ckpt.go:62", after := #[], guard := none }) (v := ?_) rfl (by kernel_rfl) (by kernel_rfl) (by kernel_rfl) (fun _ _ _ h => h) (Or.inl ⟨by rfl, ?_⟩) ?_
      rotate_left
      · (intro w; go_simp; (try with_reducible rfl))
      (try simp only [Act.put, List.setIfInBounds_toArray, List.set_cons_zero, List.set_cons_succ])
      refine wpAny_ready (rs := [2, 4]) (by kernel_rfl) (by simp) ?_
      refine (AllReady.cons (o := { dst := some 63, op := Op.buildSlice 91 1 #[(0, Operand.const (Value.int IntKind.i64 4))], type := 91, pos := "ckpt.go:62", after := #[], guard := none }) rfl (fun K hK => ?_) (AllReady.cons (o := { dst := some 65, op := Op.buildSlice 28 1 #[(0, Operand.tmp 64)], type := 28, pos := "ckpt.go:62", after := #[{ on := 3, ground := Ground.data }], guard := none }) rfl (fun K hK => ?_) AllReady.nil))
      · go_simp
        refine hK _ _ ?_
        clear hK K
        (try simp only [Act.put, List.setIfInBounds_toArray, List.set_cons_zero, List.set_cons_succ])
        obtain ⟨X2, hX2⟩ : ∃ Y, X.alloc (.cells #[.int .i64 4] 3) = Y := ⟨_, rfl⟩
        have hb : Below X.heap.size X X2 := by rw [← hX2]; exact alloc_below _ _
        have HX2 := Aside0.mk (below_go HX.out hb)
        have HL2 : Aside0 ((num .i64).C X2 (some ⟨X.heap.size, 0, none⟩) 1 [4]) := ⟨by rw [← hX2]; exact wid_lit _ [4] _ rfl (by decide) (by decide)⟩
        rw [hX2]
        clear hX2 hb
        refine wpAny_ready (rs := [4]) (by kernel_rfl) (by simp) ?_
        refine (AllReady.cons (o := { dst := some 65, op := Op.buildSlice 28 1 #[(0, Operand.tmp 64)], type := 28, pos := "ckpt.go:62", after := #[{ on := 3, ground := Ground.data }], guard := none }) rfl (fun K hK => ?_) AllReady.nil)
        go_simp
        refine hK _ _ ?_
        clear hK K
        (try simp only [Act.put, List.setIfInBounds_toArray, List.set_cons_zero, List.set_cons_succ])
        obtain ⟨X24, hX24⟩ : ∃ Y, X2.alloc (.cells #[.slice (some ⟨g8, 0, none⟩) bn c8] 39) = Y := ⟨_, rfl⟩
        have hb : Below X2.heap.size X2 X24 := by rw [← hX24]; exact alloc_below _ _
        have HX24 := Aside0.mk (below_go HX2.out hb)
        have HL2 := Aside0.mk (Kd.C_below HL2.out hb)
        have HL4 : Aside0 ((Kd.slice 5 byte).C X24 (some ⟨X2.heap.size, 0, none⟩) 1 [cpre at_ many q l bn]) := ⟨by rw [← hX24]; exact one_lit _ g8 bn c8 _ (Kd.C_below (own_C HOq.out) HX2.out) HCC.out⟩
        rw [hX24]
        clear hX24 hb
        refine wpAny_ready (rs := [5]) (by kernel_rfl) (by simp) ?_
        refine (AllReady.cons (o := { dst := some 66, op := Op.call { callee := Callee.value (Operand.func 70), args := #[Operand.tmp 65], argTypes := #[28] }, type := 86, pos := "ckpt.go:62", after := #[{ on := 4, ground := Ground.data }], guard := none }) rfl (fun K hK => ?_) AllReady.nil)
        go_simp
        refine (Crc.crc_sum_calls _ 1 1 [cpre at_ many q l bn] X24 HL4.out).mono ?_
        rintro e w9 ⟨rfl, rfl⟩
        rw [List.flatten_singleton, HSM.out]
        refine hK _ _ ?_
        clear hK K
        (try simp only [Act.put, List.setIfInBounds_toArray, List.set_cons_zero, List.set_cons_succ])
        refine wpAny_take (i := 6) (oi := { dst := some 67, op := Op.convert 86 24 (Operand.tmp 66), type := 24, pos := "ckpt.go:62", after := #[{ on := 5, ground := Ground.data }], guard := none }) (v := ?_) rfl (by kernel_rfl) (by kernel_rfl) (by kernel_rfl) (fun _ _ _ h => h) (Or.inl ⟨by rfl, ?_⟩) ?_
        rotate_left
        · (intro w; go_simp; (try with_reducible rfl))
        (try simp only [Act.put, List.setIfInBounds_toArray, List.set_cons_zero, List.set_cons_succ])
        refine wpAny_ready (rs := [7]) (by kernel_rfl) (by simp) ?_
        refine (AllReady.cons (o := { dst := some 68, op := Op.buildSlice 92 1 #[(0, Operand.tmp 67)], type := 92, pos := "ckpt.go:62", after := #[{ on := 6, ground := Ground.data }], guard := none }) rfl (fun K hK => ?_) AllReady.nil)
        go_simp
        refine hK _ _ ?_
        clear hK K
        (try simp only [Act.put, List.setIfInBounds_toArray, List.set_cons_zero, List.set_cons_succ])
        obtain ⟨X247, hX247⟩ : ∃ Y, X24.alloc (.cells #[.int .u64 (sm : Int)] 24) = Y := ⟨_, rfl⟩
        have hb : Below X24.heap.size X24 X247 := by rw [← hX247]; exact alloc_below _ _
        have HX247 := Aside0.mk (below_go HX24.out hb)
        have HL2 := Aside0.mk (Kd.C_below HL2.out hb)
        have HL4 := Aside0.mk (Kd.C_below HL4.out hb)
        have HL7 : Aside0 ((nat .u64).C X247 (some ⟨X24.heap.size, 0, none⟩) 1 [sm]) := ⟨by rw [← hX247]; exact val_lit _ [sm] _ rfl (by intro x hx; rw [List.mem_singleton.1 hx]; omega) (by simp)⟩
        rw [hX247]
        clear hX247 hb
        refine wpAny_ready (rs := [8]) (by kernel_rfl) (by simp) ?_
        refine (AllReady.cons (o := { dst := some 69, op := Op.call { callee := Callee.value (Operand.func 69), args := #[Operand.tmp 63, Operand.tmp 68], argTypes := #[91, 92] }, type := 39, pos := "ckpt.go:62", after := #[{ on := 2, ground := Ground.data }, { on := 7, ground := Ground.data }, { on := 5, ground := Ground.chain }], guard := none }) rfl (fun K hK => ?_) AllReady.nil)
        go_simp
        refine (pack_calls _ 1 1 [4] _ 1 1 [sm] X247 HL2.out HL7.out (by omega) (by omega)).mono ?_
        rintro e X2478 ⟨v7, rfl, hO7, hb⟩
        obtain ⟨A9, n9, c9, rfl, -, hC9⟩ := hO7.reads
        have HX2478 := Aside0.mk (below_go HX247.out hb)
        have HL2 := Aside0.mk (Kd.C_below HL2.out hb)
        have HL4 := Aside0.mk (Kd.C_below HL4.out hb)
        have HL7 := Aside0.mk (Kd.C_below HL7.out hb)
        have HC9 := Aside0.mk (pack4_C hC9)
        obtain rfl : n9 = 4 := HC9.out.2
        clear hO7 hb hC9
        refine hK _ _ ?_
        clear hK K
        (try simp only [Act.put, List.setIfInBounds_toArray, List.set_cons_zero, List.set_cons_succ])
        refine wpAny_ready (rs := [9]) (by kernel_rfl) (by simp) ?_
        refine (AllReady.cons (o := { dst := some 70, op := Op.call { callee := Callee.builtin Builtin.copy, args := #[Operand.tmp 62, Operand.tmp 69], argTypes := #[39, 39] }, type := 3, pos := "ckpt.go:62", after := #[{ on := 1, ground := Ground.data }, { on := 8, ground := Ground.data }, { on := 8, ground := Ground.chain }], guard := none }) rfl (fun K hK => ?_) AllReady.nil)
        refine copy_step (w0 := W2) W2.heap.size rfl (.tmp 62) (.tmp 69) rfl g8 bn c8 (cpre at_ many q l bn) (pack [4] [sm]) 4 A9 4 c9 rfl rfl (HOq.out.below HX2478.out) HC9.out.1 (by omega) (by omega) (below_go HBq.out HX2478.out) ?_
        intro w9 hO9 hB9
        have HO9 := Aside0.mk hO9
        have HB9 := Aside0.mk hB9
        clear hO9 hB9
        refine hK _ _ ?_
        clear hK K
        (try simp only [Act.put, List.setIfInBounds_toArray, List.set_cons_zero, List.set_cons_succ])
        refine wpAny_done (by kernel_rfl) ?_ _
        go_wp2
        go_ret
        refine ⟨_, rfl, ?_, below_go HA.out HB9.out⟩
        have h9 := HO9.out
        rw [copy_preC at_ many q l bn sm HSM.out] at h9
        exact Kd.R_lower h9 HA.out.size
      · go_simp
        refine hK _ _ ?_
        clear hK K
        (try simp only [Act.put, List.setIfInBounds_toArray, List.set_cons_zero, List.set_cons_succ])
        obtain ⟨X4, hX4⟩ : ∃ Y, X.alloc (.cells #[.slice (some ⟨g8, 0, none⟩) bn c8] 39) = Y := ⟨_, rfl⟩
        have hb : Below X.heap.size X X4 := by rw [← hX4]; exact alloc_below _ _
        have HX4 := Aside0.mk (below_go HX.out hb)
        have HL4 : Aside0 ((Kd.slice 5 byte).C X4 (some ⟨X.heap.size, 0, none⟩) 1 [cpre at_ many q l bn]) := ⟨by rw [← hX4]; exact one_lit _ g8 bn c8 _ (Kd.C_below (own_C HOq.out) HX.out) HCC.out⟩
        rw [hX4]
        clear hX4 hb
        refine wpAny_ready (rs := [2, 5]) (by kernel_rfl) (by simp) ?_
        refine (AllReady.cons (o := { dst := some 63, op := Op.buildSlice 91 1 #[(0, Operand.const (Value.int IntKind.i64 4))], type := 91, pos := "ckpt.go:62", after := #[], guard := none }) rfl (fun K hK => ?_) (AllReady.cons (o := { dst := some 66, op := Op.call { callee := Callee.value (Operand.func 70), args := #[Operand.tmp 65], argTypes := #[28] }, type := 86, pos := "ckpt.go:62", after := #[{ on := 4, ground := Ground.data }], guard := none }) rfl (fun K hK => ?_) AllReady.nil))
        · go_simp
          refine hK _ _ ?_
          clear hK K
          (try simp only [Act.put, List.setIfInBounds_toArray, List.set_cons_zero, List.set_cons_succ])
          obtain ⟨X24, hX24⟩ : ∃ Y, X4.alloc (.cells #[.int .i64 4] 3) = Y := ⟨_, rfl⟩
          have hb : Below X4.heap.size X4 X24 := by rw [← hX24]; exact alloc_below _ _
          have HX24 := Aside0.mk (below_go HX4.out hb)
          have HL4 := Aside0.mk (Kd.C_below HL4.out hb)
          have HL2 : Aside0 ((num .i64).C X24 (some ⟨X4.heap.size, 0, none⟩) 1 [4]) := ⟨by rw [← hX24]; exact wid_lit _ [4] _ rfl (by decide) (by decide)⟩
          rw [hX24]
          clear hX24 hb
          refine wpAny_ready (rs := [5]) (by kernel_rfl) (by simp) ?_
          refine (AllReady.cons (o := { dst := some 66, op := Op.call { callee := Callee.value (Operand.func 70), args := #[Operand.tmp 65], argTypes := #[28] }, type := 86, pos := "ckpt.go:62", after := #[{ on := 4, ground := Ground.data }], guard := none }) rfl (fun K hK => ?_) AllReady.nil)
          go_simp
          refine (Crc.crc_sum_calls _ 1 1 [cpre at_ many q l bn] X24 HL4.out).mono ?_
          rintro e w9 ⟨rfl, rfl⟩
          rw [List.flatten_singleton, HSM.out]
          refine hK _ _ ?_
          clear hK K
          (try simp only [Act.put, List.setIfInBounds_toArray, List.set_cons_zero, List.set_cons_succ])
          refine wpAny_take (i := 6) (oi := { dst := some 67, op := Op.convert 86 24 (Operand.tmp 66), type := 24, pos := "ckpt.go:62", after := #[{ on := 5, ground := Ground.data }], guard := none }) (v := ?_) rfl (by kernel_rfl) (by kernel_rfl) (by kernel_rfl) (fun _ _ _ h => h) (Or.inl ⟨by rfl, ?_⟩) ?_
          rotate_left
          · (intro w; go_simp; (try with_reducible rfl))
          (try simp only [Act.put, List.setIfInBounds_toArray, List.set_cons_zero, List.set_cons_succ])
          refine wpAny_ready (rs := [7]) (by kernel_rfl) (by simp) ?_
          refine (AllReady.cons (o := { dst := some 68, op := Op.buildSlice 92 1 #[(0, Operand.tmp 67)], type := 92, pos := "ckpt.go:62", after := #[{ on := 6, ground := Ground.data }], guard := none }) rfl (fun K hK => ?_) AllReady.nil)
          go_simp
          refine hK _ _ ?_
          clear hK K
          (try simp only [Act.put, List.setIfInBounds_toArray, List.set_cons_zero, List.set_cons_succ])
          obtain ⟨X247, hX247⟩ : ∃ Y, X24.alloc (.cells #[.int .u64 (sm : Int)] 24) = Y := ⟨_, rfl⟩
          have hb : Below X24.heap.size X24 X247 := by rw [← hX247]; exact alloc_below _ _
          have HX247 := Aside0.mk (below_go HX24.out hb)
          have HL2 := Aside0.mk (Kd.C_below HL2.out hb)
          have HL4 := Aside0.mk (Kd.C_below HL4.out hb)
          have HL7 : Aside0 ((nat .u64).C X247 (some ⟨X24.heap.size, 0, none⟩) 1 [sm]) := ⟨by rw [← hX247]; exact val_lit _ [sm] _ rfl (by intro x hx; rw [List.mem_singleton.1 hx]; omega) (by simp)⟩
          rw [hX247]
          clear hX247 hb
          refine wpAny_ready (rs := [8]) (by kernel_rfl) (by simp) ?_
          refine (AllReady.cons (o := { dst := some 69, op := Op.call { callee := Callee.value (Operand.func 69), args := #[Operand.tmp 63, Operand.tmp 68], argTypes := #[91, 92] }, type := 39, pos := "ckpt.go:62", after := #[{ on := 2, ground := Ground.data }, { on := 7, ground := Ground.data }, { on := 5, ground := Ground.chain }], guard := none }) rfl (fun K hK => ?_) AllReady.nil)
          go_simp
          refine (pack_calls _ 1 1 [4] _ 1 1 [sm] X247 HL2.out HL7.out (by omega) (by omega)).mono ?_
          rintro e X2478 ⟨v7, rfl, hO7, hb⟩
          obtain ⟨A9, n9, c9, rfl, -, hC9⟩ := hO7.reads
          have HX2478 := Aside0.mk (below_go HX247.out hb)
          have HL2 := Aside0.mk (Kd.C_below HL2.out hb)
          have HL4 := Aside0.mk (Kd.C_below HL4.out hb)
          have HL7 := Aside0.mk (Kd.C_below HL7.out hb)
          have HC9 := Aside0.mk (pack4_C hC9)
          obtain rfl : n9 = 4 := HC9.out.2
          clear hO7 hb hC9
          refine hK _ _ ?_
          clear hK K
          (try simp only [Act.put, List.setIfInBounds_toArray, List.set_cons_zero, List.set_cons_succ])
          refine wpAny_ready (rs := [9]) (by kernel_rfl) (by simp) ?_
          refine (AllReady.cons (o := { dst := some 70, op := Op.call { callee := Callee.builtin Builtin.copy, args := #[Operand.tmp 62, Operand.tmp 69], argTypes := #[39, 39] }, type := 3, pos := "ckpt.go:62", after := #[{ on := 1, ground := Ground.data }, { on := 8, ground := Ground.data }, { on := 8, ground := Ground.chain }], guard := none }) rfl (fun K hK => ?_) AllReady.nil)
          refine copy_step (w0 := W2) W2.heap.size rfl (.tmp 62) (.tmp 69) rfl g8 bn c8 (cpre at_ many q l bn) (pack [4] [sm]) 4 A9 4 c9 rfl rfl (HOq.out.below HX2478.out) HC9.out.1 (by omega) (by omega) (below_go HBq.out HX2478.out) ?_
          intro w9 hO9 hB9
          have HO9 := Aside0.mk hO9
          have HB9 := Aside0.mk hB9
          clear hO9 hB9
          refine hK _ _ ?_
          clear hK K
          (try simp only [Act.put, List.setIfInBounds_toArray, List.set_cons_zero, List.set_cons_succ])
          refine wpAny_done (by kernel_rfl) ?_ _
          go_wp2
          go_ret
          refine ⟨_, rfl, ?_, below_go HA.out HB9.out⟩
          have h9 := HO9.out
          rw [copy_preC at_ many q l bn sm HSM.out] at h9
          exact Kd.R_lower h9 HA.out.size
        · go_simp
          refine (Crc.crc_sum_calls _ 1 1 [cpre at_ many q l bn] X4 HL4.out).mono ?_
          rintro e w9 ⟨rfl, rfl⟩
          rw [List.flatten_singleton, HSM.out]
          refine hK _ _ ?_
          clear hK K
          (try simp only [Act.put, List.setIfInBounds_toArray, List.set_cons_zero, List.set_cons_succ])
          refine wpAny_take (i := 6) (oi := { dst := some 67, op := Op.convert 86 24 (Operand.tmp 66), type := 24, pos := "ckpt.go:62", after := #[{ on := 5, ground := Ground.data }], guard := none }) (v := ?_) rfl (by kernel_rfl) (by kernel_rfl) (by kernel_rfl) (fun _ _ _ h => h) (Or.inl ⟨by rfl, ?_⟩) ?_
          rotate_left
          · (intro w; go_simp; (try with_reducible rfl))
          (try simp only [Act.put, List.setIfInBounds_toArray, List.set_cons_zero, List.set_cons_succ])
          refine wpAny_ready (rs := [2, 7]) (by kernel_rfl) (by simp) ?_
          refine (AllReady.cons (o := { dst := some 63, op := Op.buildSlice 91 1 #[(0, Operand.const (Value.int IntKind.i64 4))], type := 91, pos := "ckpt.go:62", after := #[], guard := none }) rfl (fun K hK => ?_) (AllReady.cons (o := { dst := some 68, op := Op.buildSlice 92 1 #[(0, Operand.tmp 67)], type := 92, pos := "ckpt.go:62", after := #[{ on := 6, ground := Ground.data }], guard := none }) rfl (fun K hK => ?_) AllReady.nil))
          · go_simp
            refine hK _ _ ?_
            clear hK K
            (try simp only [Act.put, List.setIfInBounds_toArray, List.set_cons_zero, List.set_cons_succ])
            obtain ⟨X24, hX24⟩ : ∃ Y, X4.alloc (.cells #[.int .i64 4] 3) = Y := ⟨_, rfl⟩
            have hb : Below X4.heap.size X4 X24 := by rw [← hX24]; exact alloc_below _ _
            have HX24 := Aside0.mk (below_go HX4.out hb)
            have HL4 := Aside0.mk (Kd.C_below HL4.out hb)
            have HL2 : Aside0 ((num .i64).C X24 (some ⟨X4.heap.size, 0, none⟩) 1 [4]) := ⟨by rw [← hX24]; exact wid_lit _ [4] _ rfl (by decide) (by decide)⟩
            rw [hX24]
            clear hX24 hb
            refine wpAny_ready (rs := [7]) (by kernel_rfl) (by simp) ?_
            refine (AllReady.cons (o := { dst := some 68, op := Op.buildSlice 92 1 #[(0, Operand.tmp 67)], type := 92, pos := "ckpt.go:62", after := #[{ on := 6, ground := Ground.data }], guard := none }) rfl (fun K hK => ?_) AllReady.nil)
            go_simp
            refine hK _ _ ?_
            clear hK K
            (try simp only [Act.put, List.setIfInBounds_toArray, List.set_cons_zero, List.set_cons_succ])
            obtain ⟨X247, hX247⟩ : ∃ Y, X24.alloc (.cells #[.int .u64 (sm : Int)] 24) = Y := ⟨_, rfl⟩
            have hb : Below X24.heap.size X24 X247 := by rw [← hX247]; exact alloc_below _ _
            have HX247 := Aside0.mk (below_go HX24.out hb)
            have HL2 := Aside0.mk (Kd.C_below HL2.out hb)
            have HL4 := Aside0.mk (Kd.C_below HL4.out hb)
            have HL7 : Aside0 ((nat .u64).C X247 (some ⟨X24.heap.size, 0, none⟩) 1 [sm]) := ⟨by rw [← hX247]; exact val_lit _ [sm] _ rfl (by intro x hx; rw [List.mem_singleton.1 hx]; omega) (by simp)⟩
            rw [hX247]
            clear hX247 hb
            refine wpAny_ready (rs := [8]) (by kernel_rfl) (by simp) ?_
            refine (AllReady.cons (o := { dst := some 69, op := Op.call { callee := Callee.value (Operand.func 69), args := #[Operand.tmp 63, Operand.tmp 68], argTypes := #[91, 92] }, type := 39, pos := "ckpt.go:62", after := #[{ on := 2, ground := Ground.data }, { on := 7, ground := Ground.data }, { on := 5, ground := Ground.chain }], guard := none }) rfl (fun K hK => ?_) AllReady.nil)
            go_simp
            refine (pack_calls _ 1 1 [4] _ 1 1 [sm] X247 HL2.out HL7.out (by omega) (by omega)).mono ?_
            rintro e X2478 ⟨v7, rfl, hO7, hb⟩
            obtain ⟨A9, n9, c9, rfl, -, hC9⟩ := hO7.reads
            have HX2478 := Aside0.mk (below_go HX247.out hb)
            have HL2 := Aside0.mk (Kd.C_below HL2.out hb)
            have HL4 := Aside0.mk (Kd.C_below HL4.out hb)
            have HL7 := Aside0.mk (Kd.C_below HL7.out hb)
            have HC9 := Aside0.mk (pack4_C hC9)
            obtain rfl : n9 = 4 := HC9.out.2
            clear hO7 hb hC9
            refine hK _ _ ?_
            clear hK K
            (try simp only [Act.put, List.setIfInBounds_toArray, List.set_cons_zero, List.set_cons_succ])
            refine wpAny_ready (rs := [9]) (by kernel_rfl) (by simp) ?_
            refine (AllReady.cons (o := { dst := some 70, op := Op.call { callee := Callee.builtin Builtin.copy, args := #[Operand.tmp 62, Operand.tmp 69], argTypes := #[39, 39] }, type := 3, pos := "ckpt.go:62", after := #[{ on := 1, ground := Ground.data }, { on := 8, ground := Ground.data }, { on := 8, ground := Ground.chain }], guard := none }) rfl (fun K hK => ?_) AllReady.nil)
            refine copy_step (w0 := W2) W2.heap.size rfl (.tmp 62) (.tmp 69) rfl g8 bn c8 (cpre at_ many q l bn) (pack [4] [sm]) 4 A9 4 c9 rfl rfl (HOq.out.below HX2478.out) HC9.out.1 (by omega) (by omega) (below_go HBq.out HX2478.out) ?_
            intro w9 hO9 hB9
            have HO9 := Aside0.mk hO9
            have HB9 := Aside0.mk hB9
            clear hO9 hB9
            refine hK _ _ ?_
            clear hK K
            (try simp only [Act.put, List.setIfInBounds_toArray, List.set_cons_zero, List.set_cons_succ])
            refine wpAny_done (by kernel_rfl) ?_ _
            go_wp2
            go_ret
            refine ⟨_, rfl, ?_, below_go HA.out HB9.out⟩
            have h9 := HO9.out
            rw [copy_preC at_ many q l bn sm HSM.out] at h9
            exact Kd.R_lower h9 HA.out.size
          · go_simp
            refine hK _ _ ?_
            clear hK K
            (try simp only [Act.put, List.setIfInBounds_toArray, List.set_cons_zero, List.set_cons_succ])
            obtain ⟨X47, hX47⟩ : ∃ Y, X4.alloc (.cells #[.int .u64 (sm : Int)] 24) = Y := ⟨_, rfl⟩
            have hb : Below X4.heap.size X4 X47 := by rw [← hX47]; exact alloc_below _ _
            have HX47 := Aside0.mk (below_go HX4.out hb)
            have HL4 := Aside0.mk (Kd.C_below HL4.out hb)
            have HL7 : Aside0 ((nat .u64).C X47 (some ⟨X4.heap.size, 0, none⟩) 1 [sm]) := ⟨by rw [← hX47]; exact val_lit _ [sm] _ rfl (by intro x hx; rw [List.mem_singleton.1 hx]; omega) (by simp)⟩
            rw [hX47]
            clear hX47 hb
            refine wpAny_ready (rs := [2]) (by kernel_rfl) (by simp) ?_
            refine (AllReady.cons (o := { dst := some 63, op := Op.buildSlice 91 1 #[(0, Operand.const (Value.int IntKind.i64 4))], type := 91, pos := "ckpt.go:62", after := #[], guard := none }) rfl (fun K hK => ?_) AllReady.nil)
            go_simp
            refine hK _ _ ?_
            clear hK K
            (try simp only [Act.put, List.setIfInBounds_toArray, List.set_cons_zero, List.set_cons_succ])
            obtain ⟨X247, hX247⟩ : ∃ Y, X47.alloc (.cells #[.int .i64 4] 3) = Y := ⟨_, rfl⟩
            have hb : Below X47.heap.size X47 X247 := by rw [← hX247]; exact alloc_below _ _
            have HX247 := Aside0.mk (below_go HX47.out hb)
            have HL4 := Aside0.mk (Kd.C_below HL4.out hb)
            have HL7 := Aside0.mk (Kd.C_below HL7.out hb)
            have HL2 : Aside0 ((num .i64).C X247 (some ⟨X47.heap.size, 0, none⟩) 1 [4]) := ⟨by rw [← hX247]; exact wid_lit _ [4] _ rfl (by decide) (by decide)⟩
            rw [hX247]
            clear hX247 hb
            refine wpAny_ready (rs := [8]) (by kernel_rfl) (by simp) ?_
            refine (AllReady.cons (o := { dst := some 69, op := Op.call { callee := Callee.value (Operand.func 69), args := #[Operand.tmp 63, Operand.tmp 68], argTypes := #[91, 92] }, type := 39, pos := "ckpt.go:62", after := #[{ on := 2, ground := Ground.data }, { on := 7, ground := Ground.data }, { on := 5, ground := Ground.chain }], guard := none }) rfl (fun K hK => ?_) AllReady.nil)
            go_simp
            refine (pack_calls _ 1 1 [4] _ 1 1 [sm] X247 HL2.out HL7.out (by omega) (by omega)).mono ?_
            rintro e X2478 ⟨v7, rfl, hO7, hb⟩
            obtain ⟨A9, n9, c9, rfl, -, hC9⟩ := hO7.reads
            have HX2478 := Aside0.mk (below_go HX247.out hb)
            have HL2 := Aside0.mk (Kd.C_below HL2.out hb)
            have HL4 := Aside0.mk (Kd.C_below HL4.out hb)
            have HL7 := Aside0.mk (Kd.C_below HL7.out hb)
            have HC9 := Aside0.mk (pack4_C hC9)
            obtain rfl : n9 = 4 := HC9.out.2
            clear hO7 hb hC9
            refine hK _ _ ?_
            clear hK K
            (try simp only [Act.put, List.setIfInBounds_toArray, List.set_cons_zero, List.set_cons_succ])
            refine wpAny_ready (rs := [9]) (by kernel_rfl) (by simp) ?_
            refine (AllReady.cons (o := { dst := some 70, op := Op.call { callee := Callee.builtin Builtin.copy, args := #[Operand.tmp 62, Operand.tmp 69], argTypes := #[39, 39] }, type := 3, pos := "ckpt.go:62", after := #[{ on := 1, ground := Ground.data }, { on := 8, ground := Ground.data }, { on := 8, ground := Ground.chain }], guard := none }) rfl (fun K hK => ?_) AllReady.nil)
            refine copy_step (w0 := W2) W2.heap.size rfl (.tmp 62) (.tmp 69) rfl g8 bn c8 (cpre at_ many q l bn) (pack [4] [sm]) 4 A9 4 c9 rfl rfl (HOq.out.below HX2478.out) HC9.out.1 (by omega) (by omega) (below_go HBq.out HX2478.out) ?_
            intro w9 hO9 hB9
            have HO9 := Aside0.mk hO9
            have HB9 := Aside0.mk hB9
            clear hO9 hB9
            refine hK _ _ ?_
            clear hK K
            (try simp only [Act.put, List.setIfInBounds_toArray, List.set_cons_zero, List.set_cons_succ])
            refine wpAny_done (by kernel_rfl) ?_ _
            go_wp2
            go_ret
            refine ⟨_, rfl, ?_, below_go HA.out HB9.out⟩
            have h9 := HO9.out
            rw [copy_preC at_ many q l bn sm HSM.out] at h9
            exact Kd.R_lower h9 HA.out.size
end Go.Proofs.Ytkmeipblgdahoaa.Ck
namespace Go.Proofs.Ytkmeipblgdahoaa.Shp
open Go.RowKit Go.Proofs.YtkmeipblgdahoaaW.PrintWords Go.Proofs.YtkmeipblgdahoaaW.PrintMore Go.Proofs.Ytkmeipblgdahoaa.Base
set_option linter.unusedVariables false
set_option linter.unusedSimpArgs false
def Pow (b : Int) : Prop := b = 64 ∨ b = 128 ∨ b = 256 ∨ b = 512 ∨ b = 1024 ∨ b = 2048 ∨ b = 4096
def pw : Nat → Int
  | 0 => 64
  | j + 1 => 2 * pw j
def pOf (b : Int) : Nat → Bool
  | 0 => false
  | j + 1 => pOf b j || (pw j == b)
instance (b : Int) : Decidable (Pow b) := by unfold Pow; infer_instance
def Rt (z zb b r : Int) : Prop := 6 ≤ z ∧ z ≤ 256 ∧ 8 ≤ zb ∧ zb ≤ 4096 ∧ Pow b ∧ 2 ≤ r ∧ r ≤ z - 4
instance (z zb b r : Int) : Decidable (Rt z zb b r) := by unfold Rt; infer_instance
def ck (b : Nat) : Bool := decide ((b &&& (b - 1)) = 0) == decide (b = 64 ∨ b = 128 ∨ b = 256 ∨ b = 512 ∨ b = 1024 ∨ b = 2048 ∨ b = 4096)
theorem and_cut : ((List.range 65).all fun k => (List.range 64).all fun j => decide (64 * k + j < 64) || decide (4096 < 64 * k + j) || ck (64 * k + j)) = true := by decide +kernel
theorem and_nat (b : Nat) (h : b < 4097) (h' : 64 ≤ b) : ((b &&& (b - 1)) = 0 ↔ b = 64 ∨ b = 128 ∨ b = 256 ∨ b = 512 ∨ b = 1024 ∨ b = 2048 ∨ b = 4096) := by
  have h1 := List.all_eq_true.1 and_cut (b / 64) (List.mem_range.2 (by omega))
  have h2 := List.all_eq_true.1 h1 (b % 64) (List.mem_range.2 (by omega))
  rw [Nat.div_add_mod, decide_eq_false (show ¬ b < 64 by omega), decide_eq_false (show ¬ 4096 < b by omega), Bool.false_or, Bool.false_or] at h2
  unfold ck at h2
  exact decide_eq_decide.1 (beq_iff_eq.1 h2)
theorem and_code (b : Int) (h1 : 64 ≤ b) (h2 : b ≤ 4096) : (bits .and .i64 b (b - 1) != 0) = !(decide (Pow b)) := by
  obtain ⟨n, rfl⟩ := Int.eq_ofNat_of_zero_le (show 0 ≤ b by omega)
  have e := bits_nat .i64 13 (by decide) (fun n h0 h1 => by rw [IntKind.wrap_i64]; omega) n (n - 1) (by omega) (by omega)
  have h := and_nat n (by omega) (by omega)
  have e' : bits .and .i64 (n : Int) ((n : Int) - 1) = ((n &&& (n - 1) : Nat) : Int) := by
    rw [show ((n : Int) - 1) = ((n - 1 : Nat) : Int) by omega]
    exact e.1
  rw [e']
  have hp : Pow (n : Int) ↔ (n &&& (n - 1)) = 0 := by rw [h]; unfold Pow; omega
  by_cases h0 : (n &&& (n - 1)) = 0
  · rw [h0, decide_eq_true (hp.2 h0)]; rfl
  · rw [decide_eq_false (fun x => h0 (hp.1 x)), Bool.not_false, bne_iff_ne]
    omega

def IsI (x : Int) : Prop := -9223372036854775808 ≤ x ∧ x ≤ 9223372036854775807

theorem right_calls (z zb b r : Int) (hz : IsI z) (hzb : IsI zb) (hb : IsI b) (hr : IsI r) (w : World) :
    Calls Try.prog 35 #[.agg #[.int .i64 z, .int .i64 zb, .int .i64 b, .int .i64 r]] w fun e w' => e = .returned (.bool (decide (Rt z zb b r))) ∧ Below w.heap.size w w' := by
  obtain ⟨hz1, hz2⟩ := hz
  obtain ⟨hzb1, hzb2⟩ := hzb
  obtain ⟨hb1, hb2⟩ := hb
  obtain ⟨hr1, hr2⟩ := hr
  have hA := Aside0.mk (alloc_below w (.cells #[.int .i64 z, .int .i64 zb, .int .i64 b, .int .i64 r] 23))
  by_cases h1 : 6 ≤ z ∧ z ≤ 256 ∧ 8 ≤ zb ∧ zb ≤ 4096
  · obtain ⟨a1, a2, a3, a4⟩ := h1
    by_cases h2 : 64 ≤ b ∧ b ≤ 4096
    · obtain ⟨a5, a6⟩ := h2
      have hc := and_code b a5 a6
      by_cases h3 : Pow b
      · rw [decide_eq_true h3] at hc
        by_cases h4 : 2 ≤ r
        · by_cases h5 : r ≤ z - 4
          · have hR := Aside0.mk (decide_eq_true (show Rt z zb b r from ⟨a1, a2, a3, a4, h3, h4, h5⟩))
            clear h3
            go_enter Try.func35, Try.ntmps35
            go_wp2
            go_ret
            exact ⟨by rw [hR.out]; simp [h4, h5], hA.out⟩
          · have hR := Aside0.mk (decide_eq_false (show ¬ Rt z zb b r from fun h => h5 h.2.2.2.2.2.2))
            clear h3
            go_enter Try.func35, Try.ntmps35
            go_wp2
            go_ret
            exact ⟨by rw [hR.out]; simp [h4, h5], hA.out⟩
        · have hR := Aside0.mk (decide_eq_false (show ¬ Rt z zb b r from fun h => h4 h.2.2.2.2.2.1))
          clear h3
          go_enter Try.func35, Try.ntmps35
          go_wp2
          go_ret
          exact ⟨by rw [hR.out]; simp [h4], hA.out⟩
      · rw [decide_eq_false h3] at hc
        have hR := Aside0.mk (decide_eq_false (show ¬ Rt z zb b r from fun h => h3 h.2.2.2.2.1))
        clear h3
        go_enter Try.func35, Try.ntmps35
        go_wp2
        go_ret
        exact ⟨by rw [hR.out]; rfl, hA.out⟩
    · have hR := Aside0.mk (decide_eq_false (show ¬ Rt z zb b r from fun h => h2 (by have := h.2.2.2.2.1; unfold Pow at this; omega)))
      by_cases h3 : b < 64
      · go_enter Try.func35, Try.ntmps35
        go_wp2
        go_ret
        exact ⟨by rw [hR.out]; rfl, hA.out⟩
      · have h4 : 4096 < b := by omega
        go_enter Try.func35, Try.ntmps35
        go_wp2
        go_ret
        exact ⟨by rw [hR.out]; rfl, hA.out⟩
  · have hR := Aside0.mk (decide_eq_false (show ¬ Rt z zb b r from fun h => h1 ⟨h.1, h.2.1, h.2.2.1, h.2.2.2.1⟩))
    have h1' := Aside0.mk h1
    clear h1
    go_enter Try.func35, Try.ntmps35
    go_wp2
    all_goals
      first
        | (go_ret; exact ⟨by rw [hR.out]; rfl, hA.out⟩)
        | (exfalso; have := h1'.out; omega)

theorem ref_right_calls (z zb b r : Int) (hz : IsI z) (hzb : IsI zb) (hb : IsI b) (hr : IsI r) (w : World) :
    Calls Try.prog 39 #[.agg #[.int .i64 z, .int .i64 zb, .int .i64 b, .int .i64 r]] w fun e w' => e = .returned (.bool (decide (Rt z zb b r))) ∧ Below w.heap.size w w' := by
  obtain ⟨hz1, hz2⟩ := hz
  obtain ⟨hzb1, hzb2⟩ := hzb
  obtain ⟨hb1, hb2⟩ := hb
  obtain ⟨hr1, hr2⟩ := hr
  have hA := Aside0.mk (alloc_below w (.cells #[.int .i64 z, .int .i64 zb, .int .i64 b, .int .i64 r] 23))
  have hP : pOf b 7 = decide (Pow b) := by
    rw [show pOf b 7 = (((((((64 : Int) == b) || ((128 : Int) == b)) || ((256 : Int) == b)) || ((512 : Int) == b)) || ((1024 : Int) == b)) || ((2048 : Int) == b) || ((4096 : Int) == b)) from rfl, Bool.eq_iff_iff]
    simp only [Bool.or_eq_true, beq_iff_eq, decide_eq_true_eq]
    unfold Pow
    omega
  have HP := Aside0.mk hP
  clear hP
  go_enter Try.func39, Try.ntmps39
  go_wp2
  have hb0 : (w.alloc (.cells #[.int .i64 z, .int .i64 zb, .int .i64 b, .int .i64 r] 23)).cell? ⟨w.heap.size, 2, none⟩ = some (.int .i64 b) := by go_simp
  have hb0' : (w.alloc (.cells #[.int .i64 z, .int .i64 zb, .int .i64 b, .int .i64 r] 23)).cell? ⟨w.heap.size, 0, none⟩ = some (.int .i64 z) := by go_simp
  have hb0'' : (w.alloc (.cells #[.int .i64 z, .int .i64 zb, .int .i64 b, .int .i64 r] 23)).cell? ⟨w.heap.size, 1, none⟩ = some (.int .i64 zb) := by go_simp
  have hb0r : (w.alloc (.cells #[.int .i64 z, .int .i64 zb, .int .i64 b, .int .i64 r] 23)).cell? ⟨w.heap.size, 3, none⟩ = some (.int .i64 r) := by go_simp
  generalize w.alloc (.cells #[.int .i64 z, .int .i64 zb, .int .i64 b, .int .i64 r] 23) = W at *
  go_loopg [3, 4] 7 (fun k v3 v4 wr => ∃ (j : Nat) (p : Bool) (x : Int), v3 = .bool p ∧ v4 = .int .i64 x ∧ Aside0 (k + j = 7 ∧ p = pOf b j ∧ x = pw j) ∧ wr = W)
  case atStart => exact ⟨0, false, 64, rfl, rfl, ⟨rfl, rfl, rfl⟩, rfl⟩
  case round =>
    obtain ⟨j, p, x, rfl, rfl, HJ, rfl⟩ := hrel
    by_cases h7 : j = 7
    · have hx : x = 8192 := by rw [HJ.out.2.2, h7]; rfl
      subst hx
      have hp : p = decide (Pow b) := by rw [HJ.out.2.1, h7]; exact HP.out
      subst hp
      by_cases a1 : 6 ≤ z
      · by_cases a2 : z ≤ 256
        · by_cases a3 : 8 ≤ zb
          · by_cases a4 : zb ≤ 4096
            · by_cases h3 : Pow b
              · rw [decide_eq_true h3]
                by_cases h4 : 2 ≤ r
                · have hR := Aside0.mk (show decide (r ≤ z - 4) = decide (Rt z zb b r) from by
                    rw [decide_eq_decide]; exact ⟨fun h => ⟨a1, a2, a3, a4, h3, h4, h⟩, fun h => h.2.2.2.2.2.2⟩)
                  clear h3
                  go_wp2
                  go_ret
                  exact ⟨by rw [← hR.out]; simp [a1, a2, a3, a4, h4], hA.out⟩
                · have hR := Aside0.mk (decide_eq_false (show ¬ Rt z zb b r from fun h => h4 h.2.2.2.2.2.1))
                  clear h3
                  go_wp2
                  go_ret
                  exact ⟨by rw [hR.out]; simp [h4], hA.out⟩
              · rw [decide_eq_false h3]
                have hR := Aside0.mk (decide_eq_false (show ¬ Rt z zb b r from fun h => h3 h.2.2.2.2.1))
                clear h3
                go_wp2
                go_ret
                exact ⟨by rw [hR.out]; simp, hA.out⟩
            · have hR := Aside0.mk (decide_eq_false (show ¬ Rt z zb b r from fun h => a4 h.2.2.2.1))
              go_wp2
              go_ret
              exact ⟨by rw [hR.out]; simp [a4], hA.out⟩
          · have hR := Aside0.mk (decide_eq_false (show ¬ Rt z zb b r from fun h => a3 h.2.2.1))
            go_wp2
            go_ret
            exact ⟨by rw [hR.out]; simp [a3], hA.out⟩
        · have hR := Aside0.mk (decide_eq_false (show ¬ Rt z zb b r from fun h => a2 h.2.1))
          go_wp2
          go_ret
          exact ⟨by rw [hR.out]; simp [a2], hA.out⟩
      · have hR := Aside0.mk (decide_eq_false (show ¬ Rt z zb b r from fun h => a1 h.1))
        go_wp2
        go_ret
        exact ⟨by rw [hR.out]; simp [a1], hA.out⟩
    · have hx : x ≤ 4096 ∧ 0 ≤ x := by
        rw [HJ.out.2.2]
        have h1 := HJ.out.1
        have : j = 0 ∨ j = 1 ∨ j = 2 ∨ j = 3 ∨ j = 4 ∨ j = 5 ∨ j = 6 := by omega
        rcases this with rfl | rfl | rfl | rfl | rfl | rfl | rfl <;> decide
      obtain ⟨hx1, hx2⟩ := hx
      cases p with
      | true =>
        go_wp2
        go_roundg (gk - 1)
        case measure => have := HJ.out.1; omega
        case rel => exact ⟨j + 1, true, 2 * x, rfl, rfl, ⟨by have := HJ.out.1; omega, by rw [pOf, ← HJ.out.2.1]; rfl, by rw [pw, HJ.out.2.2]⟩, rfl⟩
      | false =>
        go_wp2
        go_roundg (gk - 1)
        case measure => have := HJ.out.1; omega
        case rel => exact ⟨j + 1, _, 2 * x, rfl, rfl, ⟨by have := HJ.out.1; omega, by rw [pOf, ← HJ.out.2.1, ← HJ.out.2.2]; rfl, by rw [pw, HJ.out.2.2]⟩, rfl⟩

/-- A shape, as a kind. -/
def shK : Kd (Int × Int × Int × Int) := Kd.pair (num .i64) (Kd.pair (num .i64) (Kd.pair (num .i64) (num .i64)))
theorem opn_shape : Opn Try.prog 23 shK :=
  Opn.struct Try.underlying23 (by kernel_rfl) (OpnFs.cons rfl (by kernel_rfl) (Opn.num Try.underlying3) (OpnFs.cons rfl (by kernel_rfl) (Opn.num Try.underlying3)
    (OpnFs.cons rfl (by kernel_rfl) (Opn.num Try.underlying3) (OpnFs.last rfl (by kernel_rfl) (Opn.num Try.underlying3)))))
set_option maxRecDepth 1000000 in
theorem open_shape {H : Type} {enc : TypeId × Value → H} {W : World} {r : Reach} {b0 base : Nat} {sp : Nat → Bool} {held : Bool} {v : Value} {x : DataW H} {p : List MemPlace}
    (hv : Value.okWide Try.prog W r b0 23 v) (h : DataW.Trod enc Try.prog W base sp held 23 v x p) :
    ∃ s : Int × Int × Int × Int, v = .agg #[.int .i64 s.1, .int .i64 s.2.1, .int .i64 s.2.2.1, .int .i64 s.2.2.2] ∧ IsI s.1 ∧ IsI s.2.1 ∧ IsI s.2.2.1 ∧ IsI s.2.2.2 := by
  obtain ⟨s, cs, rfl, hK⟩ := open_agg_kd Try.underlying23 opn_shape hv h
  obtain ⟨c0, c1, hc, ⟨rfl, h0⟩, c2, c3, rfl, ⟨rfl, h1⟩, c4, c5, rfl, ⟨rfl, h2⟩, ⟨rfl, h3⟩⟩ := hK
  refine ⟨s, ?_, wf_i64 h0, wf_i64 h1, wf_i64 h2, wf_i64 h3⟩
  rw [← Array.toArray_toList (xs := cs), hc]
  rfl
end Go.Proofs.Ytkmeipblgdahoaa.Shp
namespace Go.Proofs.Ytkmeipblgdahoaa.Dv
open Go.RowKit Go.Proofs.YtkmeipblgdahoaaW.PrintWords Go.Proofs.YtkmeipblgdahoaaW.PrintMore Go.Proofs.Ytkmeipblgdahoaa.Base Go.Proofs.Ytkmeipblgdahoaa.Shp
set_option linter.unusedVariables false
set_option linter.unusedSimpArgs false
/-- A part: its bytes, how many blocks are durable. -/
abbrev Prt := List UInt8 × Int
def partK : Kd Prt := Kd.pair (Kd.slice 5 byte) (num .i64)

/-- The world is as it was but for the blocks of S and what is new. -/
structure Chg (w w' : World) (S : Nat → Prop) : Prop where
  os : w'.os = w.os
  tape : w'.tape = w.tape
  output : w'.output = w.output
  kept : Kept w w' S
theorem Chg.refl (w : World) (S : Nat → Prop) : Chg w w S := ⟨rfl, rfl, rfl, Kept.refl _ _⟩
theorem Chg.of_below {w w' : World} (h : Below w.heap.size w w') (S : Nat → Prop) : Chg w w' S := ⟨h.os, h.tape, h.output, Kept.of_below h S⟩
theorem Chg.trans {w w1 w2 : World} {S S2 : Nat → Prop} (h : Chg w w1 S) (k : Chg w1 w2 S2) (hs : ∀ j, S2 j → S j ∨ w.heap.size ≤ j) : Chg w w2 S :=
  ⟨k.os.trans h.os, k.tape.trans h.tape, k.output.trans h.output, h.kept.then_ k.kept hs⟩
theorem Chg.below {w w1 w2 : World} {S : Nat → Prop} (h : Chg w w1 S) (k : Below w1.heap.size w1 w2) : Chg w w2 S :=
  ⟨k.os.trans h.os, k.tape.trans h.tape, k.output.trans h.output, h.kept.below k⟩
theorem Chg.set {w w1 : World} {S : Nat → Prop} (h : Chg w w1 S) {p : Addr} (hp : S p.block ∨ w.heap.size ≤ p.block) (u : Value) : Chg w (w1.setCell p u) S :=
  ⟨h.os, h.tape, h.output, h.kept.setCell hp u⟩
theorem Chg.grown {w w1 w2 : World} {S : Nat → Prop} (h : Chg w w1 S) {row : Option Nat} (k : w1.grownBy w2 row) (hr : ∀ j, row = some j → S j ∨ w.heap.size ≤ j) : Chg w w2 S :=
  ⟨k.os.trans h.os, k.tape.trans h.tape, k.output.trans h.output, Kept.of_grown k h.kept hr⟩
theorem Chg.to_below {w w' : World} {S : Nat → Prop} (h : Chg w w' S) {B : Nat} (hB : B ≤ w.heap.size) (hs : ∀ k, S k → B ≤ k) : Below B w w' :=
  ⟨h.os, h.tape, h.output, h.kept.1, fun k hk => h.kept.2 k (by omega) (fun h2 => by have := hs k h2; omega)⟩

/-- A device: its block xb, its parts' blocks all in ok and from base on. -/
structure Dev (w : World) (xb base : Nat) (ok : Nat → Prop) (z zb b r : Int) (ps : List Prt) (v : Value) : Prop where
  blk : w.heap[xb]? = some (.cells #[.int .i64 z, .int .i64 zb, .int .i64 b, .int .i64 r, v] 103 (0, 0))
  row : Kd.S partK 108 w base ok v ps
section
variable {w w1 : World} {xb base : Nat} {ok : Nat → Prop} {z zb b r : Int} {ps : List Prt} {v : Value}
theorem Dev.chg (h : Dev w xb base ok z zb b r ps v) {S : Nat → Prop} (hc : Chg w w1 S) (hx : ¬ S xb) (hs : ∀ k, ok k → ¬ S k) : Dev w1 xb base ok z zb b r ps v :=
  ⟨blk_kept h.blk hc.kept hx, Kd.S_kept h.row hc.kept hs⟩
theorem Dev.below (h : Dev w xb base ok z zb b r ps v) (hb : Below w.heap.size w w1) : Dev w1 xb base ok z zb b r ps v :=
  h.chg (Chg.of_below hb (fun _ => False)) (fun h => h) (fun _ _ h => h)
theorem Dev.cells (h : Dev w xb base ok z zb b r ps v) : w.cell? ⟨xb, 0, none⟩ = some (.int .i64 z) ∧ w.cell? ⟨xb, 1, none⟩ = some (.int .i64 zb) ∧ w.cell? ⟨xb, 2, none⟩ = some (.int .i64 b) ∧ w.cell? ⟨xb, 3, none⟩ = some (.int .i64 r) ∧ w.cell? ⟨xb, 4, none⟩ = some v := by
  have := h.blk
  exact ⟨by simp [World.cell?, this], by simp [World.cell?, this], by simp [World.cell?, this], by simp [World.cell?, this], by simp [World.cell?, this]⟩
/-- The parts' slice. -/
theorem Dev.form (h : Dev w xb base ok z zb b r ps v) : ∃ A n c, v = .slice A n c ∧ n = ps.length ∧ n ≤ c ∧ partK.C w A n ps ∧ n ≤ 9223372036854775807 := by
  obtain ⟨A, c, rfl, h2, h3⟩ := Kd.R_reads (Kd.S_R h.row)
  exact ⟨A, _, c, rfl, rfl, h2, h3, (C_len h3).2⟩
end
theorem Dev.set {w : World} {xb base : Nat} {ok : Nat → Prop} {z zb b r : Int} {ps : List Prt} {v : Value} (h : Dev w xb base ok z zb b r ps v) {g t : Nat} {cells : Array Value} (hb : w.heap[g]? = some (.cells cells t (0, 0))) (ht : ∀ q, q ∈ 108 :: partK.E → q ≠ t) (hx : xb ≠ g) (j : Nat) (u : Value) : Dev (w.setCell ⟨g, j, none⟩ u) xb base ok z zb b r ps v :=
  ⟨blk_far h.blk hx u, Kd.S_set h.row hb ht j u⟩
theorem partK_open {w : World} {p : Prt} {c : List Value} (h : partK.K w p c) : ∃ A k, c = [.slice A p.1.length k, .int .i64 p.2] ∧ p.1.length ≤ k ∧ byte.C w A p.1.length p.1 ∧ IsI p.2 := by
  obtain ⟨c0, c1, rfl, ⟨A, k, rfl, h1, h2⟩, ⟨rfl, h3⟩⟩ := h
  exact ⟨A, k, rfl, h1, h2, wf_i64 h3⟩

def hasB (n : Nat) (i : Int) : Bool := decide (0 ≤ i ∧ i < (n : Int))
theorem hasB_true {n : Nat} {i : Int} (h0 : 0 ≤ i) (h1 : i < (n : Int)) : hasB n i = true := decide_eq_true ⟨h0, h1⟩
theorem hasB_false {n : Nat} {i : Int} (h : ¬ (0 ≤ i ∧ i < (n : Int))) : hasB n i = false := decide_eq_false h
theorem has_calls (xb base : Nat) (ok : Nat → Prop) (z zb b r : Int) (ps : List Prt) (v : Value) (i : Int) (hi : IsI i) (w : World) (h : Dev w xb base ok z zb b r ps v) :
    Calls Try.prog 52 #[.pointer (some ⟨xb, 0, none⟩), .int .i64 i] w fun e w' => e = .returned (.bool (hasB ps.length i)) ∧ w = w' := by
  obtain ⟨c0, c1, c2, c3, c4⟩ := h.cells
  obtain ⟨A, n, c, rfl, hn, hc, _, hmax⟩ := h.form
  have HN := Aside0.mk hn
  clear h hn c0 c1 c2 c3
  obtain ⟨hi1, hi2⟩ := hi
  have HV := Aside0.mk (show hasB ps.length i = hasB n i by rw [HN.out])
  by_cases h0 : 0 ≤ i
  · by_cases h1 : i < (n : Int)
    · have hd : decide (i < (n : Int)) = true := decide_eq_true h1
      have HR := Aside0.mk (hasB_true h0 h1)
      go_enter Try.func52, Try.ntmps52
      go_wp2
      go_ret
      exact ⟨by rw [HV.out, HR.out]; rfl, rfl⟩
    · have hd : decide (i < (n : Int)) = false := decide_eq_false h1
      have HR := Aside0.mk (hasB_false (n := n) (i := i) (fun h => h1 h.2))
      go_enter Try.func52, Try.ntmps52
      go_wp2
      go_ret
      exact ⟨by rw [HV.out, HR.out]; rfl, rfl⟩
  · have h0' : i < 0 := by omega
    have HR := Aside0.mk (hasB_false (n := n) (i := i) (fun h => h0 h.1))
    go_enter Try.func52, Try.ntmps52
    go_wp2
    go_ret
    exact ⟨by rw [HV.out, HR.out]; rfl, rfl⟩
theorem count_calls (xb base : Nat) (ok : Nat → Prop) (z zb b r : Int) (hb1 : 0 < b) (hb2 : b ≤ 9223372036854775807) (ps : List Prt) (v : Value) (A : Option Addr) (n k : Nat) (hnm : n ≤ 9223372036854775807) (du : Int) (w : World) (h : Dev w xb base ok z zb b r ps v) :
    Calls Try.prog 53 #[.pointer (some ⟨xb, 0, none⟩), .agg #[.slice A n k, .int .i64 du]] w fun e w' => e = .returned (.int .i64 ((n : Int) / b)) ∧ Below w.heap.size w w' := by
  have hA := Aside0.mk (alloc_below w (.cells #[.slice A n k, .int .i64 du] 108))
  obtain ⟨c0, c1, c2, c3, c4⟩ := (h.below hA.out).cells
  clear h c0 c1 c3 c4
  have hq1 : 0 ≤ (n : Int) / b := Int.ediv_nonneg (by omega) (by omega)
  have hq2 : (n : Int) / b ≤ (n : Int) := Int.ediv_le_self _ (by omega)
  have hb0 : b ≠ 0 := by omega
  have htd : (n : Int).tdiv b = (n : Int) / b := Int.tdiv_eq_ediv_of_nonneg (by omega)
  go_enter Try.func53, Try.ntmps53
  go_wp2
  go_quiet (fail)
  have HB := Aside0.mk (pw_below_drewN hA.out nq)
  go_wp2
  go_ret
  exact ⟨rfl, HB.out⟩

/-- A part: where it lies, what it leads to, and what the row is once it was written. -/
theorem Dev.part {w : World} {xb base : Nat} {ok : Nat → Prop} {z zb b r : Int} {ps : List Prt} {v : Value} (h : Dev w xb base ok z zb b r ps v) {j : Nat} (hj : j < ps.length) {p : Prt} (hp : ps.getD j ([], 0) = p) :
    ∃ ad cap A k oki, v = .slice (some ad) ps.length cap ∧ w.cell? (ad.add (j * 2)) = some (.slice A p.1.length k) ∧ w.cell? ⟨(ad.add (j * 2)).block, (ad.add (j * 2)).off + 1, none⟩ = some (.int .i64 p.2) ∧ p.1.length ≤ k ∧ IsI p.2 ∧ byte.C w A p.1.length p.1 ∧
      w.frozen? (ad.add (j * 2)) = false ∧ w.frozen? ⟨(ad.add (j * 2)).block, (ad.add (j * 2)).off + 1, none⟩ = false ∧ ok ad.block ∧ ad.block ≠ xb ∧ ad.block < w.heap.size ∧ byte.R 5 w base oki (.slice A p.1.length k) p.1 ∧ (∀ k, oki k → ok k ∧ k ≠ ad.block) ∧
      (∀ (w1 : World) (v1 : Value) (bs : List UInt8), w.grownBy w1 (Value.slice A p.1.length k).ownBlock → byte.R 5 w1 base (fun k => oki k ∨ w.heap.size ≤ k) v1 bs → (∀ k, w.heap.size ≤ k → ok k) →
        Kd.S partK 108 (w1.setCell (ad.add (j * 2)) v1) base ok v (ps.set j (bs, p.2)) ∧ w1.grownBy (w1.setCell (ad.add (j * 2)) v1) (some ad.block) ∧ w1.frozen? (ad.add (j * 2)) = false ∧ w1.cell? (ad.add (j * 2)) = some (.slice A p.1.length k)) ∧
      (∀ d : Int, IsI d → Kd.S partK 108 (w.setCell ⟨(ad.add (j * 2)).block, (ad.add (j * 2)).off + 1, none⟩ (.int .i64 d)) base ok v (ps.set j (p.1, d)) ∧ w.grownBy (w.setCell ⟨(ad.add (j * 2)).block, (ad.add (j * 2)).off + 1, none⟩ (.int .i64 d)) (some ad.block)) := by
  obtain ⟨A0, cap, hv, hcap, hC⟩ := Kd.R_reads (Kd.S_R h.row)
  obtain ⟨ad, c0, e0, _, hK0, hc0⟩ := ReadsRow.get_ hC ([], 0) (j : Int) (by omega) (by omega)
  subst e0
  subst hv
  obtain ⟨g, rfl⟩ := Kd.R_head (Kd.S_R h.row)
  obtain ⟨oki, c, hcl, hM, hcc, hfr, hoki, hH⟩ := Kd.S_elem h.row ([], 0) (j : Int) (by omega) (by omega)
  rw [Int.toNat_natCast] at hM hcc hfr
  have hs : partK.sz = 2 := rfl
  rw [hs] at hcc hfr hcl
  rw [hp] at hM
  have hMK := partK.K_of_M hM
  obtain ⟨A, k, rfl, h1, h2, h3⟩ := partK_open hMK
  have ea : (⟨g, 0, none⟩ : Addr).add (j * 2) = ⟨g, j * 2, none⟩ := by rw [add_plain]
  have hgo : ok g := (Kd.S_R h.row).1 g (by simp [Value.ownBlock])
  have hgl : g < w.heap.size := Kd.S_lt h.row g (by simp [Value.ownBlock])
  have hgx : g ≠ xb := by
    intro e
    obtain ⟨cells, hc⟩ := Kd.S_typed h.row g (by simp [Value.ownBlock])
    rw [e, h.blk] at hc
    simp at hc
  obtain ⟨c0, c1, ec, ⟨v0, rfl, hR⟩, ⟨rfl, _⟩⟩ := hM
  simp only [List.cons_append, List.nil_append, List.cons.injEq, and_true] at ec
  obtain ⟨rfl, _⟩ := ec
  have hown : ∀ k', (Value.slice A p.1.length k).ownBlock = some k' → oki k' := hR.1
  have hgown : some g ≠ (Value.slice A p.1.length k).ownBlock := fun e => (hoki g (hown g e.symm)).2 rfl
  have hz0 : (0 : Int) ≤ (j : Int) := by omega
  have hz1 : (j : Int) < (ps.length : Int) := by omega
  have e1 : ∀ d : Int, IsI d → (Lit.int .i64 d).wf = true := fun d hd => by
    obtain ⟨d1, d2⟩ := hd
    simp [Lit.wf, IntKind.min, IntKind.max, IntKind.bits, IntKind.signed]
    omega
  refine ⟨⟨g, 0, none⟩, cap, A, k, oki, rfl, ?_, ?_, h1, h3, h2, ?_, ?_, hgo, hgx, hgl, hR, hoki, ?_, ?_⟩
  · rw [ea]; exact hcc 0 _ rfl
  · rw [ea]; exact hcc 1 _ rfl
  · rw [ea]; exact hfr 0
  · rw [ea]; exact hfr 1
  · rw [ea]
    intro w1 v1 bs hg hR1 hfresh
    have hb1 : w1.heap[g]? = w.heap[g]? := hg.block g hgl hgown
    have H1 := Kd.H_grown (Kd.H_widen hH) hg (fun k' hk' => .inl (hown k' hk'))
    obtain ⟨H2, hg2⟩ := Kd.H_seg H1 hz0 hz1 (seg := [v1]) (j := 0) (by rw [hs]; exact Nat.le_succ 1) (fun q hq => by rw [List.mem_singleton.1 hq]; exact (Kd.R_val hR1).2)
    rw [Int.toNat_natCast, hs] at H2 hg2
    have es : w1.setCells g (j * 2 + 0) [v1] = w1.setCell ⟨g, j * 2, none⟩ v1 := rfl
    rw [es] at H2 hg2
    refine ⟨?_, hg2, ?_, ?_⟩
    · have := Kd.H_back H2 (x' := (bs, p.2)) (okp := fun k => oki k ∨ w.heap.size ≤ k)
        ⟨[v1], [.int .i64 p.2], rfl, ⟨v1, rfl, Kd.R_far hR1 (fun k hk => by
          rcases hk with hk | hk
          · exact (hoki k hk).2
          · show k ≠ g; omega) _⟩, ⟨rfl, e1 _ h3⟩⟩ (fun k hk => hk.imp id (fun h => ⟨hfresh k h, h⟩))
      rwa [Int.toNat_natCast] at this
    · rw [World.frozen?_of_block hb1]; exact hfr 0
    · rw [World.cell?_of_block hb1]; exact hcc 0 _ rfl
  · rw [ea]
    intro d hd
    obtain ⟨H2, hg2⟩ := Kd.H_seg hH hz0 hz1 (seg := [.int .i64 d]) (j := 1) (by rw [hs]; exact Nat.le_refl 2) (fun q hq => by rw [List.mem_singleton.1 hq]; rfl)
    rw [Int.toNat_natCast, hs] at H2 hg2
    have es : w.setCells g (j * 2 + 1) [.int .i64 d] = w.setCell ⟨g, j * 2 + 1, none⟩ (.int .i64 d) := rfl
    rw [es] at H2 hg2
    refine ⟨?_, hg2⟩
    have := Kd.H_back H2 (x' := (p.1, d)) (okp := oki) ⟨[_], [.int .i64 d], rfl, ⟨_, rfl, Kd.R_far hR (fun k hk => (hoki k hk).2) _⟩, ⟨rfl, e1 _ hd⟩⟩ (fun k hk => hk)
    rwa [Int.toNat_natCast] at this
end Go.Proofs.Ytkmeipblgdahoaa.Dv
namespace Go.Proofs.Ytkmeipblgdahoaa.Dv
open Go.RowKit Go.Proofs.YtkmeipblgdahoaaW.PrintWords Go.Proofs.YtkmeipblgdahoaaW.PrintMore Go.Proofs.Ytkmeipblgdahoaa.Base Go.Proofs.Ytkmeipblgdahoaa.Shp
set_option maxRecDepth 100000
set_option linter.unusedVariables false
set_option linter.unusedSimpArgs false
theorem pow_rng {b : Int} (h : Shp.Pow b) : 64 ≤ b ∧ b ≤ 4096 := by unfold Shp.Pow at h; omega
theorem info_part : (Try.prog.info? 108).map (fun i => (i.zero, i.size, i.bytes)) = some (some (.agg #[.slice none 0 0, .int .i64 0]), 2, 32) := by kernel_rfl
theorem zero_part (w : World) (base : Nat) : partK.M w base (fun _ => False) ([], 0) (Value.agg #[.slice none 0 0, .int .i64 0]).cells.toList := by
  exact ⟨[.slice none 0 0], [.int .i64 0], rfl, ⟨_, rfl, Kd.R_nil _ _ _ _ _⟩, ⟨rfl, by decide⟩⟩
theorem new_calls (z zb b r : Int) (hz : IsI z) (hzb : IsI zb) (hb : IsI b) (hr : IsI r) (w : World) :
    Calls Try.prog 21 #[.agg #[.int .i64 z, .int .i64 zb, .int .i64 b, .int .i64 r]] w
      fun e w' => ((¬ Rt z zb b r ∧ e = .returned (.pointer none)) ∨ (Rt z zb b r ∧ ∃ xb v, e = .returned (.pointer (some ⟨xb, 0, none⟩)) ∧ Dev w' xb w.heap.size (fun k => w.heap.size ≤ k) z zb b r (List.replicate z.toNat ([], 0)) v ∧ w.heap.size ≤ xb)) ∧ Below w.heap.size w w' := by
  have hA := Aside0.mk (alloc_below w (.cells #[.int .i64 z, .int .i64 zb, .int .i64 b, .int .i64 r] 23))
  go_enter Try.func21, Try.ntmps21
  go_wp2_with fail
  refine (right_calls z zb b r hz hzb hb hr _).mono ?_
  rintro e w1 ⟨rfl, hw1⟩
  have k0 := pw_cell_below hw1 (show (w.alloc (.cells #[.int .i64 z, .int .i64 zb, .int .i64 b, .int .i64 r] 23)).cell? ⟨w.heap.size, 0, none⟩ = some (.int .i64 z) by go_simp)
  have k1 := pw_cell_below hw1 (show (w.alloc (.cells #[.int .i64 z, .int .i64 zb, .int .i64 b, .int .i64 r] 23)).cell? ⟨w.heap.size, 1, none⟩ = some (.int .i64 zb) by go_simp)
  have k2 := pw_cell_below hw1 (show (w.alloc (.cells #[.int .i64 z, .int .i64 zb, .int .i64 b, .int .i64 r] 23)).cell? ⟨w.heap.size, 2, none⟩ = some (.int .i64 b) by go_simp)
  have k3 := pw_cell_below hw1 (show (w.alloc (.cells #[.int .i64 z, .int .i64 zb, .int .i64 b, .int .i64 r] 23)).cell? ⟨w.heap.size, 3, none⟩ = some (.int .i64 r) by go_simp)
  have HB1 := Aside0.mk (below_then hA.out (by simp) hw1)
  obtain ⟨g, hg⟩ : ∃ g, w.heap.size = g := ⟨_, rfl⟩
  rw [hg] at k0 k1 k2 k3 HB1 ⊢
  have HG := Aside0.mk hg
  clear hw1 hA hg
  by_cases hrt : Rt z zb b r
  · rw [decide_eq_true hrt]
    have hz6 : 6 ≤ z ∧ z ≤ 256 := ⟨hrt.1, hrt.2.1⟩
    obtain ⟨p1, p2⟩ := hz6
    have HRT := Aside0.mk hrt
    clear hrt
    go_wp2_with fail
    refine wp_region_held_drew (S := (fun w' => w'.cell? ⟨g, 0, none⟩ = some (.int .i64 z) ∧ w'.cell? ⟨g, 1, none⟩ = some (.int .i64 zb) ∧ w'.cell? ⟨g, 2, none⟩ = some (.int .i64 b) ∧ w'.cell? ⟨g, 3, none⟩ = some (.int .i64 r))) (by kernel_rfl) ⟨k0, k1, k2, k3⟩ (fun hHeld => ?_)
    refine wpAnyH_take (i := 0) (oi := { dst := some 6, op := Op.load 23 (Operand.tmp 1), type := 23, pos := "zone.go:38", after := #[], guard := none }) (v := ?_) rfl (by kernel_rfl) (by kernel_rfl) (by kernel_rfl) (fun _ _ _ h => h) (Or.inl ⟨by rfl, ?_⟩) (by assumption) ?_
    rotate_left
    · (intro w hSw; (try dsimp only at hSw); go_simp; (try with_reducible rfl))
    (try simp only [Act.put, List.setIfInBounds_toArray, List.set_cons_zero, List.set_cons_succ])
    refine wpAnyH_take (i := 1) (oi := { dst := some 7, op := Op.fieldAddr 23 (Operand.tmp 1) 0, type := 0, pos := "zone.go:38", after := #[], guard := none }) (v := ?_) rfl (by kernel_rfl) (by kernel_rfl) (by kernel_rfl) (fun _ _ _ h => h) (Or.inl ⟨by rfl, ?_⟩) (by assumption) ?_
    rotate_left
    · (intro w hSw; (try dsimp only at hSw); go_simp; (try with_reducible rfl))
    (try simp only [Act.put, List.setIfInBounds_toArray, List.set_cons_zero, List.set_cons_succ])
    refine wpAnyH_take (i := 2) (oi := { dst := some 8, op := Op.load 3 (Operand.tmp 7), type := 3, pos := "zone.go:38", after := #[{ on := 1, ground := Ground.data }], guard := none }) (v := ?_) rfl (by kernel_rfl) (by kernel_rfl) (by kernel_rfl) (fun _ _ _ h => h) (Or.inl ⟨by rfl, ?_⟩) (by assumption) ?_
    rotate_left
    · (intro w hSw; (try dsimp only at hSw); go_simp; (try with_reducible rfl))
    (try simp only [Act.put, List.setIfInBounds_toArray, List.set_cons_zero, List.set_cons_succ])
    refine wpAnyH_ready (rs := [3]) (by kernel_rfl) (by simp) ?_
    refine AllReadyH.cons (o := { dst := some 9, op := Op.makeSlice 101 (Operand.tmp 8) (Operand.tmp 8), type := 101, pos := "zone.go:38", after := #[{ on := 2, ground := Ground.data }, { on := 2, ground := Ground.data }], guard := none }) rfl (fun K hK => ?_) AllReadyH.nil
    refine Kd.S_make_step (w0 := w1.drew) partK w1.drew.heap.size 108 (by rfl) (N := 9) rfl 101 (.tmp 8) (.tmp 8) rfl z rfl rfl Try.underlying101 (.agg #[.slice none 0 0, .int .i64 0]) 32 info_part rfl (by decide) (by decide) ([], 0) (ok := fun k => w1.drew.heap.size ≤ k) (okp := fun _ => False) (zero_part _ _) (fun _ h => h.elim) (Nat.le_refl _) (by omega) (by omega) (Below.refl _ _) (Nat.le_refl _) ?_
    intro v1 w2 hS hb2 _ _
    have HS := Aside0.mk hS
    obtain ⟨A, c, rfl⟩ := Kd.R_slice (Kd.S_R hS)
    have HB2 := Aside0.mk hb2
    clear hS hb2
    refine hK.out _ _ ?_ (fun hHeld => ?_)
    · exact ⟨pw_cell_below HB2.out k0, pw_cell_below HB2.out k1, pw_cell_below HB2.out k2, pw_cell_below HB2.out k3⟩
    clear hK K
    (try simp only [Act.put, List.setIfInBounds_toArray, List.set_cons_zero, List.set_cons_succ])
    refine wpAnyH_take (i := 4) (oi := { dst := some 10, op := Op.build 103 #[(0, Operand.tmp 6), (1, Operand.tmp 9)], type := 103, pos := "zone.go:38", after := #[{ on := 0, ground := Ground.data }, { on := 3, ground := Ground.data }], guard := none }) (v := ?_) rfl (by kernel_rfl) (by kernel_rfl) (by kernel_rfl) (fun _ _ _ h => h) (Or.inl ⟨by rfl, ?_⟩) (by assumption) ?_
    rotate_left
    · (intro w hSw; (try dsimp only at hSw); go_simp; (try with_reducible rfl))
    (try simp only [Act.put, List.setIfInBounds_toArray, List.set_cons_zero, List.set_cons_succ])
    refine wpAnyH_ready (rs := [5]) (by kernel_rfl) (by simp) ?_
    refine AllReadyH.cons (o := { dst := some 11, op := Op.box 103 (Operand.tmp 10), type := 50, pos := "zone.go:38", after := #[{ on := 4, ground := Ground.data }], guard := none }) rfl (fun K hK => ?_) AllReadyH.nil
    go_simp
    refine hK.out _ _ ?_ (fun hHeld => ?_)
    · exact ⟨pw_cell_below (alloc_below _ _) hHeld.1, pw_cell_below (alloc_below _ _) hHeld.2.1, pw_cell_below (alloc_below _ _) hHeld.2.2.1, pw_cell_below (alloc_below _ _) hHeld.2.2.2⟩
    clear hK K
    (try simp only [Act.put, List.setIfInBounds_toArray, List.set_cons_zero, List.set_cons_succ])
    refine wpAnyH_take (i := 6) (oi := { dst := some 2, op := Op.assign (Operand.tmp 11), type := 50, pos := "zone.go:38", after := #[{ on := 5, ground := Ground.data }, { on := 0, ground := Ground.phase }, { on := 1, ground := Ground.phase }, { on := 2, ground := Ground.phase }, { on := 3, ground := Ground.phase }, { on := 4, ground := Ground.phase }, { on := 5, ground := Ground.phase }], guard := none }) (v := ?_) rfl (by kernel_rfl) (by kernel_rfl) (by kernel_rfl) (fun _ _ _ h => h) (Or.inl ⟨by rfl, ?_⟩) (by assumption) ?_
    rotate_left
    · (intro w hSw; (try dsimp only at hSw); go_simp; (try with_reducible rfl))
    (try simp only [Act.put, List.setIfInBounds_toArray, List.set_cons_zero, List.set_cons_succ])
    refine wpAnyH_done (by kernel_rfl) ?_ _
    go_wp2
    go_ret
    have hsz := HB1.out.size
    have hsz2 := HB2.out.size
    have hgs := HG.out
    have HS' := HS.out
    rw [List.length_replicate] at HS'
    refine ⟨.inr ⟨HRT.out, w2.heap.size, _, rfl, ⟨blk_here rfl, ?_⟩, ?_⟩, ?_⟩
    · exact Kd.S_mono (Kd.S_lower (Kd.S_alloc HS' _) (show w.heap.size ≤ w1.drew.heap.size from hsz)) (fun k hk => Nat.le_trans hsz hk)
    · exact Nat.le_trans hsz hsz2
    · exact (show Below w.heap.size w w1 from by rw [hgs]; exact HB1.out).trans (below_go (Below.refl _ _) (below_go (below_drew (Below.refl _ _)) (below_go HB2.out (alloc_below _ _))) |>.mono hsz)
  · rw [decide_eq_false hrt]
    have HRT := Aside0.mk hrt
    clear hrt
    go_wp2
    go_ret
    exact ⟨.inl ⟨HRT.out, rfl⟩, by rw [HG.out]; exact HB1.out⟩
end Go.Proofs.Ytkmeipblgdahoaa.Dv
namespace Go.Proofs.Ytkmeipblgdahoaa.Dv
open Go.RowKit Go.Proofs.YtkmeipblgdahoaaW.PrintWords Go.Proofs.YtkmeipblgdahoaaW.PrintMore Go.Proofs.Ytkmeipblgdahoaa.Base Go.Proofs.Ytkmeipblgdahoaa.Shp
set_option maxRecDepth 100000
set_option linter.unusedVariables false
set_option linter.unusedSimpArgs false
/-- append(v, ys...) to bytes of the device's own. -/
theorem app_dev {ops : Array Oper} {rest : List Oper} {o : Oper} {a : Act} {Q : Exit → Act → World → Prop} {W : World} (base : Nat) (ok : Nat → Prop) (s x : Operand) (hgd : o.guard = none) (ho : o.op = .call { callee := .builtin .append, args := #[s, x], argTypes := #[39, 39] })
    (v : Value) (xs ys : List UInt8) (A : Option Addr) (m c : Nat) (hs : a.eval s = v) (hx : a.eval x = .slice A m c)
    (HO : byte.R 5 W base ok v xs) (hfresh : ∀ k, W.heap.size ≤ k → ok k) (HR : byte.C W A m ys) (hbase : base ≤ W.heap.size) (hl : xs.length + m ≤ 140737488355328)
    (h : ∀ v1 w1, byte.R 5 w1 base ok v1 (xs ++ ys) → W.grownBy w1 v.ownBlock → wpList Try.prog ops Q rest (a.put o.dst v1) w1) : wpList Try.prog ops Q (o :: rest) a W :=
  Kd.R_append_row (w0 := W) _ (0 : UInt8) base hgd s x 39 5 (.int .u8 0) 1 ho Try.underlying39 info_u8 rfl (by decide) v xs ys A m c ok hs hx hfresh HO HR (Below.refl _ _) hbase (by omega)
    (fun v1 w1 h1 h2 h3 _ => h v1 w1 h1 h3)

def addrV (z b : Int) (e : Int) : Ending := .returned (.tuple #[.agg #[.int .i64 z, .int .i64 b], .int .u16 e])
/-- What Append answers, and the parts behind it. -/
def AppR (zb b : Int) (ps : List Prt) (i : Int) (xs : List UInt8) (e : Ending) (ps' : List Prt) : Prop :=
  ((hasB ps.length i = false ∨ (xs.length : Int) ≠ b) ∧ e = addrV 0 0 100 ∧ ps' = ps) ∨
  (hasB ps.length i = true ∧ (xs.length : Int) = b ∧ zb ≤ ((ps.getD i.toNat ([], 0)).1.length : Int) / b ∧ e = addrV 0 0 101 ∧ ps' = ps) ∨
  (hasB ps.length i = true ∧ (xs.length : Int) = b ∧ ((ps.getD i.toNat ([], 0)).1.length : Int) / b < zb ∧ e = addrV i (((ps.getD i.toNat ([], 0)).1.length : Int) / b) 0 ∧ ps' = ps.set i.toNat ((ps.getD i.toNat ([], 0)).1 ++ xs, (ps.getD i.toNat ([], 0)).2))

theorem not_addr : ∀ q, q ∈ 108 :: partK.E → q ≠ 59 := by decide
/-- The result's cells. -/
theorem res_cells {w : World} {g : Nat} {x y : Int} (h : w.heap[g]? = some (.cells #[.int .i64 x, .int .i64 y] 59 (0, 0))) :
    w.cell? ⟨g, 0, none⟩ = some (.int .i64 x) ∧ w.cell? ⟨g, 1, none⟩ = some (.int .i64 y) ∧ w.frozen? ⟨g, 0, none⟩ = false ∧ w.frozen? ⟨g, 1, none⟩ = false :=
  ⟨by simp [World.cell?, h], by simp [World.cell?, h], by simp [World.frozen?, h], by simp [World.frozen?, h]⟩
theorem Dev.res {w : World} {xb base : Nat} {ok : Nat → Prop} {z zb b r : Int} {ps : List Prt} {v : Value} (h : Dev w xb base ok z zb b r ps v) {g : Nat} {cells : Array Value} (hb : w.heap[g]? = some (.cells cells 59 (0, 0))) (hx : xb ≠ g) (u u' : Value) :
    Dev ((w.setCell ⟨g, 0, none⟩ u).setCell ⟨g, 1, none⟩ u') xb base ok z zb b r ps v :=
  (h.set hb not_addr hx 0 u).set (blk_set hb 0 u) not_addr hx 1 u'
set_option maxHeartbeats 4000000 in
theorem append_calls (xb base : Nat) (ok : Nat → Prop) (z zb b r : Int) (hrt : Rt z zb b r) (ps : List Prt) (v : Value) (i : Int) (hi : IsI i) (A : Option Addr) (n cap : Nat) (xs : List UInt8) (w : World) (h : Dev w xb base ok z zb b r ps v)
    (hok : ∀ k, w.heap.size ≤ k → ok k) (hC : byte.C w A n xs) (hsz : ∀ p ∈ ps, p.1.length ≤ 100000000) :
    Calls Try.prog 25 #[.pointer (some ⟨xb, 0, none⟩), .int .i64 i, .slice A n cap] w
      fun e w' => ∃ ps', AppR zb b ps i xs e ps' ∧ Dev w' xb base ok z zb b r ps' v ∧ Chg w w' ok := by
  obtain ⟨hlen, hmax⟩ := C_len hC
  have HL := Aside0.mk hlen
  have HC := Aside0.mk hC
  have hxg : xb ≠ w.heap.size := by have := (Array.getElem?_eq_some_iff.1 h.blk).1; omega
  have hA := alloc_below w (.cells #[.int .i64 0, .int .i64 0] 59)
  have HD := Aside0.mk (h.below hA)
  have HA := Aside0.mk hA
  have HOK := Aside0.mk hok
  have HSZ := Aside0.mk hsz
  obtain ⟨hb1, hb2⟩ := pow_rng hrt.2.2.2.2.1
  have HRT := Aside0.mk hrt
  obtain ⟨k0, k1, k2, k3, k4⟩ := HD.out.cells
  obtain ⟨hi1, hi2⟩ := hi
  clear hlen hC hA h hok hsz hrt k0 k3
  by_cases hh : 0 ≤ i ∧ i < (ps.length : Int)
  · have HH := Aside0.mk (hasB_true hh.1 hh.2)
    by_cases hnb : (n : Int) = b
    · have hnb2 : ((n : Int) != b) = false := by rw [bne_eq_false_iff_eq]; exact hnb
      have hnb3 : ((n : Int) == b) = true := by rw [beq_iff_eq]; exact hnb
      obtain ⟨j, rfl⟩ : ∃ j : Nat, i = (j : Int) := ⟨i.toNat, by omega⟩
      obtain ⟨p, hp⟩ : ∃ p, ps.getD j ([], 0) = p := ⟨_, rfl⟩
      obtain ⟨ad, cp, B, k, oki, rfl, c0, c1, hk, hI, hB, -, -, -, -, -, -, -, -, -⟩ := HD.out.part (by omega) hp
      have hpm : p.1.length ≤ 100000000 := HSZ.out p (by rw [← hp, List.getD_eq_getElem?_getD, List.getElem?_eq_getElem (by omega)]; exact List.getElem_mem _)
      have HP := Aside0.mk hp
      obtain ⟨m, hm⟩ : ∃ m, ps.length = m := ⟨_, rfl⟩
      have HM := Aside0.mk hm
      obtain ⟨hh0, hh1⟩ := hh
      rw [hm] at hh1 k4
      have hmm : m ≤ 9223372036854775807 := by
        obtain ⟨_, _, _, _, e2, _, _, e3⟩ := HD.out.form
        omega
      clear hp hm hB hI
      go_enter Try.func25, Try.ntmps25
      go_wp2_with fail
      refine (has_calls xb base ok z zb b r ps _ (j : Int) ⟨by omega, by omega⟩ _ HD.out).mono ?_
      rintro e w2 ⟨rfl, rfl⟩
      rw [HH.out]
      go_wp2_with fail
      refine (count_calls xb base ok z zb b r (by omega) (by omega) ps _ B p.1.length k (by omega) p.2 _ HD.out).mono ?_
      rintro e w3 ⟨rfl, hw3⟩
      have HD3 := Aside0.mk (HD.out.below hw3)
      have HC3 := Aside0.mk (Kd.C_below HC.out (below_go HA.out hw3))
      have HG := Aside0.mk (show w3.heap[w.heap.size]? = some (.cells #[.int .i64 0, .int .i64 0] 59 (0, 0)) from (hw3.block _ (by simp)).trans (blk_here rfl))
      have HB3 := Aside0.mk (below_go HA.out hw3)
      have HXG := Aside0.mk (show xb ≠ w.heap.size from hxg)
      have HCH := Aside0.mk (show Chg w w3 ok from Chg.of_below HB3.out _)
      have HFR := Aside0.mk (show ∀ k, w3.heap.size ≤ k → ok k from fun k hk => HOK.out k (Nat.le_trans HB3.out.size hk))
      have HGE := Aside0.mk (show w.heap.size ≤ w.heap.size from Nat.le_refl _)
      clear k1 k2 k4 c0 c1 hw3 HC HA HD hxg
      obtain ⟨g, hg⟩ : ∃ g, w.heap.size = g := ⟨_, rfl⟩
      rw [hg] at HG HXG ⊢
      have HGG := Aside0.mk hg
      clear hg HGE
      obtain ⟨-, k1, k2, -, k4⟩ := HD3.out.cells
      obtain ⟨g0, g1, f0, f1⟩ := res_cells HG.out
      obtain ⟨q, hq⟩ : ∃ q, (p.1.length : Int) / b = q := ⟨_, rfl⟩
      have HQ := Aside0.mk hq
      rw [hq]
      clear hq
      by_cases hcnt : zb ≤ q
      · go_wp2
        refine bodyPost_ret (by simp [results, Try.results25, go_sem, *]; rfl) rfl ?_
        refine ⟨ps, .inr (.inl ⟨HH.out, by rw [HL.out]; exact hnb, ?_, rfl, rfl⟩), HD3.out.res HG.out HXG.out _ _, (HCH.out.set (.inr (Nat.le_of_eq HGG.out)) _).set (.inr (Nat.le_of_eq HGG.out)) _⟩
        rw [Int.toNat_natCast, HP.out, HQ.out]; exact hcnt
      · obtain ⟨ad', cp', B', k', oki, hv, c0, c1, hk', hI', hB', hf0, hf1, hokg, hgx, hgl, hR, hoki, happ, -⟩ := HD3.out.part (by rw [HM.out]; omega) HP.out
        obtain ⟨rfl, rfl⟩ : ad = ad' ∧ cp = cp' := by simp only [Value.slice.injEq, Option.some.injEq] at hv; exact ⟨hv.1, hv.2.2⟩
        have HR := Aside0.mk hR
        have HAP := Aside0.mk happ
        have HOKI := Aside0.mk hoki
        have HBS := Aside0.mk (show base ≤ w3.heap.size from Nat.le_trans (Kd.S_base HD3.out.row ad.block (by obtain ⟨g', hg'⟩ := Kd.R_head (Kd.S_R HD3.out.row); rw [hg']; rfl)) (Nat.le_of_lt hgl))
        have HGL := Aside0.mk (Array.getElem?_eq_some_iff.1 HG.out).1
        have HNO := Aside0.mk (show some g ≠ (Value.slice B' p.1.length k').ownBlock from by
          intro e
          obtain ⟨cells, hc⟩ := Kd.R_typed hR g e.symm
          rw [HG.out] at hc
          simp at hc)
        have hga : ad.block ≠ g := by
          intro e
          obtain ⟨g', hg'⟩ := Kd.R_head (Kd.S_R HD3.out.row)
          obtain ⟨cells, hc⟩ := Kd.S_typed HD3.out.row ad.block (by rw [hg']; rfl)
          rw [e, HG.out] at hc
          simp at hc
        have hn0 : ad.add (j * 2) ≠ ⟨g, 0, none⟩ := fun e => hga (by have := congrArg Addr.block e; simpa [add_block] using this)
        have hn1 : ad.add (j * 2) ≠ ⟨g, 1, none⟩ := fun e => hga (by have := congrArg Addr.block e; simpa [add_block] using this)
        have hn2 := hn0.symm
        have hn3 := hn1.symm
        have HGA := Aside0.mk hga
        clear hv hB' hf0 hf1 hR hoki happ hga
        go_wp2_with (at_builtin; go_loud (refine app_dev base (fun k => oki k ∨ w3.heap.size ≤ k) (.tmp 48) (.tmp 49) rfl rfl _ p.1 xs A n cap rfl rfl (Kd.R_mono HR.out (fun k hk => .inl hk)) (fun k hk => .inr hk) HC3.out HBS.out (by omega) ?_); go_loud (intro v4 w4 hR4 hg4; obtain ⟨A4, c4, rfl, _, _⟩ := Kd.R_reads hR4; obtain ⟨hS4, hgr4, fr4, cl4⟩ := HAP.out w4 _ _ hg4 hR4 HFR.out; simp only [List.length_append] at hS4 hgr4; have HS4 := Aside0.mk hS4; have HGR4 := Aside0.mk hgr4; have HG4 := Aside0.mk hg4; have HRS := Aside0.mk (show w4.heap[g]? = some (.cells #[.int .i64 0, .int .i64 0] 59 (0, 0)) from (hg4.block g HGL.out HNO.out).trans HG.out); obtain ⟨q0, q1, q2, q3⟩ := res_cells HRS.out; clear hS4 hgr4 hg4 hR4))
        refine bodyPost_ret (by simp [results, Try.results25, go_sem, *]; rfl) rfl ?_
        have hab : (ad.add (j * 2)).block = ad.block := add_block _ _
        have hxl := (Array.getElem?_eq_some_iff.1 HD3.out.blk).1
        have hxo : some xb ≠ (Value.slice B' p.1.length k').ownBlock := by
          intro e
          obtain ⟨cells, hc⟩ := Kd.R_typed HR.out xb e.symm
          rw [HD3.out.blk] at hc
          simp at hc
        have dev5 : Dev (w4.setCell (ad.add (j * 2)) (.slice A4 (p.1.length + xs.length) c4)) xb base ok z zb b r (ps.set j (p.1 ++ xs, p.2)) (.slice (some ad) ps.length cp) :=
          ⟨blk_far ((HG4.out.block xb hxl hxo).trans HD3.out.blk) (by rw [hab]; exact hgx.symm) _, HS4.out⟩
        refine ⟨ps.set j (p.1 ++ xs, p.2), .inr (.inr ⟨HH.out, by rw [HL.out]; exact hnb, ?_, ?_, ?_⟩), dev5.res (blk_far HRS.out (by rw [hab]; exact HGA.out.symm) _) HXG.out _ _, ?_⟩
        · rw [Int.toNat_natCast, HP.out, HQ.out]; omega
        · rw [Int.toNat_natCast, HP.out, HQ.out]; rfl
        · rw [Int.toNat_natCast, HP.out]
        · exact (((HCH.out.grown HG4.out (fun k hk => .inl (HOKI.out k (HR.out.1 k hk)).1)).set (.inl (by rw [hab]; exact hokg)) _).set (.inr (Nat.le_of_eq HGG.out)) _).set (.inr (Nat.le_of_eq HGG.out)) _
    · have hnb2 : ((n : Int) != b) = true := by rw [bne_iff_ne]; exact hnb
      have hnb3 : ((n : Int) == b) = false := by rw [beq_eq_false_iff_ne]; exact hnb
      have HNB := Aside0.mk hnb
      clear hnb hh
      go_enter Try.func25, Try.ntmps25
      go_wp2_with fail
      refine (has_calls xb base ok z zb b r ps v i ⟨hi1, hi2⟩ _ HD.out).mono ?_
      rintro e w2 ⟨rfl, rfl⟩
      rw [HH.out]
      go_wp2
      go_returns
      exact ⟨ps, .inl ⟨.inr (by rw [HL.out]; exact HNB.out), rfl, rfl⟩, HD.out, Chg.of_below HA.out _⟩
  · have HH := Aside0.mk (hasB_false hh)
    clear hh
    go_enter Try.func25, Try.ntmps25
    go_wp2_with fail
    refine (has_calls xb base ok z zb b r ps v i ⟨hi1, hi2⟩ _ HD.out).mono ?_
    rintro e w2 ⟨rfl, rfl⟩
    rw [HH.out]
    go_wp2
    go_returns
    exact ⟨ps, .inl ⟨.inl HH.out, rfl, rfl⟩, HD.out, Chg.of_below HA.out _⟩
end Go.Proofs.Ytkmeipblgdahoaa.Dv
namespace Go.Proofs.Ytkmeipblgdahoaa.Dv
open Go.RowKit Go.Proofs.YtkmeipblgdahoaaW.PrintWords Go.Proofs.YtkmeipblgdahoaaW.PrintMore Go.Proofs.Ytkmeipblgdahoaa.Base Go.Proofs.Ytkmeipblgdahoaa.Shp
set_option maxRecDepth 100000
set_option linter.unusedVariables false
set_option linter.unusedSimpArgs false
theorem own_empty (w : World) (base : Nat) (hb : base ≤ w.heap.size) : Base.Own (w.alloc (.cells #[] 5)) base (.slice (some ⟨w.heap.size, 0, none⟩) 0 0) [] :=
  ⟨fun _ _ => trivial, [], ⟨rfl, .inr ⟨w.heap.size, 0, #[], rfl, hb, heap_alloc_new w _, Nat.le_refl _, Nat.zero_le _, rfl, rfl⟩⟩, rfl, fun j p hj => by simp at hj⟩
set_option maxRecDepth 100000 in
theorem clone_calls (A : Option Addr) (n cap : Nat) (xs : List UInt8) (hn : n ≤ 140737488355328) (w : World) (h : byte.C w A n xs) :
    Calls Try.prog 64 #[.slice A n cap] w fun e w' => ∃ v, e = .returned v ∧ Base.Own w' w.heap.size v xs ∧ Below w.heap.size w w' := by
  have H := Aside0.mk h
  have hnil : ∀ (c : Nat) (W : World), (binOp .eql 39 (.slice none 0 c) (.slice none 0 0)).run Try.prog W = .ok (.bool true) W := fun _ _ => by kernel_rfl
  have hnot : ∀ (a : Addr) (m c : Nat) (W : World), (binOp .eql 39 (.slice (some a) m c) (.slice none 0 0)).run Try.prog W = .ok (.bool false) W := fun _ _ _ _ => by kernel_rfl
  cases A with
  | none =>
    have hn0 : n = 0 := by
      rcases Nat.eq_zero_or_pos n with h0 | h0
      · exact h0
      · obtain ⟨ad, he, _⟩ := h.2.2 h0
        cases he
    subst hn0
    have hx : xs = [] := List.eq_nil_of_length_eq_zero h.1
    subst hx
    clear h
    go_enter Try.func64, Try.ntmps64
    go_wp2
    go_ret
    exact ⟨_, rfl, Base.Own.nil _ _, Below.refl _ _⟩
  | some ad =>
    have HC := Aside0.mk (Kd.C_below h (alloc_below w (.cells #[] 5)))
    have HO := Aside0.mk (own_empty w w.heap.size (Nat.le_refl _))
    have HB := Aside0.mk (alloc_below w (.cells #[] 5))
    clear h
    go_enter Try.func64, Try.ntmps64
    go_wp2_with (at_builtin; go_loud (refine app_row (w0 := w) w.heap.size (.tmp 5) (.tmp 6) rfl rfl _ [] xs (some ad) n cap rfl rfl HO.out HC.out HB.out (by simp) (by simp; omega) ?_); intro v1 w1 hO hB _; have HO1 := Aside0.mk hO; have HB1 := Aside0.mk hB; clear hO hB)
    go_ret
    exact ⟨_, rfl, HO1.out, HB1.out⟩
theorem small_calls (z zb b r : Int) (hz : IsI z) (hzb : IsI zb) (hb : IsI b) (hr : IsI r) (w : World) :
    Calls Try.prog 20 #[.agg #[.int .i64 z, .int .i64 zb, .int .i64 b, .int .i64 r]] w
      fun e w' => e = .returned (.bool (decide (z ≤ 12) && decide (zb ≤ 16) && decide (b ≤ 128))) ∧ Below w.heap.size w w' := by
  have hA := Aside0.mk (alloc_below w (.cells #[.int .i64 z, .int .i64 zb, .int .i64 b, .int .i64 r] 23))
  cases h1 : decide (z ≤ 12) <;> cases h2 : decide (zb ≤ 16) <;> cases h3 : decide (b ≤ 128)
  all_goals
    go_enter Try.func20, Try.ntmps20
    go_wp2
    go_ret
    exact ⟨rfl, hA.out⟩
end Go.Proofs.Ytkmeipblgdahoaa.Dv
namespace Go.Proofs.Ytkmeipblgdahoaa.Dv
open Go.RowKit Go.Proofs.YtkmeipblgdahoaaW.PrintWords Go.Proofs.YtkmeipblgdahoaaW.PrintMore Go.Proofs.Ytkmeipblgdahoaa.Base Go.Proofs.Ytkmeipblgdahoaa.Shp
set_option maxRecDepth 100000
set_option linter.unusedVariables false
set_option linter.unusedSimpArgs false
def ReadR (b : Int) (ps : List Prt) (zi bi : Int) (er : Int) (bs : List UInt8) : Prop :=
  (hasB ps.length zi = false ∧ er = 100 ∧ bs = []) ∨
  (hasB ps.length zi = true ∧ ¬ (0 ≤ bi ∧ bi < ((ps.getD zi.toNat ([], 0)).1.length : Int) / b) ∧ er = 102 ∧ bs = []) ∨
  (hasB ps.length zi = true ∧ (0 ≤ bi ∧ bi < ((ps.getD zi.toNat ([], 0)).1.length : Int) / b) ∧ er = 0 ∧ bs = ((ps.getD zi.toNat ([], 0)).1.drop (bi * b).toNat).take b.toNat)

/-- What Read answers: new bytes. -/
def ReadP (w w' : World) (b : Int) (ps : List Prt) (zi bi : Int) (e : Ending) : Prop := ∃ u er bs, e = .returned (.tuple #[u, .int .u16 er]) ∧ ReadR b ps zi bi er bs ∧ Base.Own w' w.heap.size u bs
set_option maxHeartbeats 4000000 in
theorem read_calls (xb base : Nat) (ok : Nat → Prop) (z zb b r : Int) (hrt : Rt z zb b r) (ps : List Prt) (v : Value) (zi bi : Int) (hzi : IsI zi) (hbi : IsI bi) (w : World) (h : Dev w xb base ok z zb b r ps v)
    (hsz : ∀ p ∈ ps, p.1.length ≤ 100000000) :
    Calls Try.prog 76 #[.pointer (some ⟨xb, 0, none⟩), .agg #[.int .i64 zi, .int .i64 bi]] w
      fun e w' => ReadP w w' b ps zi bi e ∧ Below w.heap.size w w' := by
  have hA := alloc_below w (.cells #[.int .i64 zi, .int .i64 bi] 59)
  have HD := Aside0.mk (h.below hA)
  have HA := Aside0.mk hA
  have HSZ := Aside0.mk hsz
  obtain ⟨hb1, hb2⟩ := pow_rng hrt.2.2.2.2.1
  have HRT := Aside0.mk hrt
  obtain ⟨hzi1, hzi2⟩ := hzi
  obtain ⟨hbi1, hbi2⟩ := hbi
  clear hA h hsz hrt
  by_cases hh : 0 ≤ zi ∧ zi < (ps.length : Int)
  · have HH := Aside0.mk (hasB_true hh.1 hh.2)
    obtain ⟨j, rfl⟩ : ∃ j : Nat, zi = (j : Int) := ⟨zi.toNat, by omega⟩
    obtain ⟨p, hp⟩ : ∃ p, ps.getD j ([], 0) = p := ⟨_, rfl⟩
    obtain ⟨ad, cp, B, k, oki, rfl, c0, c1, hk, hI, hB, -, -, -, -, -, -, -, -, -⟩ := HD.out.part (by omega) hp
    have hpm : p.1.length ≤ 100000000 := HSZ.out p (by rw [← hp, List.getD_eq_getElem?_getD, List.getElem?_eq_getElem (by omega)]; exact List.getElem_mem _)
    have HP := Aside0.mk hp
    obtain ⟨m, hm⟩ : ∃ m, ps.length = m := ⟨_, rfl⟩
    have HM := Aside0.mk hm
    obtain ⟨hh0, hh1⟩ := hh
    obtain ⟨-, -, k2, -, k4⟩ := HD.out.cells
    rw [hm] at hh1 k4
    have hmm : m ≤ 9223372036854775807 := by
      obtain ⟨_, _, _, _, e2, _, _, e3⟩ := HD.out.form
      omega
    have HBY := Aside0.mk hB
    have d0 : (w.alloc (.cells #[.int .i64 (j : Int), .int .i64 bi] 59)).cell? ⟨w.heap.size, 0, none⟩ = some (.int .i64 (j : Int)) := by go_simp
    have d1 : (w.alloc (.cells #[.int .i64 (j : Int), .int .i64 bi] 59)).cell? ⟨w.heap.size, 1, none⟩ = some (.int .i64 bi) := by go_simp
    clear hp hm hB hI
    go_enter Try.func76, Try.ntmps76
    go_wp2_with fail
    refine (has_calls xb base ok z zb b r ps _ (j : Int) ⟨by omega, by omega⟩ _ HD.out).mono ?_
    rintro e w2 ⟨rfl, rfl⟩
    rw [HH.out]
    obtain ⟨W, hW⟩ : ∃ W, w.alloc (.cells #[.int .i64 (j : Int), .int .i64 bi] 59) = W := ⟨_, rfl⟩
    obtain ⟨g, hg⟩ : ∃ g, w.heap.size = g := ⟨_, rfl⟩
    rw [hW] at HD HA c0 c1 k2 k4 d0 d1 HBY ⊢
    rw [hg] at HA d0 d1 ⊢
    have HG := Aside0.mk hg
    clear hW hg
    go_wp2
    go_region_held3 (fun w' => w'.cell? ⟨xb, 4, none⟩ = some (.slice (some ad) m cp) ∧ w'.cell? ⟨g, 0, none⟩ = some (.int .i64 (j : Int)) ∧ w'.cell? (ad.add (j * 2)) = some (.slice B p.1.length k) ∧ w'.cell? ⟨(ad.add (j * 2)).block, (ad.add (j * 2)).off + 1, none⟩ = some (.int .i64 p.2) ∧ Below W.heap.size W w')
      (first | exact ⟨k4, d0, c0, c1, below_drew (Below.refl _ _)⟩ | exact ⟨pw_cell_below (alloc_below _ _) k4, pw_cell_below (alloc_below _ _) d0, pw_cell_below (alloc_below _ _) c0, pw_cell_below (alloc_below _ _) c1, below_go (below_drew (Below.refl _ _)) (alloc_below _ _)⟩)
      (fail)
    go_split_ands
    have hbw := ‹Below W.heap.size W _›
    have HB2 := Aside0.mk hbw
    have HD2 := Aside0.mk (HD.out.below hbw)
    have HBY2 := Aside0.mk (Kd.C_below HBY.out hbw)
    have HW2 := Aside0.mk (below_then HA.out (by have h1 := HA.out.size; have h2 := HG.out; omega) hbw)
    have e0 : (W.alloc (.cells #[.slice B p.1.length k, .int .i64 p.2] 108)).drew.cell? ⟨W.heap.size, 0, none⟩ = some (.slice B p.1.length k) := by go_simp
    have e1 : (W.alloc (.cells #[.slice B p.1.length k, .int .i64 p.2] 108)).drew.cell? ⟨W.heap.size, 1, none⟩ = some (.int .i64 p.2) := by go_simp
    have d0 := pw_cell_below hbw d0
    have d1 := pw_cell_below hbw d1
    have k2 := pw_cell_below hbw k2
    clear hbw HB2 c0 c1 k4
    generalize (W.alloc (.cells #[.slice B p.1.length k, .int .i64 p.2] 108)).drew = W2 at *
    generalize W.heap.size = g2 at *
    obtain ⟨q, hq⟩ : ∃ q, (p.1.length : Int) / b = q := ⟨_, rfl⟩
    have HQ := Aside0.mk hq
    by_cases hn : bi < 0
    · go_wp2
      go_quiet (fail)
      have HW3 := Aside0.mk (pw_below_drewN HW2.out nq)
      go_wp2
      go_ret2
      exact ⟨⟨_, 102, [], rfl, .inr (.inl ⟨HH.out, fun h => by omega, rfl, rfl⟩), Base.Own.nil _ _⟩, by rw [HG.out]; exact HW3.out⟩
    · go_wp2
      have hnd : decide (bi < 0) = false := decide_eq_false (by omega)
      go_region_held3 (fun w' => w'.cell? ⟨g, 1, none⟩ = some (.int .i64 bi) ∧ w'.cell? ⟨g2, 0, none⟩ = some (.slice B p.1.length k) ∧ w'.cell? ⟨g2, 1, none⟩ = some (.int .i64 p.2) ∧ Below W2.heap.size W2 w')
        (first | exact ⟨d1, e0, e1, below_drew (Below.refl _ _)⟩ | exact ⟨pw_cell_below hw8 (by assumption), pw_cell_below hw8 (by assumption), pw_cell_below hw8 (by assumption), below_go (below_drew (Below.refl _ _)) hw8⟩ | (go_split_ands; exact ⟨pw_cell_below hw8 (by assumption), pw_cell_below hw8 (by assumption), pw_cell_below hw8 (by assumption), below_go (by assumption) hw8⟩))
        (first | (go_at_call 53; (with_reducible refine (count_calls xb base ok z zb b r (by omega) (by omega) ps _ B p.1.length k (by omega) p.2 _ (HD2.out.below (below_drew (Below.refl _ _)))).mono ?_); rintro e w8 ⟨rfl, hw8⟩))
      go_split_ands
      have hbw := ‹Below W2.heap.size W2 _›
      have k2 := pw_cell_below hbw k2
      have HW8 := Aside0.mk (below_then HW2.out (by have h1 := HW2.out.size; have h2 := HG.out; omega) hbw)
      have HBY8 := Aside0.mk (Kd.C_below HBY2.out hbw)
      clear hbw hw8 hnd d0 d1 e0 e1 HBY2 HD2 HBY HD
      by_cases hlt : bi < q
      · have hd : ¬ q ≤ bi := by omega
        have hmul1 : q * b ≤ (p.1.length : Int) := by rw [← hq]; exact Int.ediv_mul_le _ (by omega)
        have hmul2 : (bi + 1) * b ≤ q * b := Int.mul_le_mul_of_nonneg_right (by omega) (by omega)
        have hmul3 : (bi + 1) * b = bi * b + b := by rw [Int.add_mul, Int.one_mul]
        have hmul4 : 0 ≤ bi * b := Int.mul_nonneg (by omega) (by omega)
        obtain ⟨t, ht⟩ : ∃ t : Nat, bi * b = (t : Int) := ⟨(bi * b).toNat, by omega⟩
        obtain ⟨bn, hbn⟩ : ∃ bn : Nat, b = (bn : Int) := ⟨b.toNat, by omega⟩
        have htl : t + bn ≤ p.1.length := by omega
        have ew : wrap64 (bi * (bn : Int)) = (t : Int) := by rw [← hbn, ht]; exact IntWalk.wrap64_in _ (by omega)
        obtain ⟨i0, hi0, hzz⟩ := Option.map_eq_some_iff.1 info_u8
        simp only [Prod.mk.injEq] at hzz
        have hcut := cut_mid (P := Try.prog) 39 5 .i64 .i64 Try.underlying39 hi0 1 hzz.2.1 B p.1.length k (t : Int) ((t : Int) + (bn : Int)) (by omega) (by omega) (by omega) hk
        rw [Int.toNat_natCast, show ((t : Int) + (bn : Int)).toNat - t = bn by omega] at hcut
        obtain ⟨B1, hB1⟩ : ∃ B1, (if k = t then B else B.map (·.add (t * 1))) = B1 := ⟨_, rfl⟩
        rw [hB1] at hcut
        have HCC := Aside0.mk (show byte.C _ B1 bn ((p.1.drop t).take bn) from by
          have h1 := C_drop HBY8.out hk t (by omega)
          rw [← hB1]
          exact C_take h1 bn (by omega))
        have HT := Aside0.mk ht
        have HBN := Aside0.mk hbn
        clear hmul1 hmul2 hmul3 hmul4 ht hB1 hzz hi0
        go_wp2
        go_quiet (fail)
        have HW9 := Aside0.mk (pw_below_drewN HW8.out nq)
        have HC9 := Aside0.mk (Kd.C_below HCC.out (pw_below_drewN (Below.refl _ _) nq))
        have k2 := pw_cell_below (pw_below_drewN (Below.refl w8.heap.size w8) nq) k2
        have e8 := pw_cell_below (pw_below_drewN (Below.refl w8.heap.size w8) nq) ‹w8.cell? ⟨g2, 0, none⟩ = some (.slice B p.1.length k)›
        rw [ew]
        generalize w8.drewN nq = w10 at *
        rw [hbn] at k2
        have ew2 : IntKind.i64.wrap ((t : Int) + (bn : Int)) = (t : Int) + (bn : Int) := IntWalk.i64_in _ (by omega)
        have HBI := Aside0.mk (show 0 ≤ bi ∧ bi < q from ⟨by omega, hlt⟩)
        clear ew hbn hd hlt hn
        go_wp2
        go_region_held3 (fun w' => w'.cell? ⟨xb, 2, none⟩ = some (.int .i64 (bn : Int)) ∧ w'.cell? ⟨g2, 0, none⟩ = some (.slice B p.1.length k))
          (first | exact ⟨k2, e8⟩ | exact ⟨pw_cell_below hw11 k2, pw_cell_below hw11 e8⟩)
          (first | (go_at_call 64; (with_reducible refine (clone_calls B1 bn (k - t) _ (by omega) _ (Kd.C_below HC9.out (below_drew (Below.refl _ _)))).mono ?_); rintro e w11 ⟨v11, rfl, hO11, hw11⟩))
        go_wp2
        go_ret2
        have hsz11 := HW9.out.size
        have hOw : Base.Own w11 w.heap.size v11 ((p.1.drop t).take bn) := Kd.R_lower hO11 (show w.heap.size ≤ w10.drew.heap.size from hsz11)
        have hbi := HBI.out
        have hBel : Below w.heap.size w w11 := by
          have h1 := HW9.out
          rw [← HG.out] at h1
          exact h1.trans (below_go (below_drew (Below.refl _ _)) hw11 |>.mono hsz11)
        refine ⟨⟨v11, 0, (p.1.drop t).take bn, rfl, .inr (.inr ⟨HH.out, ?_, rfl, ?_⟩), hOw⟩, hBel⟩
        · rw [Int.toNat_natCast, HP.out, HQ.out]; exact hbi
        · rw [Int.toNat_natCast, HP.out, HT.out, Int.toNat_natCast, HBN.out, Int.toNat_natCast]
      · have hd : q ≤ bi := by omega
        go_wp2
        go_ret2
        exact ⟨⟨_, 102, [], rfl, .inr (.inl ⟨HH.out, fun h => by rw [Int.toNat_natCast, HP.out, HQ.out] at h; omega, rfl, rfl⟩), Base.Own.nil _ _⟩, by rw [HG.out]; exact HW8.out⟩
  · have HH := Aside0.mk (hasB_false hh)
    clear hh
    go_enter Try.func76, Try.ntmps76
    go_wp2_with fail
    refine (has_calls xb base ok z zb b r ps v zi ⟨hzi1, hzi2⟩ _ HD.out).mono ?_
    rintro e w2 ⟨rfl, rfl⟩
    rw [HH.out]
    go_wp2
    go_ret2
    exact ⟨⟨_, 100, [], rfl, .inl ⟨HH.out, rfl, rfl⟩, Base.Own.nil _ _⟩, HA.out⟩
end Go.Proofs.Ytkmeipblgdahoaa.Dv
namespace Go.Proofs.Ytkmeipblgdahoaa.Dv
open Go.RowKit Go.Proofs.YtkmeipblgdahoaaW.PrintWords Go.Proofs.YtkmeipblgdahoaaW.PrintMore Go.Proofs.Ytkmeipblgdahoaa.Base Go.Proofs.Ytkmeipblgdahoaa.Shp
set_option maxRecDepth 100000
set_option linter.unusedVariables false
set_option linter.unusedSimpArgs false
/-- A part is made empty. -/
theorem Dev.wiped {w : World} {xb base : Nat} {ok : Nat → Prop} {z zb b r : Int} {ps : List Prt} {ad : Addr} {cap : Nat} (h : Dev w xb base ok z zb b r ps (.slice (some ad) ps.length cap)) {j : Nat} (hj : j < ps.length) :
    Kd.S partK 108 ((w.setCell (ad.add (j * 2)) (.slice none 0 0)).setCell ⟨(ad.add (j * 2)).block, (ad.add (j * 2)).off + 1, none⟩ (.int .i64 0)) base ok (.slice (some ad) ps.length cap) (ps.set j ([], 0)) := by
  obtain ⟨g, rfl⟩ := Kd.R_head (Kd.S_R h.row)
  obtain ⟨oki, c, hcl, hM, hcc, hfr, hoki, hH⟩ := Kd.S_elem h.row ([], 0) (j : Int) (by omega) (by omega)
  have hs : partK.sz = 2 := rfl
  have ea : (⟨g, 0, none⟩ : Addr).add (j * 2) = ⟨g, j * 2, none⟩ := by rw [add_plain]
  obtain ⟨H2, hg2⟩ := Kd.H_seg hH (by omega) (by omega) (seg := [.slice none 0 0, .int .i64 0]) (j := 0) (by rw [hs]; exact Nat.le_refl 2) (fun q hq => by simp at hq; rcases hq with rfl | rfl <;> rfl)
  rw [Int.toNat_natCast, hs] at H2 hg2
  rw [ea]
  have es : w.setCells g (j * 2 + 0) [.slice none 0 0, .int .i64 0] = (w.setCell ⟨g, j * 2, none⟩ (.slice none 0 0)).setCell ⟨g, j * 2 + 1, none⟩ (.int .i64 0) := rfl
  rw [es] at H2
  have hd : c.drop (0 + [Value.slice none 0 0, Value.int .i64 0].length) = [] := List.drop_eq_nil_of_le (by rw [hcl, hs]; exact Nat.le_refl 2)
  rw [hd] at H2
  have := Kd.H_back H2 (x' := ([], 0)) (okp := fun _ => False) ⟨[.slice none 0 0], [.int .i64 0], rfl, ⟨_, rfl, Kd.R_nil _ _ _ _ _⟩, ⟨rfl, by decide⟩⟩ (fun k hk => hk.elim)
  rwa [Int.toNat_natCast] at this

def ResR (ps : List Prt) (i : Int) (e : Ending) (ps' : List Prt) : Prop := (hasB ps.length i = false ∧ e = .returned (.int .u16 100) ∧ ps' = ps) ∨ (hasB ps.length i = true ∧ e = .returned (.int .u16 0) ∧ ps' = ps.set i.toNat ([], 0))
theorem reset_calls (xb base : Nat) (ok : Nat → Prop) (z zb b r : Int) (ps : List Prt) (v : Value) (i : Int) (hi : IsI i) (w : World) (h : Dev w xb base ok z zb b r ps v) :
    Calls Try.prog 24 #[.pointer (some ⟨xb, 0, none⟩), .int .i64 i] w fun e w' => ∃ ps', ResR ps i e ps' ∧ Dev w' xb base ok z zb b r ps' v ∧ Chg w w' ok := by
  have HD := Aside0.mk h
  obtain ⟨hi1, hi2⟩ := hi
  obtain ⟨-, -, -, -, k4⟩ := h.cells
  clear h
  by_cases hh : 0 ≤ i ∧ i < (ps.length : Int)
  · have HH := Aside0.mk (hasB_true hh.1 hh.2)
    obtain ⟨j, rfl⟩ : ∃ j : Nat, i = (j : Int) := ⟨i.toNat, by omega⟩
    obtain ⟨p, hp⟩ : ∃ p, ps.getD j ([], 0) = p := ⟨_, rfl⟩
    obtain ⟨ad, cp, B, k, oki, rfl, c0, c1, hk, hI, hB, f0, f1, hoa, hax, hal, -, -, -, -⟩ := HD.out.part (by omega) hp
    have HS := Aside0.mk (HD.out.wiped (j := j) (by omega))
    have HO := Aside0.mk hoa
    have HX := Aside0.mk hax
    obtain ⟨m, hm⟩ : ∃ m, ps.length = m := ⟨_, rfl⟩
    obtain ⟨hh0, hh1⟩ := hh
    rw [hm] at hh1 k4
    have hmm : m ≤ 9223372036854775807 := by
      obtain ⟨_, _, _, _, e2, _, _, e3⟩ := HD.out.form
      omega
    have hn1 : ad.add (j * 2) ≠ ⟨(ad.add (j * 2)).block, (ad.add (j * 2)).off + 1, none⟩ := fun e => by have := congrArg Addr.off e; simp at this
    have hn2 := hn1.symm
    clear hp hm hB hI hoa hax hal hk
    go_enter Try.func24, Try.ntmps24
    go_wp2_with fail
    refine (has_calls xb base ok z zb b r ps _ (j : Int) ⟨by omega, by omega⟩ _ HD.out).mono ?_
    rintro e w2 ⟨rfl, rfl⟩
    rw [HH.out]
    go_wp2
    go_ret
    have hab : (ad.add (j * 2)).block = ad.block := add_block _ _
    refine ⟨ps.set j ([], 0), .inr ⟨HH.out, rfl, by rw [Int.toNat_natCast]⟩, ⟨blk_far (blk_far HD.out.blk (by rw [hab]; exact HX.out.symm) _) (by show xb ≠ (ad.add (j * 2)).block; rw [hab]; exact HX.out.symm) _, HS.out⟩, ((Chg.refl _ _).set (.inl (by rw [hab]; exact HO.out)) _).set (.inl (by show ok (ad.add (j * 2)).block; rw [hab]; exact HO.out)) _⟩
  · have HH := Aside0.mk (hasB_false hh)
    clear hh
    go_enter Try.func24, Try.ntmps24
    go_wp2_with fail
    refine (has_calls xb base ok z zb b r ps v i ⟨hi1, hi2⟩ _ HD.out).mono ?_
    rintro e w2 ⟨rfl, rfl⟩
    rw [HH.out]
    go_wp2
    go_ret
    exact ⟨ps, .inl ⟨HH.out, rfl, rfl⟩, HD.out, Chg.refl _ _⟩

def AtR (b : Int) (ps : List Prt) (i : Int) (e : Ending) : Prop := (hasB ps.length i = false ∧ e = .returned (.tuple #[.int .i64 0, .int .i64 0])) ∨ (hasB ps.length i = true ∧ e = .returned (.tuple #[.int .i64 (((ps.getD i.toNat ([], 0)).1.length : Int) / b), .int .i64 (ps.getD i.toNat ([], 0)).2]))
theorem at_calls (xb base : Nat) (ok : Nat → Prop) (z zb b r : Int) (hb1 : 0 < b) (hb2 : b ≤ 9223372036854775807) (ps : List Prt) (v : Value) (i : Int) (hi : IsI i) (w : World) (h : Dev w xb base ok z zb b r ps v) :
    Calls Try.prog 75 #[.pointer (some ⟨xb, 0, none⟩), .int .i64 i] w fun e w' => AtR b ps i e ∧ Below w.heap.size w w' := by
  have HD := Aside0.mk h
  obtain ⟨hi1, hi2⟩ := hi
  obtain ⟨-, -, -, -, k4⟩ := h.cells
  clear h
  by_cases hh : 0 ≤ i ∧ i < (ps.length : Int)
  · have HH := Aside0.mk (hasB_true hh.1 hh.2)
    obtain ⟨j, rfl⟩ : ∃ j : Nat, i = (j : Int) := ⟨i.toNat, by omega⟩
    obtain ⟨p, hp⟩ : ∃ p, ps.getD j ([], 0) = p := ⟨_, rfl⟩
    obtain ⟨ad, cp, B, k, oki, rfl, c0, c1, hk, hI, hB, -, -, -, -, -, -, -, -, -⟩ := HD.out.part (by omega) hp
    have HP := Aside0.mk hp
    have hpm := (C_len hB).2
    obtain ⟨m, hm⟩ : ∃ m, ps.length = m := ⟨_, rfl⟩
    obtain ⟨hh0, hh1⟩ := hh
    rw [hm] at hh1 k4
    have hmm : m ≤ 9223372036854775807 := by
      obtain ⟨_, _, _, _, e2, _, _, e3⟩ := HD.out.form
      omega
    clear hp hm hB hI
    go_enter Try.func75, Try.ntmps75
    go_wp2_with fail
    refine (has_calls xb base ok z zb b r ps _ (j : Int) ⟨by omega, by omega⟩ _ HD.out).mono ?_
    rintro e w2 ⟨rfl, rfl⟩
    rw [HH.out]
    go_wp2
    go_region_held3 (fun w' => w'.cell? ⟨xb, 4, none⟩ = some (.slice (some ad) m cp) ∧ w'.cell? (ad.add (j * 2)) = some (.slice B p.1.length k) ∧ w'.cell? ⟨(ad.add (j * 2)).block, (ad.add (j * 2)).off + 1, none⟩ = some (.int .i64 p.2))
      (first | exact ⟨k4, c0, c1⟩ | exact ⟨pw_cell_below hw8 k4, pw_cell_below hw8 c0, pw_cell_below hw8 c1⟩)
      (first | (go_at_call 53; (with_reducible refine (count_calls xb base ok z zb b r hb1 hb2 ps _ B p.1.length k hpm p.2 _ (HD.out.below (below_drew (Below.refl _ _)))).mono ?_); rintro e w8 ⟨rfl, hw8⟩))
    have HB8 := Aside0.mk (below_go (below_drew (Below.refl _ _)) hw8)
    go_wp2
    go_ret2
    exact ⟨.inr ⟨HH.out, by rw [Int.toNat_natCast, HP.out]; rfl⟩, HB8.out⟩
  · have HH := Aside0.mk (hasB_false hh)
    clear hh
    go_enter Try.func75, Try.ntmps75
    go_wp2_with fail
    refine (has_calls xb base ok z zb b r ps v i ⟨hi1, hi2⟩ _ HD.out).mono ?_
    rintro e w2 ⟨rfl, rfl⟩
    rw [HH.out]
    go_wp2
    go_ret2
    exact ⟨.inl ⟨HH.out, rfl⟩, Below.refl _ _⟩
end Go.Proofs.Ytkmeipblgdahoaa.Dv
namespace Go.Proofs.Ytkmeipblgdahoaa.Dv
open Go.RowKit Go.Proofs.YtkmeipblgdahoaaW.PrintWords Go.Proofs.YtkmeipblgdahoaaW.PrintMore Go.Proofs.Ytkmeipblgdahoaa.Base Go.Proofs.Ytkmeipblgdahoaa.Shp
set_option maxRecDepth 100000
set_option linter.unusedVariables false
set_option linter.unusedSimpArgs false
theorem conv_bytes (w : World) (A : Option Addr) (n c : Nat) (xs : List UInt8) (h : byte.C w A n xs) : (convert 39 9 (.slice A n c)).run Try.prog w = .ok (.string ⟨xs.toArray⟩) w := by
  obtain ⟨hl, hm⟩ := C_len h
  cases A with
  | none =>
    have hx : xs = [] := by
      rcases Nat.eq_zero_or_pos n with h0 | h0
      · exact List.eq_nil_of_length_eq_zero (by omega)
      · obtain ⟨ad, he, _⟩ := h.2.2 h0
        cases he
    subst hx
    exact run_convert_bytes_nil w _ _ Try.underlying39 Try.underlying5 n c _ Try.underlying9
  | some ad =>
    have hld : (loadCells ad n).run Try.prog w = .ok ((xs.map fun b => (b.toNat : Int)).map (Value.int .u8)).toArray w := by
      have := run_loadCells_list (P := Try.prog) w ad ((xs.map fun b => (b.toNat : Int)).map (Value.int .u8)) (fun j v hj => by
        have hjl : j < xs.length := by have := (List.getElem?_eq_some_iff.1 hj).1; simpa using this
        obtain ⟨ad', e, hc⟩ := byte_at h j (by omega)
        injection e with e
        subst e
        rw [hc]
        simp [List.getElem?_eq_getElem hjl] at hj
        subst hj
        simp [List.getD, List.getElem?_eq_getElem hjl])
      simpa [hl] using this
    rw [run_convert_bytes_string w _ _ _ _ n c Try.underlying39 Try.underlying5 Try.underlying9, run_bytesToString w _ n c _ hld, foldl_push_bytes]
    simp [ByteArray.empty, ByteArray.emptyWithCapacity]
    have : ((fun n : Int => UInt8.ofNat n.toNat) ∘ fun b : UInt8 => (b.toNat : Int)) = id := by funext b; simp
    rw [this]
    simp
    rfl
end Go.Proofs.Ytkmeipblgdahoaa.Dv
namespace Go.Proofs.Ytkmeipblgdahoaa.Dv
open Go.RowKit Go.Proofs.YtkmeipblgdahoaaW.PrintWords Go.Proofs.YtkmeipblgdahoaaW.PrintMore Go.Proofs.Ytkmeipblgdahoaa.Base Go.Proofs.Ytkmeipblgdahoaa.Shp
set_option maxRecDepth 100000
set_option linter.unusedVariables false
set_option linter.unusedSimpArgs false
/-- The front of f, then noughts: i bytes of f so far. -/
def front (n i : Nat) (f : List UInt8) : List UInt8 := f.take i ++ List.replicate (n - i) 0
end Go.Proofs.Ytkmeipblgdahoaa.Dv
namespace Go.Proofs.Ytkmeipblgdahoaa.Dv
open Go.RowKit Go.Proofs.YtkmeipblgdahoaaW.PrintWords Go.Proofs.YtkmeipblgdahoaaW.PrintMore Go.Proofs.Ytkmeipblgdahoaa.Base Go.Proofs.Ytkmeipblgdahoaa.Shp
set_option maxRecDepth 100000
set_option linter.unusedVariables false
set_option linter.unusedSimpArgs false
/-- The first i parts turned by F. -/
def upto (F : Nat → Prt → Prt) (i : Nat) (ps : List Prt) : List Prt := (ps.take i).mapIdx F ++ ps.drop i
theorem upto_len (F : Nat → Prt → Prt) (i : Nat) (ps : List Prt) : (upto F i ps).length = ps.length := by
  unfold upto; rw [List.length_append, List.length_mapIdx, List.length_take, List.length_drop]; omega
theorem upto_zero (F : Nat → Prt → Prt) (ps : List Prt) : upto F 0 ps = ps := rfl
theorem upto_all (F : Nat → Prt → Prt) (ps : List Prt) : upto F ps.length ps = ps.mapIdx F := by
  unfold upto; rw [List.take_length, List.drop_length, List.append_nil]
theorem upto_getD (F : Nat → Prt → Prt) {i : Nat} {ps : List Prt} (d : Prt) : (upto F i ps).getD i d = ps.getD i d := by
  unfold upto
  rcases Nat.lt_or_ge i ps.length with h | h
  · rw [List.getD_eq_getElem?_getD, List.getD_eq_getElem?_getD, List.getElem?_append_right (by rw [List.length_mapIdx, List.length_take]; omega), List.getElem?_drop]
    congr 2
    rw [List.length_mapIdx, List.length_take]; omega
  · rw [List.getD_eq_getElem?_getD, List.getD_eq_getElem?_getD, List.getElem?_eq_none (by have := upto_len F i ps; unfold upto at this; omega), List.getElem?_eq_none h]
theorem upto_set (F : Nat → Prt → Prt) {i : Nat} {ps : List Prt} (h : i < ps.length) (d : Prt) : (upto F i ps).set i (F i (ps.getD i d)) = upto F (i + 1) ps := by
  unfold upto
  have hl : ((ps.take i).mapIdx F).length = i := by rw [List.length_mapIdx, List.length_take]; omega
  rw [List.set_append_right _ _ (by omega), hl, Nat.sub_self, List.take_succ_eq_append_getElem h, List.mapIdx_append, List.append_assoc, List.drop_eq_getElem_cons h, List.set_cons_zero, List.length_take, show min i ps.length = i by omega, List.getD_eq_getElem?_getD, List.getElem?_eq_getElem h]
  simp
/-- All is there for good. -/
def fluF (b : Int) (_ : Nat) (p : Prt) : Prt := (p.1, (p.1.length : Int) / b)
theorem pw_frozen_below {w w' : World} (h : Below w.heap.size w w') {p : Addr} (hp : p.block < w.heap.size) {x : Bool} (hc : w.frozen? p = x) : w'.frozen? p = x := by rw [h.frozen hp]; exact hc
/-- How many are durable is written. -/
theorem Dev.lasts {w : World} {xb base : Nat} {ok : Nat → Prop} {z zb b r : Int} {ps : List Prt} {ad : Addr} {n cp : Nat} (h : Dev w xb base ok z zb b r ps (.slice (some ad) n cp)) {j : Nat} (hj : j < ps.length) {p : Prt} (hp : ps.getD j ([], 0) = p) {d : Int} (hd : IsI d) :
    Dev (w.setCell ⟨(ad.add (j * 2)).block, (ad.add (j * 2)).off + 1, none⟩ (.int .i64 d)) xb base ok z zb b r (ps.set j (p.1, d)) (.slice (some ad) n cp) := by
  obtain ⟨ad', cp', B, k, oki, hv, c0, c1, hk, hI, hB, f0, f1, hoa, hax, hal, hR, hoki, -, hdu⟩ := h.part (j := j) hj hp
  obtain ⟨rfl, rfl, rfl⟩ : ad = ad' ∧ n = ps.length ∧ cp = cp' := by simp only [Value.slice.injEq, Option.some.injEq] at hv; exact hv
  exact ⟨blk_far h.blk (by show xb ≠ (ad.add (j * 2)).block; rw [add_block]; exact hax.symm) _, (hdu d hd).1⟩
set_option maxHeartbeats 4000000 in
theorem flush_calls (xb base : Nat) (ok : Nat → Prop) (z zb b r : Int) (hb1 : 0 < b) (hb2 : b ≤ 9223372036854775807) (ps : List Prt) (v : Value) (w : World) (h : Dev w xb base ok z zb b r ps v) :
    Calls Try.prog 50 #[.pointer (some ⟨xb, 0, none⟩)] w fun e w' => e = .returned (.tuple #[]) ∧ Dev w' xb base ok z zb b r (ps.mapIdx (fluF b)) v ∧ Chg w w' ok := by
  have HD := Aside0.mk h
  obtain ⟨-, -, -, -, k4⟩ := h.cells
  obtain ⟨A, m, cp, rfl, hm, hmc, -, hmm⟩ := h.form
  have HM := Aside0.mk hm
  clear h hm
  go_enter Try.func50, Try.ntmps50
  go_wp2
  clear k4
  go_loopg [2, 8] m (fun g v2 v8 wr => ∃ i : Nat, v8 = .int .i64 (i : Int) ∧ i ≤ m ∧ Aside0 (g + i = m) ∧ Aside0 (Dev wr xb base ok z zb b r (upto (fluF b) i ps) (.slice A m cp) ∧ Chg w wr ok))
  case atStart => exact ⟨0, rfl, by omega, ⟨rfl⟩, ⟨by rw [upto_zero]; exact HD.out, Chg.refl _ _⟩⟩
  case round =>
    obtain ⟨i, rfl, hi, HK, HS⟩ := hrel
    by_cases hlt : i < m
    · obtain ⟨p, hp⟩ : ∃ p, ps.getD i ([], 0) = p := ⟨_, rfl⟩
      have HD1 := Aside0.mk HS.out.1
      obtain ⟨-, -, -, -, k4⟩ := HD1.out.cells
      obtain ⟨ad, cp', B, k, oki, hv, c0, c1, hk, hI, hB, f0, f1, hoa, hax, hal, hR, hoki, -, hdu⟩ := HD1.out.part (j := i) (by rw [upto_len, ← HM.out]; exact hlt) ((upto_getD _ _).trans hp)
      obtain ⟨rfl, rfl⟩ : A = some ad ∧ cp = cp' := by simp only [Value.slice.injEq] at hv; exact ⟨hv.1, hv.2.2⟩
      have hpm := (C_len hB).2
      have hab : (ad.add (i * 2)).block = ad.block := add_block _ _
      have hfl : (⟨(ad.add (i * 2)).block, (ad.add (i * 2)).off + 1, none⟩ : Addr).block < wr.heap.size := by show (ad.add (i * 2)).block < _; rw [hab]; exact hal
      have HFL := Aside0.mk hfl
      have HP := Aside0.mk hp
      have HAB := Aside0.mk hab
      have HO := Aside0.mk hoa
      have HX := Aside0.mk hax
      clear hp hv hB hI hR hoki hdu hab hoa hax hal hfl f0 hk
      go_wp2
      go_region_with (go_at_call 53; go_loud (refine (count_calls xb base ok z zb b r hb1 hb2 _ _ B p.1.length k hpm p.2 _ (HD1.out.below (below_drew (Below.refl _ _)))).mono ?_; rintro e w8 ⟨rfl, hw8⟩); go_loud (have k4' := pw_cell_below hw8 k4; have c1' := pw_cell_below hw8 c1; have f1' := pw_frozen_below (w := wr.drew) (p := ⟨(ad.add (i * 2)).block, (ad.add (i * 2)).off + 1, none⟩) hw8 HFL.out f1))
      all_goals
        have HD8 := Aside0.mk (HD1.out.below (Below.trans (below_drew (Below.refl _ _)) hw8))
        have HC8 := Aside0.mk (HS.out.2.below (Below.trans (below_drew (Below.refl _ _)) hw8))
        have HLE := Aside0.mk (show wr.heap.size ≤ w8.heap.size from hw8.size)
        clear k4 c0 c1 f1 k4' c1' f1' hw8
        go_wp2
        go_roundg (gk - 1)
        case measure => have := HK.out; omega
        case rel =>
          refine ⟨i + 1, by congr 1, by omega, ⟨by have := HK.out; omega⟩, ⟨?_, HC8.out.set (.inl (by show ok (ad.add (i * 2)).block; rw [HAB.out]; exact HO.out)) _⟩⟩
          have := HD8.out.lasts (j := i) (by rw [upto_len, ← HM.out]; exact hlt) ((upto_getD _ _).trans HP.out) (d := (p.1.length : Int) / b) ⟨by have := Int.ediv_nonneg (show 0 ≤ (p.1.length : Int) by omega) (show 0 ≤ b by omega); omega, by have := Int.ediv_le_self b (show 0 ≤ (p.1.length : Int) by omega); omega⟩
          rw [show ((p.1, (p.1.length : Int) / b) : Prt) = fluF b i (ps.getD i ([], 0)) by rw [HP.out]; rfl, upto_set _ (by rw [← HM.out]; exact hlt)] at this
          exact this
    · obtain rfl : i = m := by omega
      go_wp2
      go_returns
      exact ⟨rfl, by rw [← upto_all, ← HM.out]; exact HS.out.1, HS.out.2⟩
end Go.Proofs.Ytkmeipblgdahoaa.Dv
namespace Go.Proofs.Ytkmeipblgdahoaa.Dv
open Go.RowKit Go.Proofs.YtkmeipblgdahoaaW.PrintWords Go.Proofs.YtkmeipblgdahoaaW.PrintMore Go.Proofs.Ytkmeipblgdahoaa.Base Go.Proofs.Ytkmeipblgdahoaa.Shp
set_option maxRecDepth 100000
set_option linter.unusedVariables false
set_option linter.unusedSimpArgs false
attribute [local go_sem] max2_mx min2_mn max_two min_two
theorem part_cells {w : World} {g : Nat} {x : Value} {y : Int} (hx : x.oneCell' = true) (h : w.heap[g]? = some (.cells #[x, .int .i64 y] 108 (0, 0))) :
    w.cell? ⟨g, 0, none⟩ = some x ∧ w.cell? ⟨g, 1, none⟩ = some (.int .i64 y) ∧ w.frozen? ⟨g, 0, none⟩ = false ∧ w.frozen? ⟨g, 1, none⟩ = false :=
  ⟨by simp [World.cell?, h], by simp [World.cell?, h], by simp [World.frozen?, h], by simp [World.frozen?, h]⟩
end Go.Proofs.Ytkmeipblgdahoaa.Dv
namespace Go.Proofs.Ytkmeipblgdahoaa.Dv
open Go.RowKit Go.Proofs.YtkmeipblgdahoaaW.PrintWords Go.Proofs.YtkmeipblgdahoaaW.PrintMore Go.Proofs.Ytkmeipblgdahoaa.Base Go.Proofs.Ytkmeipblgdahoaa.Shp
set_option maxRecDepth 100000
set_option linter.unusedVariables false
set_option linter.unusedSimpArgs false
/-- A part is written anew, with bytes of the call's own. -/
theorem Dev.put {W w1 : World} {xb base : Nat} {ok : Nat → Prop} {z zb b r : Int} {ps : List Prt} {ad : Addr} {n cp : Nat} (h : Dev W xb base ok z zb b r ps (.slice (some ad) n cp)) {j : Nat} (hj : j < ps.length) (hb : Below W.heap.size W w1) {v1 : Value} {bs : List UInt8} (hR : Base.Own w1 W.heap.size v1 bs)
    (hok : ∀ k, W.heap.size ≤ k → ok k) {d : Int} (hd : IsI d) :
    Dev ((w1.setCell (ad.add (j * 2)) v1).setCell ⟨(ad.add (j * 2)).block, (ad.add (j * 2)).off + 1, none⟩ (.int .i64 d)) xb base ok z zb b r (ps.set j (bs, d)) (.slice (some ad) n cp) := by
  obtain ⟨ad', cp', B, k, oki, hv, c0, c1, hk, hI, hB, f0, f1, hoa, hax, hal, -, -, -, -⟩ := h.part (j := j) hj rfl
  obtain ⟨rfl, rfl, rfl⟩ : ad = ad' ∧ n = ps.length ∧ cp = cp' := by simp only [Value.slice.injEq, Option.some.injEq] at hv; exact hv
  have hab : (ad.add (j * 2)).block = ad.block := add_block _ _
  refine ⟨blk_far (blk_far (h.below hb).blk (by rw [hab]; exact hax.symm) _) (by show xb ≠ (ad.add (j * 2)).block; rw [hab]; exact hax.symm) _, ?_⟩
  obtain ⟨g, rfl⟩ := Kd.R_head (Kd.S_R h.row)
  obtain ⟨oki, c, hcl, hM, hcc, hfr, hoki, hH⟩ := Kd.S_elem h.row ([], 0) (j : Int) (by omega) (by omega)
  have hs : partK.sz = 2 := rfl
  have ea : (⟨g, 0, none⟩ : Addr).add (j * 2) = ⟨g, j * 2, none⟩ := by rw [add_plain]
  have hbase : base ≤ W.heap.size := Nat.le_trans (Kd.S_base h.row g rfl) (Nat.le_of_lt hal)
  obtain ⟨H2, hg2⟩ := Kd.H_seg (Kd.H_below (Kd.H_widen hH) hb) (by omega) (by omega) (seg := [v1, .int .i64 d]) (j := 0) (by rw [hs]; exact Nat.le_refl 2) (fun q hq => by simp at hq; rcases hq with rfl | rfl; exact (Kd.R_val hR).2; rfl)
  rw [Int.toNat_natCast, hs] at H2 hg2
  rw [ea]
  have es : w1.setCells g (j * 2 + 0) [v1, .int .i64 d] = (w1.setCell ⟨g, j * 2, none⟩ v1).setCell ⟨g, j * 2 + 1, none⟩ (.int .i64 d) := rfl
  rw [es] at H2
  have hdr : c.drop (0 + [v1, Value.int .i64 d].length) = [] := List.drop_eq_nil_of_le (by rw [hcl, hs]; exact Nat.le_refl 2)
  rw [hdr] at H2
  have e1 : (Lit.int .i64 d).wf = true := by
    obtain ⟨d1, d2⟩ := hd
    simp [Lit.wf, IntKind.min, IntKind.max, IntKind.bits, IntKind.signed]
    omega
  have hgk : ∀ k, v1.ownBlock = some k → W.heap.size ≤ k := Kd.R_base hR
  have hne : ∀ k, some k = v1.ownBlock → k ≠ g := fun k hk e => by have := hgk k hk.symm; have : g < W.heap.size := hal; omega
  have := Kd.H_back H2 (x' := (bs, d)) (okp := fun k => some k = v1.ownBlock) ⟨[v1], [.int .i64 d], rfl, ⟨v1, rfl, Kd.R_far (Kd.R_far (Kd.R_lower (Kd.R_tight rfl hR) hbase) hne _) hne _⟩, ⟨rfl, e1⟩⟩ (fun k hk => .inr ⟨hok k (hgk k hk.symm), hgk k hk.symm⟩)
  rwa [Int.toNat_natCast] at this
end Go.Proofs.Ytkmeipblgdahoaa.Dv
namespace Go.Proofs.Ytkmeipblgdahoaa.Dv
open Go.RowKit Go.Proofs.YtkmeipblgdahoaaW.PrintWords Go.Proofs.YtkmeipblgdahoaaW.PrintMore Go.Proofs.Ytkmeipblgdahoaa.Base Go.Proofs.Ytkmeipblgdahoaa.Shp
set_option maxRecDepth 100000
set_option linter.unusedVariables false
set_option linter.unusedSimpArgs false
theorem Dev.tight {w : World} {xb base : Nat} {ok ok' : Nat → Prop} {z zb b r : Int} {ps : List Prt} {v : Value} (h : Dev w xb base ok z zb b r ps v) (hk : ∀ k, ok k → base ≤ k → k < w.heap.size → ok' k) : Dev w xb base ok' z zb b r ps v :=
  ⟨h.blk, Kd.S_mono (Kd.S_bound h.row) (fun k hh => hk k hh.1 hh.2.1 hh.2.2.1)⟩
end Go.Proofs.Ytkmeipblgdahoaa.Dv
namespace Go.Proofs.Ytkmeipblgdahoaa.Dv
set_option maxRecDepth 100000
set_option linter.unusedVariables false
abbrev Pl := (Int × Int) × List UInt8
abbrev pt (ps : List Prt) (i : Int) : Prt := ps.getD i.toNat ([], 0)
def Good (b : Nat) (ps : List Prt) (q : Pl) : Prop :=
  (0 ≤ q.1.1 ∧ q.1.1 < (ps.length : Int)) ∧ (0 ≤ q.1.2 ∧ q.1.2 < ((pt ps q.1.1).1.length : Int) / (b : Int)) ∧ q.2 = ((pt ps q.1.1).1.drop (q.1.2 * (b : Int)).toNat).take b
/-- Zones hold whole blocks, not too many. -/
def Whole (b zb : Nat) (ps : List Prt) : Prop := ∀ p ∈ ps, ∃ c : Nat, c ≤ zb ∧ p.1.length = c * b
theorem Whole.get {b zb : Nat} {ps : List Prt} (h : Whole b zb ps) {i : Nat} (hi : i < ps.length) : ∃ c : Nat, c ≤ zb ∧ (ps.getD i ([], 0)).1.length = c * b := by
  rw [List.getD_eq_getElem?_getD, List.getElem?_eq_getElem hi]; exact h _ (List.getElem_mem _)
end Go.Proofs.Ytkmeipblgdahoaa.Dv
namespace Go.Proofs.Ytkmeipblgdahoaa.Dv
open Go.RowKit Go.Proofs.YtkmeipblgdahoaaW.PrintWords Go.Proofs.YtkmeipblgdahoaaW.PrintMore Go.Proofs.Ytkmeipblgdahoaa.Base Go.Proofs.Ytkmeipblgdahoaa.Shp
set_option maxRecDepth 100000
set_option linter.unusedVariables false
set_option linter.unusedSimpArgs false
def bytesK : Kd (List UInt8) := Kd.slice 5 byte
theorem info_bytes : (Try.prog.info? 39).map (fun i => (i.zero, i.size, i.bytes)) = some (some (.slice none 0 0), 1, 24) := by kernel_rfl
section
variable {ops : Array Oper} {rest : List Oper} {o : Oper} {a : Act} {Q : Exit → Act → World → Prop}
/-- append(v, x): a block. -/
theorem app_blk {W : World} (base : Nat) (E O : Nat → Prop) (s x : Operand) (hgd : o.guard = none) (ho : o.op = .call { callee := .builtin .append, args := #[s, x], argTypes := #[28, 28] })
    (v : Value) (xs : List (List UInt8)) (ys : List UInt8) (A : Option Addr) (n c : Nat) (hp : Kd.FK bytesK W O ys [.slice A n c]) (hO : ∀ k, O k → some k ≠ v.ownBlock) (hs : a.eval s = v) (hx : a.eval x = .slice (some ⟨W.heap.size, 0, none⟩) 1 1)
    (HO : Kd.N bytesK 39 W base E v xs) (hbase : base ≤ W.heap.size) (hl : xs.length ≤ 100000)
    (h : ∀ v1 w1, Kd.N bytesK 39 w1 base (fun k => E k ∨ O k ∨ W.heap.size ≤ k) v1 (xs ++ [ys]) → W.grownBy w1 v.ownBlock → wpList Try.prog ops Q rest (a.put o.dst v1) w1) :
    wpList Try.prog ops Q (o :: rest) a (W.alloc (.cells #[.slice A n c] 39)) :=
  Kd.N_append bytesK (w0 := W) base hgd s x 28 39 _ 24 ho Try.underlying28 info_bytes rfl (by decide) (by decide) v xs ys [.slice A n c] (fun k => E k ∨ O k ∨ W.heap.size ≤ k) O hs hx
    hp (fun k hk => ⟨.inr (.inl hk), hO k hk⟩) (fun k hk => .inr (.inr hk)) (Kd.N_mono HO (fun k hk => .inl hk)) (Below.refl _ _) hbase (by omega) (fun v1 w1 h1 h2 h3 _ => h v1 w1 h1 h3)
end
section
variable {w w1 : World} {xb base : Nat} {z zb b r : Int} {ps ps' : List Prt} {v vp vb vp1 vb1 : Value} {pa pa1 : List (Int × Int)} {ba ba1 : List (List UInt8)} {D P E P1 E1 : Nat → Prop}
end
theorem own_FK {w : World} {base : Nat} {A : Option Addr} {n c : Nat} {xs : List UInt8} (h : Base.Own w base (.slice A n c) xs) : Kd.FK bytesK w (fun k => some k = (Value.slice A n c).ownBlock) xs [.slice A n c] := by
  have hN := Kd.R_N (Kd.R_tight rfl h)
  obtain ⟨hn, hc, _⟩ := Kd.N_reads' hN
  subst hn
  exact Kd.FK_slice_mk hc (Kd.N_F hN)
section
variable {w w1 : World} {xb base : Nat} {z zb b r : Int} {ps ps' : List Prt} {v vp vb vp1 vb1 : Value} {pa pa1 : List (Int × Int)} {ba ba1 : List (List UInt8)} {D P E O : Nat → Prop}
end
section
variable {w4 w w1 : World} {vp vb vp1 vb1 : Value} {pa pa1 : List (Int × Int)} {ba ba1 : List (List UInt8)} {E P2 E2 O : Nat → Prop}
end
end Go.Proofs.Ytkmeipblgdahoaa.Dv
namespace Go.Proofs.Ytkmeipblgdahoaa.Dv
open Go.RowKit Go.Proofs.YtkmeipblgdahoaaW.PrintWords Go.Proofs.YtkmeipblgdahoaaW.PrintMore Go.Proofs.Ytkmeipblgdahoaa.Base Go.Proofs.Ytkmeipblgdahoaa.Shp
set_option maxRecDepth 100000
set_option linter.unusedVariables false
set_option linter.unusedSimpArgs false
/-- A zone: its blocks, how many are durable. -/
abbrev Zn := List (List UInt8) × Int
def blocksK : Kd (List (List UInt8)) := Kd.slice 39 bytesK
def zoneK : Kd Zn := Kd.pair blocksK (num .i64)
structure RDv (w : World) (rb base : Nat) (ok : Nat → Prop) (z zb b r : Int) (zs : List Zn) (v : Value) : Prop where
  blk : w.heap[rb]? = some (.cells #[.int .i64 z, .int .i64 zb, .int .i64 b, .int .i64 r, v] 127 (0, 0))
  row : Kd.N zoneK 77 w base ok v zs
section
variable {w w1 : World} {rb base : Nat} {ok ok' : Nat → Prop} {z zb b r : Int} {zs : List Zn} {v : Value}
theorem RDv.chg (h : RDv w rb base ok z zb b r zs v) {S : Nat → Prop} (hc : Chg w w1 S) (hx : ¬ S rb) (hs : ∀ k, ok k → ¬ S k) : RDv w1 rb base ok z zb b r zs v :=
  ⟨blk_kept h.blk hc.kept hx, Kd.N_kept h.row hc.kept hs⟩
theorem RDv.below (h : RDv w rb base ok z zb b r zs v) (hb : Below w.heap.size w w1) : RDv w1 rb base ok z zb b r zs v :=
  h.chg (Chg.of_below hb (fun _ => False)) (fun h => h) (fun _ _ h => h)
theorem RDv.mono (h : RDv w rb base ok z zb b r zs v) (hk : ∀ k, ok k → k < w.heap.size → ok' k) : RDv w rb base ok' z zb b r zs v :=
  ⟨h.blk, Kd.N_mono (Kd.N_bound h.row) (fun k hh => hk k hh.1 hh.2)⟩
theorem RDv.cells (h : RDv w rb base ok z zb b r zs v) : w.cell? ⟨rb, 0, none⟩ = some (.int .i64 z) ∧ w.cell? ⟨rb, 1, none⟩ = some (.int .i64 zb) ∧ w.cell? ⟨rb, 2, none⟩ = some (.int .i64 b) ∧ w.cell? ⟨rb, 3, none⟩ = some (.int .i64 r) ∧ w.cell? ⟨rb, 4, none⟩ = some v := by
  have := h.blk
  exact ⟨by simp [World.cell?, this], by simp [World.cell?, this], by simp [World.cell?, this], by simp [World.cell?, this], by simp [World.cell?, this]⟩
theorem RDv.xlt (h : RDv w rb base ok z zb b r zs v) : rb < w.heap.size := (Array.getElem?_eq_some_iff.1 h.blk).1
/-- The zones' slice. -/
theorem RDv.form (h : RDv w rb base ok z zb b r zs v) : ∃ A n c, v = .slice A n c ∧ n = zs.length ∧ n ≤ c ∧ n ≤ 9223372036854775807 := by
  obtain ⟨A, c, rfl, h2, h3⟩ := Kd.N_reads h.row
  exact ⟨A, _, c, rfl, rfl, h2, (C_len h3).2⟩
end
theorem zone_K {w : World} {bs : List (List UInt8)} {d : Int} {A : Option Addr} {c : Nat} {ok : Nat → Prop} (hf : Kd.F bytesK w ok A bs.length bs) (hc : bs.length ≤ c) (hd : IsI d) : Kd.FK zoneK w ok (bs, d) [.slice A bs.length c, .int .i64 d] := by
  obtain ⟨d1, d2⟩ := hd
  exact fun W' hW => ⟨[_], [_], rfl, ⟨A, c, rfl, hc, hf W' hW⟩, ⟨rfl, by simp [Lit.wf, IntKind.min, IntKind.max, IntKind.bits, IntKind.signed]; omega⟩⟩
/-- A zone's cells, opened. -/
theorem zone_open {w : World} {p : Zn} {c : List Value} {ok : Nat → Prop} (h : Kd.FK zoneK w ok p c) : ∃ A k, c = [.slice A p.1.length k, .int .i64 p.2] ∧ p.1.length ≤ k ∧ Kd.F bytesK w ok A p.1.length p.1 ∧ IsI p.2 := by
  obtain ⟨c0, c1, rfl, ⟨A, k, rfl, h1, h2⟩, ⟨rfl, h3⟩⟩ := Kd.FK_now h
  refine ⟨A, k, rfl, h1, fun W' hW => ?_, wf_i64 h3⟩
  obtain ⟨c0', c1', e, ⟨A', k', e', h1', h2'⟩, _⟩ := h W' hW
  subst e'
  simp only [List.cons_append, List.nil_append, List.cons.injEq, Value.slice.injEq] at e
  obtain ⟨⟨rfl, _, rfl⟩, _⟩ := e
  exact h2'
/-- A zone: where it lies; what the row is once it was written. -/
theorem RDv.zone {w : World} {rb base : Nat} {ok : Nat → Prop} {z zb b r : Int} {zs : List Zn} {v : Value} (h : RDv w rb base ok z zb b r zs v) {j : Nat} (hj : j < zs.length) {p : Zn} (hp : zs.getD j ([], 0) = p) :
    ∃ ad cp A k, v = .slice (some ad) zs.length cp ∧ w.cell? (ad.add (j * 2)) = some (.slice A p.1.length k) ∧ w.cell? ⟨(ad.add (j * 2)).block, (ad.add (j * 2)).off + 1, none⟩ = some (.int .i64 p.2) ∧ p.1.length ≤ k ∧ IsI p.2 ∧ Kd.F bytesK w (fun k => ok k ∧ k ≠ ad.block) A p.1.length p.1 ∧
      w.frozen? (ad.add (j * 2)) = false ∧ w.frozen? ⟨(ad.add (j * 2)).block, (ad.add (j * 2)).off + 1, none⟩ = false ∧ ok ad.block ∧ ad.block ≠ rb ∧ ad.block < w.heap.size ∧
      (∀ (w1 : World) (A1 : Option Addr) (c1 : Nat) (bs : List (List UInt8)) (okp : Nat → Prop), Below w.heap.size w w1 → Kd.F bytesK w1 okp A1 bs.length bs → bs.length ≤ c1 → (∀ k, okp k → ok k ∧ k ≠ ad.block) →
        RDv (w1.setCell (ad.add (j * 2)) (.slice A1 bs.length c1)) rb base ok z zb b r (zs.set j (bs, p.2)) v) ∧
      (∀ d : Int, IsI d → RDv (w.setCell ⟨(ad.add (j * 2)).block, (ad.add (j * 2)).off + 1, none⟩ (.int .i64 d)) rb base ok z zb b r (zs.set j (p.1, d)) v) ∧
      (∀ (w1 : World) (A1 : Option Addr) (c1 : Nat) (bs : List (List UInt8)) (d : Int) (okp : Nat → Prop), Below w.heap.size w w1 → IsI d → Kd.F bytesK w1 okp A1 bs.length bs → bs.length ≤ c1 → (∀ k, okp k → ok k ∧ k ≠ ad.block) →
        RDv ((w1.setCell (ad.add (j * 2)) (.slice A1 bs.length c1)).setCell ⟨(ad.add (j * 2)).block, (ad.add (j * 2)).off + 1, none⟩ (.int .i64 d)) rb base ok z zb b r (zs.set j (bs, d)) v) := by
  obtain ⟨g, cp, hv, hbg, hgl, cells, hcells⟩ := Kd.N_form h.row (by omega)
  subst hv
  have hgo : ok g := h.row.1 g (by simp [Value.ownBlock])
  have hgx : g ≠ rb := by
    intro e
    rw [e, h.blk] at hcells
    simp at hcells
  have hs : zoneK.sz = 2 := rfl
  have ea : (⟨g, 0, none⟩ : Addr).add (j * 2) = ⟨g, j * 2, none⟩ := by rw [add_plain]
  obtain ⟨c, hcl, hM, hcc, hfr⟩ := Kd.N_elem h.row ([], 0) (j : Int) (by omega) (by omega)
  rw [Int.toNat_natCast] at hM hcc hfr
  rw [hs] at hcc hfr hcl
  rw [hp] at hM
  obtain ⟨A, k, rfl, h1, h2, h3⟩ := zone_open hM
  have put : ∀ (w1 : World) (A1 : Option Addr) (c1 : Nat) (bs : List (List UInt8)) (d : Int) (okp : Nat → Prop), Below w.heap.size w w1 → IsI d → Kd.F bytesK w1 okp A1 bs.length bs → bs.length ≤ c1 → (∀ k, okp k → ok k ∧ k ≠ g) →
      RDv ((w1.setCell (((⟨g, 0, none⟩ : Addr)).add (j * 2)) (.slice A1 bs.length c1)).setCell ⟨((⟨g, 0, none⟩ : Addr).add (j * 2)).block, ((⟨g, 0, none⟩ : Addr).add (j * 2)).off + 1, none⟩ (.int .i64 d)) rb base ok z zb b r (zs.set j (bs, d)) (.slice (some ⟨g, 0, none⟩) zs.length cp) := by
    intro w1 A1 c1 bs d okp hb hd hf hc hok
    have h' := h.below hb
    obtain ⟨cc, hcl', _, hcc', _⟩ := Kd.N_elem h'.row ([], 0) (j : Int) (by omega) (by omega)
    have := (Kd.N_seg h'.row (j : Int) (by omega) (by omega) (c := cc) (seg := [.slice A1 bs.length c1, .int .i64 d]) (j := 0) hcl' hcc' (by rw [hs]; exact Nat.le_refl 2) (x' := (bs, d)) (okp := okp) (by
      rw [List.take_zero, List.nil_append, List.drop_eq_nil_of_le (by rw [hcl', hs]; exact Nat.le_refl 2), List.append_nil]
      exact zone_K hf hc hd) hok).1
    rw [Int.toNat_natCast, hs] at this
    rw [ea]
    exact ⟨blk_far (blk_far h'.blk hgx.symm _) hgx.symm _, this⟩
  refine ⟨⟨g, 0, none⟩, cp, A, k, rfl, ?_, ?_, h1, h3, h2, ?_, ?_, hgo, hgx, hgl, ?_, ?_, put⟩
  · rw [ea]; exact hcc 0 _ rfl
  · rw [ea]; exact hcc 1 _ rfl
  · rw [ea]; exact hfr 0
  · rw [ea]; exact hfr 1
  · rw [ea]
    intro w1 A1 c1 bs okp hb hf hc hok
    have h' := h.below hb
    have := (Kd.N_seg h'.row (j : Int) (by omega) (by omega) (c := [.slice A p.1.length k, .int .i64 p.2]) (seg := [.slice A1 bs.length c1]) (j := 0) (by rw [hs]; rfl) (fun i u hu => by
        rw [Int.toNat_natCast, hs]
        exact (pw_cell_below hb (hcc i u hu))) (by rw [hs]; exact Nat.le_succ 1) (x' := (bs, p.2)) (okp := okp) (zone_K hf hc h3) hok).1
    rw [Int.toNat_natCast, hs] at this
    exact ⟨blk_far h'.blk hgx.symm _, this⟩
  · rw [ea]
    intro d hd
    have := (Kd.N_seg h.row (j : Int) (by omega) (by omega) (c := [.slice A p.1.length k, .int .i64 p.2]) (seg := [.int .i64 d]) (j := 1) (by rw [hs]; rfl) (fun i u hu => by
        rw [Int.toNat_natCast, hs]
        exact hcc i u hu) (by rw [hs]; exact Nat.le_refl 2) (x' := (p.1, d)) (okp := fun k => ok k ∧ k ≠ g) (zone_K h2 h1 hd) (fun k hk => hk)).1
    rw [Int.toNat_natCast, hs] at this
    exact ⟨blk_far h.blk hgx.symm _, this⟩
end Go.Proofs.Ytkmeipblgdahoaa.Dv
namespace Go.Proofs.Ytkmeipblgdahoaa.Dv
open Go.RowKit Go.Proofs.YtkmeipblgdahoaaW.PrintWords Go.Proofs.YtkmeipblgdahoaaW.PrintMore Go.Proofs.Ytkmeipblgdahoaa.Base Go.Proofs.Ytkmeipblgdahoaa.Shp
set_option maxRecDepth 100000
set_option linter.unusedVariables false
set_option linter.unusedSimpArgs false
theorem info_zone : (Try.prog.info? 77).map (fun i => (i.zero, i.size, i.bytes)) = some (some (.agg #[.slice none 0 0, .int .i64 0]), 2, 32) := by kernel_rfl
theorem lent_calls (A : Option Addr) (n cap : Nat) (xs : List UInt8) (hn : n ≤ 140737488355328) (w : World) (h : byte.C w A n xs) :
    Calls Try.prog 77 #[.slice A n cap] w fun e w' => ∃ v, e = .returned v ∧ Base.Own w' w.heap.size v xs ∧ Below w.heap.size w w' := by
  have H := Aside0.mk h
  clear h
  go_enter Try.func77, Try.ntmps77
  go_wp2_with (at_builtin; refine app_row (w0 := w) w.heap.size (.tmp 4) (.tmp 5) rfl rfl _ [] xs A n cap rfl rfl (Base.Own.nil _ _) H.out (Below.refl _ _) (Nat.le_refl _) (by simp; omega) ?_; intro v1 w1 hO hB _; have HO1 := Aside0.mk hO; have HB1 := Aside0.mk hB; clear hO hB)
  go_ret
  exact ⟨_, rfl, HO1.out, HB1.out⟩
end Go.Proofs.Ytkmeipblgdahoaa.Dv
namespace Go.Proofs.Ytkmeipblgdahoaa.Dv
open Go.RowKit Go.Proofs.YtkmeipblgdahoaaW.PrintWords Go.Proofs.YtkmeipblgdahoaaW.PrintMore Go.Proofs.Ytkmeipblgdahoaa.Base Go.Proofs.Ytkmeipblgdahoaa.Shp
set_option maxRecDepth 100000
set_option linter.unusedVariables false
set_option linter.unusedSimpArgs false
def RResR (zs : List Zn) (i : Int) (e : Ending) (zs' : List Zn) : Prop := (hasB zs.length i = false ∧ e = .returned (.int .i64 100) ∧ zs' = zs) ∨ (hasB zs.length i = true ∧ e = .returned (.int .i64 0) ∧ zs' = zs.set i.toNat ([], 0))
theorem F_nil (w : World) (ok : Nat → Prop) : Kd.F bytesK w ok none ([] : List (List UInt8)).length [] := fun W' _ => ⟨rfl, by simp, fun h => by simp at h⟩
set_option maxHeartbeats 1000000 in
theorem rreset_calls (rb base : Nat) (ok : Nat → Prop) (z zb b r : Int) (zs : List Zn) (v : Value) (i : Int) (hi : IsI i) (w : World) (h : RDv w rb base ok z zb b r zs v) :
    Calls Try.prog 60 #[.pointer (some ⟨rb, 0, none⟩), .int .i64 i] w fun e w' => ∃ zs', RResR zs i e zs' ∧ RDv w' rb base ok z zb b r zs' v ∧ Chg w w' ok := by
  have HD := Aside0.mk h
  obtain ⟨hi1, hi2⟩ := hi
  obtain ⟨-, -, -, -, k4⟩ := h.cells
  obtain ⟨A, m, cp, rfl, hm, hmc, hmm⟩ := h.form
  have HM := Aside0.mk hm
  clear h hm
  by_cases h0 : 0 ≤ i
  · by_cases h1 : i < (m : Int)
    · have HH := Aside0.mk (show hasB zs.length i = true from hasB_true h0 (by rw [← HM.out]; exact h1))
      obtain ⟨j, rfl⟩ : ∃ j : Nat, i = (j : Int) := ⟨i.toNat, by omega⟩
      obtain ⟨p, hp⟩ : ∃ p, zs.getD j ([], 0) = p := ⟨_, rfl⟩
      obtain ⟨ad, cp', B, k, hv, c0, c1, hk, hI, hF, f0, f1, hoa, hax, hal, -, -, hput⟩ := HD.out.zone (j := j) (by rw [← HM.out]; omega) hp
      obtain ⟨rfl, rfl⟩ : A = some ad ∧ cp = cp' := by simp only [Value.slice.injEq] at hv; exact ⟨hv.1, hv.2.2⟩
      have HPUT := Aside0.mk (hput w none 0 [] 0 (fun _ => False) (Below.refl _ _) ⟨by omega, by omega⟩ (F_nil _ _) (Nat.le_refl _) (fun _ h => h.elim))
      have hn1 : ad.add (j * 2) ≠ ⟨(ad.add (j * 2)).block, (ad.add (j * 2)).off + 1, none⟩ := fun e => by have := congrArg Addr.off e; simp at this
      have hn2 := hn1.symm
      have HO := Aside0.mk hoa
      have hd1 : decide ((j : Int) < 0) = false := decide_eq_false (by omega)
      have hd2 : decide ((m : Int) ≤ (j : Int)) = false := decide_eq_false (by omega)
      have hd3 : decide (m ≤ j) = false := decide_eq_false (by omega)
      clear hp hv hI hF hoa hax hal hput hk
      go_enter Try.func60, Try.ntmps60
      go_wp2
      go_ret
      have hab : (ad.add (j * 2)).block = ad.block := add_block _ _
      exact ⟨zs.set j ([], 0), .inr ⟨HH.out, rfl, by rw [Int.toNat_natCast]⟩, HPUT.out, ((Chg.refl _ _).set (.inl (by rw [hab]; exact HO.out)) _).set (.inl (by show ok (ad.add (j * 2)).block; rw [hab]; exact HO.out)) _⟩
    · have HH := Aside0.mk (show hasB zs.length i = false from hasB_false (fun h => h1 (by rw [HM.out]; exact h.2)))
      have hd1 : decide (i < 0) = false := decide_eq_false (by omega)
      have hd2 : decide ((m : Int) ≤ i) = true := decide_eq_true (by omega)
      go_enter Try.func60, Try.ntmps60
      go_wp2
      go_ret
      exact ⟨zs, .inl ⟨HH.out, rfl, rfl⟩, HD.out, Chg.refl _ _⟩
  · have HH := Aside0.mk (show hasB zs.length i = false from hasB_false (fun h => h0 h.1))
    have hd1 : decide (i < 0) = true := decide_eq_true (by omega)
    go_enter Try.func60, Try.ntmps60
    go_wp2
    go_ret
    exact ⟨zs, .inl ⟨HH.out, rfl, rfl⟩, HD.out, Chg.refl _ _⟩
def RAtR (zs : List Zn) (i : Int) (e : Ending) : Prop := (hasB zs.length i = false ∧ e = .returned (.tuple #[.int .i64 0, .int .i64 0])) ∨ (hasB zs.length i = true ∧ e = .returned (.tuple #[.int .i64 (((zs.getD i.toNat ([], 0)).1.length : Nat) : Int), .int .i64 (zs.getD i.toNat ([], 0)).2]))
set_option maxHeartbeats 1000000 in
theorem rat_calls (rb base : Nat) (ok : Nat → Prop) (z zb b r : Int) (zs : List Zn) (v : Value) (i : Int) (hi : IsI i) (w : World) (h : RDv w rb base ok z zb b r zs v) :
    Calls Try.prog 57 #[.pointer (some ⟨rb, 0, none⟩), .int .i64 i] w fun e w' => RAtR zs i e ∧ Below w.heap.size w w' := by
  have HD := Aside0.mk h
  obtain ⟨hi1, hi2⟩ := hi
  obtain ⟨-, -, -, -, k4⟩ := h.cells
  obtain ⟨A, m, cp, rfl, hm, hmc, hmm⟩ := h.form
  have HM := Aside0.mk hm
  clear h hm
  by_cases h0 : 0 ≤ i
  · by_cases h1 : i < (m : Int)
    · have HH := Aside0.mk (show hasB zs.length i = true from hasB_true h0 (by rw [← HM.out]; exact h1))
      obtain ⟨j, rfl⟩ : ∃ j : Nat, i = (j : Int) := ⟨i.toNat, by omega⟩
      obtain ⟨p, hp⟩ : ∃ p, zs.getD j ([], 0) = p := ⟨_, rfl⟩
      obtain ⟨ad, cp', B, k, hv, c0, c1, hk, hI, hF, -, -, -, -, -, -, -, -⟩ := HD.out.zone (j := j) (by rw [← HM.out]; omega) hp
      obtain ⟨rfl, rfl⟩ : A = some ad ∧ cp = cp' := by simp only [Value.slice.injEq] at hv; exact ⟨hv.1, hv.2.2⟩
      have hpm := (C_len (Kd.F_now hF)).2
      have HP := Aside0.mk hp
      have hd1 : decide ((j : Int) < 0) = false := decide_eq_false (by omega)
      have hd2 : decide ((m : Int) ≤ (j : Int)) = false := decide_eq_false (by omega)
      have hd3 : decide (m ≤ j) = false := decide_eq_false (by omega)
      clear hp hv hI hF hk
      go_enter Try.func57, Try.ntmps57
      go_wp2
      go_quiet (fail)
      have HB := Aside0.mk (pw_below_drewN (Below.refl w.heap.size w) nq)
      go_wp2
      go_ret2
      exact ⟨.inr ⟨HH.out, by rw [Int.toNat_natCast, HP.out]; rfl⟩, HB.out⟩
    · have HH := Aside0.mk (show hasB zs.length i = false from hasB_false (fun h => h1 (by rw [HM.out]; exact h.2)))
      have hd1 : decide (i < 0) = false := decide_eq_false (by omega)
      have hd2 : decide ((m : Int) ≤ i) = true := decide_eq_true (by omega)
      go_enter Try.func57, Try.ntmps57
      go_wp2
      go_ret2
      exact ⟨.inl ⟨HH.out, rfl⟩, Below.refl _ _⟩
  · have HH := Aside0.mk (show hasB zs.length i = false from hasB_false (fun h => h0 h.1))
    have hd1 : decide (i < 0) = true := decide_eq_true (by omega)
    go_enter Try.func57, Try.ntmps57
    go_wp2
    go_ret2
    exact ⟨.inl ⟨HH.out, rfl⟩, Below.refl _ _⟩
end Go.Proofs.Ytkmeipblgdahoaa.Dv
namespace Go.Proofs.Ytkmeipblgdahoaa.Dv
open Go.RowKit Go.Proofs.YtkmeipblgdahoaaW.PrintWords Go.Proofs.YtkmeipblgdahoaaW.PrintMore Go.Proofs.Ytkmeipblgdahoaa.Base Go.Proofs.Ytkmeipblgdahoaa.Shp
set_option maxRecDepth 100000
set_option linter.unusedVariables false
set_option linter.unusedSimpArgs false
/-- The first i elements turned by F. -/
def zupto (F : Nat → Zn → Zn) (i : Nat) (ps : List Zn) : List Zn := (ps.take i).mapIdx F ++ ps.drop i
theorem zupto_len (F : Nat → Zn → Zn) (i : Nat) (ps : List Zn) : (zupto F i ps).length = ps.length := by
  unfold zupto; rw [List.length_append, List.length_mapIdx, List.length_take, List.length_drop]; omega
theorem zupto_zero (F : Nat → Zn → Zn) (ps : List Zn) : zupto F 0 ps = ps := rfl
theorem zupto_all (F : Nat → Zn → Zn) (ps : List Zn) : zupto F ps.length ps = ps.mapIdx F := by
  unfold zupto; rw [List.take_length, List.drop_length, List.append_nil]
theorem zupto_getD (F : Nat → Zn → Zn) {i : Nat} {ps : List Zn} (d : Zn) : (zupto F i ps).getD i d = ps.getD i d := by
  unfold zupto
  rcases Nat.lt_or_ge i ps.length with h | h
  · rw [List.getD_eq_getElem?_getD, List.getD_eq_getElem?_getD, List.getElem?_append_right (by rw [List.length_mapIdx, List.length_take]; omega), List.getElem?_drop]
    congr 2
    rw [List.length_mapIdx, List.length_take]; omega
  · rw [List.getD_eq_getElem?_getD, List.getD_eq_getElem?_getD, List.getElem?_eq_none (by have := zupto_len F i ps; unfold zupto at this; omega), List.getElem?_eq_none h]
theorem zupto_set (F : Nat → Zn → Zn) {i : Nat} {ps : List Zn} (h : i < ps.length) (d : Zn) : (zupto F i ps).set i (F i (ps.getD i d)) = zupto F (i + 1) ps := by
  unfold zupto
  have hl : ((ps.take i).mapIdx F).length = i := by rw [List.length_mapIdx, List.length_take]; omega
  rw [List.set_append_right _ _ (by omega), hl, Nat.sub_self, List.take_succ_eq_append_getElem h, List.mapIdx_append, List.append_assoc, List.drop_eq_getElem_cons h, List.set_cons_zero, List.length_take, show min i ps.length = i by omega, List.getD_eq_getElem?_getD, List.getElem?_eq_getElem h]
  simp
def rfluF (_ : Nat) (p : Zn) : Zn := (p.1, ((p.1.length : Nat) : Int))
set_option maxHeartbeats 4000000 in
theorem rflush_calls (rb base : Nat) (ok : Nat → Prop) (z zb b r : Int) (zs : List Zn) (v : Value) (w : World) (h : RDv w rb base ok z zb b r zs v) :
    Calls Try.prog 62 #[.pointer (some ⟨rb, 0, none⟩)] w fun e w' => e = .returned (.tuple #[]) ∧ RDv w' rb base ok z zb b r (zs.mapIdx rfluF) v ∧ Chg w w' ok := by
  have HD := Aside0.mk h
  obtain ⟨A, m, cp, rfl, hm, hmc, hmm⟩ := h.form
  have HM := Aside0.mk hm
  clear h hm
  go_enter Try.func62, Try.ntmps62
  go_wp2
  go_loopg [2] m (fun g v2 wr => ∃ i : Nat, v2 = .int .i64 (i : Int) ∧ i ≤ m ∧ Aside0 (g + i = m) ∧ Aside0 (RDv wr rb base ok z zb b r (zupto rfluF i zs) (.slice A m cp) ∧ Chg w wr ok))
  case atStart => exact ⟨0, rfl, by omega, ⟨rfl⟩, ⟨by rw [zupto_zero]; exact HD.out, Chg.refl _ _⟩⟩
  case round =>
    obtain ⟨i, rfl, hi, HK, HS⟩ := hrel
    obtain ⟨-, -, -, -, k4⟩ := HS.out.1.cells
    by_cases hlt : i < m
    · obtain ⟨p, hp⟩ : ∃ p, zs.getD i ([], 0) = p := ⟨_, rfl⟩
      obtain ⟨ad, cp', B, k, hv, c0, c1, hk, hI, hF, f0, f1, hoa, hax, hal, -, hdu, -⟩ := HS.out.1.zone (j := i) (by rw [zupto_len, ← HM.out]; exact hlt) ((zupto_getD _ _).trans hp)
      obtain ⟨rfl, rfl⟩ : A = some ad ∧ cp = cp' := by simp only [Value.slice.injEq] at hv; exact ⟨hv.1, hv.2.2⟩
      have hpm := (C_len (Kd.F_now hF)).2
      have hab : (ad.add (i * 2)).block = ad.block := add_block _ _
      have HDU := Aside0.mk (hdu ((p.1.length : Nat) : Int) ⟨by omega, by omega⟩)
      have HP := Aside0.mk hp
      have HAB := Aside0.mk hab
      have HO := Aside0.mk hoa
      have hlt' : (i : Int) < (m : Int) := by omega
      have hi0 : (0 : Int) ≤ (i : Int) := by omega
      clear hp hv hI hF hdu hab hoa hax hal hk f0
      go_wp2
      go_region
      all_goals
        clear k4 c0 c1 f1
        go_wp2
        go_roundg (gk - 1)
        case measure => have := HK.out; omega
        case rel =>
          refine ⟨i + 1, by congr 1, by omega, ⟨by have := HK.out; omega⟩, ⟨?_, (HS.out.2.set (.inl (by show ok (ad.add (i * 2)).block; rw [HAB.out]; exact HO.out)) _).below (below_drew (Below.refl _ _))⟩⟩
          have := HDU.out
          rw [show ((p.1, ((p.1.length : Nat) : Int)) : Zn) = rfluF i (zs.getD i ([], 0)) by rw [HP.out]; rfl, zupto_set _ (by rw [← HM.out]; exact hlt)] at this
          exact this.below (below_drew (Below.refl _ _))
    · obtain rfl : i = m := by omega
      go_wp2
      go_returns
      exact ⟨rfl, by rw [← zupto_all, ← HM.out]; exact HS.out.1, HS.out.2⟩
end Go.Proofs.Ytkmeipblgdahoaa.Dv
namespace Go.Proofs.Ytkmeipblgdahoaa.Dv
open Go.RowKit Go.Proofs.YtkmeipblgdahoaaW.PrintWords Go.Proofs.YtkmeipblgdahoaaW.PrintMore Go.Proofs.Ytkmeipblgdahoaa.Base Go.Proofs.Ytkmeipblgdahoaa.Shp
set_option maxRecDepth 100000
set_option linter.unusedVariables false
set_option linter.unusedSimpArgs false
def RReadR (zs : List Zn) (zi bi : Int) (er : Int) (bs : List UInt8) : Prop :=
  (hasB zs.length zi = false ∧ er = 100 ∧ bs = []) ∨
  (hasB zs.length zi = true ∧ ¬ (0 ≤ bi ∧ bi < (((zs.getD zi.toNat ([], 0)).1.length : Nat) : Int)) ∧ er = 102 ∧ bs = []) ∨
  (hasB zs.length zi = true ∧ (0 ≤ bi ∧ bi < (((zs.getD zi.toNat ([], 0)).1.length : Nat) : Int)) ∧ er = 0 ∧ bs = (zs.getD zi.toNat ([], 0)).1.getD bi.toNat [])
def RReadP (w w' : World) (zs : List Zn) (zi bi : Int) (e : Ending) : Prop := ∃ u er bs, e = .returned (.tuple #[u, .int .i64 er]) ∧ RReadR zs zi bi er bs ∧ Base.Own w' w.heap.size u bs
set_option maxHeartbeats 4000000 in
theorem rread_calls (rb base : Nat) (ok : Nat → Prop) (z zb b r : Int) (zs : List Zn) (v : Value) (zi bi : Int) (hzi : IsI zi) (hbi : IsI bi) (w : World) (h : RDv w rb base ok z zb b r zs v) (hsz : ∀ p ∈ zs, ∀ x ∈ p.1, x.length ≤ 100000000) :
    Calls Try.prog 58 #[.pointer (some ⟨rb, 0, none⟩), .agg #[.int .i64 zi, .int .i64 bi]] w fun e w' => RReadP w w' zs zi bi e ∧ Below w.heap.size w w' := by
  have HA := Aside0.mk (alloc_below w (.cells #[.int .i64 zi, .int .i64 bi] 59))
  have HD := Aside0.mk (h.below HA.out)
  obtain ⟨A, m, cp, rfl, hm, hmc, hmm⟩ := h.form
  obtain ⟨hz1, hz2⟩ := hzi
  obtain ⟨hb1, hb2⟩ := hbi
  have HM := Aside0.mk hm
  have HSZ := Aside0.mk hsz
  obtain ⟨-, -, -, -, k4⟩ := HD.out.cells
  have d0 : (w.alloc (.cells #[.int .i64 zi, .int .i64 bi] 59)).cell? ⟨w.heap.size, 0, none⟩ = some (.int .i64 zi) := by go_simp
  have d1 : (w.alloc (.cells #[.int .i64 zi, .int .i64 bi] 59)).cell? ⟨w.heap.size, 1, none⟩ = some (.int .i64 bi) := by go_simp
  clear h hm hsz
  by_cases h0 : 0 ≤ zi
  · by_cases h1 : zi < (m : Int)
    · have HH := Aside0.mk (show hasB zs.length zi = true from hasB_true h0 (by rw [← HM.out]; exact h1))
      obtain ⟨j, rfl⟩ : ∃ j : Nat, zi = (j : Int) := ⟨zi.toNat, by omega⟩
      obtain ⟨p, hp⟩ : ∃ p, zs.getD j ([], 0) = p := ⟨_, rfl⟩
      obtain ⟨ad, cp', B, k, hv, c0, c1, hk, hI, hF, -, -, -, -, -, -, -, -⟩ := HD.out.zone (j := j) (by rw [← HM.out]; omega) hp
      obtain ⟨rfl, rfl⟩ : A = some ad ∧ cp = cp' := by simp only [Value.slice.injEq] at hv; exact ⟨hv.1, hv.2.2⟩
      have HF := Aside0.mk (Kd.F_now hF)
      have hpm := (C_len HF.out).2
      have HP := Aside0.mk hp
      have hd1 : decide ((j : Int) < 0) = false := decide_eq_false (by omega)
      have hd2 : decide ((m : Int) ≤ (j : Int)) = false := decide_eq_false (by omega)
      have hd3 : decide (m ≤ j) = false := decide_eq_false (by omega)
      clear hp hv hI hF hk c1
      by_cases hb0 : 0 ≤ bi
      · obtain ⟨q, rfl⟩ : ∃ q : Nat, bi = (q : Int) := ⟨bi.toNat, by omega⟩
        by_cases hbl : q < p.1.length
        · obtain ⟨pb, A0, k0, rfl, e0, hk0, hC0⟩ := bytes_at HF.out q hbl
          have HCB := Aside0.mk hC0
          have hxl : (p.1.getD q []).length ≤ 100000000 := HSZ.out p (by rw [← HP.out, List.getD_eq_getElem?_getD, List.getElem?_eq_getElem (show j < zs.length by rw [← HM.out]; omega)]; exact List.getElem_mem _) _ (by rw [List.getD_eq_getElem?_getD, List.getElem?_eq_getElem hbl]; exact List.getElem_mem _)
          obtain ⟨x, hx⟩ : ∃ x, p.1.getD q [] = x := ⟨_, rfl⟩
          rw [hx] at e0 hk0 HCB hxl
          have HXX := Aside0.mk hx
          have hd4 : decide ((q : Int) < 0) = false := decide_eq_false (by omega)
          have hd5 : decide ((p.1.length : Int) ≤ (q : Int)) = false := decide_eq_false (by omega)
          have hd6 : decide (p.1.length ≤ q) = false := decide_eq_false (by omega)
          clear hx hC0
          go_enter Try.func58, Try.ntmps58
          go_wp2
          obtain ⟨W, hW⟩ : ∃ W, w.alloc (.cells #[.int .i64 (j : Int), .int .i64 (q : Int)] 59) = W := ⟨_, rfl⟩
          obtain ⟨g, hg⟩ : ∃ g, w.heap.size = g := ⟨_, rfl⟩
          rw [hW] at HD HA HCB c0 k4 d0 d1 e0 ⊢
          rw [hg] at d0 d1 ⊢
          clear hW hg
          go_quiet (fail)
          have HA2 := Aside0.mk (pw_below_drewN HA.out nq)
          have HCB := Aside0.mk (Kd.C_below HCB.out (pw_below_drewN (Below.refl _ _) nq))
          have c0 := pw_cell_below (pw_below_drewN (Below.refl W.heap.size W) nq) c0
          have k4 := pw_cell_below (pw_below_drewN (Below.refl W.heap.size W) nq) k4
          have d0 := pw_cell_below (pw_below_drewN (Below.refl W.heap.size W) nq) d0
          have d1 := pw_cell_below (pw_below_drewN (Below.refl W.heap.size W) nq) d1
          have e0 := pw_cell_below (pw_below_drewN (Below.refl W.heap.size W) nq) e0
          generalize W.drewN nq = W2 at *
          go_wp2
          go_quiet (fail)
          have HA3 := Aside0.mk (pw_below_drewN HA2.out nq)
          have HCB := Aside0.mk (Kd.C_below HCB.out (pw_below_drewN (Below.refl _ _) nq))
          have c0 := pw_cell_below (pw_below_drewN (Below.refl W2.heap.size W2) nq) c0
          have k4 := pw_cell_below (pw_below_drewN (Below.refl W2.heap.size W2) nq) k4
          have d0 := pw_cell_below (pw_below_drewN (Below.refl W2.heap.size W2) nq) d0
          have d1 := pw_cell_below (pw_below_drewN (Below.refl W2.heap.size W2) nq) d1
          have e0 := pw_cell_below (pw_below_drewN (Below.refl W2.heap.size W2) nq) e0
          generalize W2.drewN nq = W3 at *
          go_wp2
          go_region_held3 (fun w' => w'.cell? ⟨rb, 4, none⟩ = some (.slice (some ad) m cp) ∧ w'.cell? ⟨g, 0, none⟩ = some (.int .i64 (j : Int)) ∧ w'.cell? ⟨g, 1, none⟩ = some (.int .i64 (q : Int)) ∧ w'.cell? (ad.add (j * 2)) = some (.slice (some pb) p.1.length k) ∧ w'.cell? (pb.add q) = some (.slice A0 x.length k0))
            (first | exact ⟨k4, d0, d1, c0, e0⟩ | exact ⟨pw_cell_below hw8 k4, pw_cell_below hw8 d0, pw_cell_below hw8 d1, pw_cell_below hw8 c0, pw_cell_below hw8 e0⟩)
            (first | (go_at_call 77; (with_reducible refine (lent_calls A0 x.length k0 x (by omega) _ (Kd.C_below HCB.out (below_drew (Below.refl _ _)))).mono ?_); rintro e w8 ⟨v8, rfl, hO8, hw8⟩))
          go_wp2
          go_ret2
          have hsz := HA3.out.size
          exact ⟨⟨v8, 0, x, rfl, .inr (.inr ⟨HH.out, by rw [Int.toNat_natCast, HP.out]; exact ⟨by omega, by omega⟩, rfl, by rw [Int.toNat_natCast, Int.toNat_natCast, HP.out, HXX.out]⟩), Kd.R_lower hO8 (show w.heap.size ≤ W3.drew.heap.size from hsz)⟩, HA3.out.trans ((below_drew (Below.refl _ _)).trans hw8 |>.mono hsz)⟩
        · have HBL := Aside0.mk hbl
          have hd4 : decide ((q : Int) < 0) = false := decide_eq_false (by omega)
          have hd5 : decide ((p.1.length : Int) ≤ (q : Int)) = true := decide_eq_true (by omega)
          have hd6 : decide (p.1.length ≤ q) = true := decide_eq_true (by omega)
          go_enter Try.func58, Try.ntmps58
          go_wp2
          obtain ⟨W, hW⟩ : ∃ W, w.alloc (.cells #[.int .i64 (j : Int), .int .i64 (q : Int)] 59) = W := ⟨_, rfl⟩
          obtain ⟨g, hg⟩ : ∃ g, w.heap.size = g := ⟨_, rfl⟩
          rw [hW] at HD HA c0 k4 d0 d1 ⊢
          rw [hg] at d0 d1 ⊢
          clear hW hg
          go_quiet (fail)
          have HA2 := Aside0.mk (pw_below_drewN HA.out nq)
          have c0 := pw_cell_below (pw_below_drewN (Below.refl W.heap.size W) nq) c0
          have k4 := pw_cell_below (pw_below_drewN (Below.refl W.heap.size W) nq) k4
          have d0 := pw_cell_below (pw_below_drewN (Below.refl W.heap.size W) nq) d0
          have d1 := pw_cell_below (pw_below_drewN (Below.refl W.heap.size W) nq) d1
          generalize W.drewN nq = W2 at *
          go_wp2
          go_quiet (fail)
          have HA3 := Aside0.mk (pw_below_drewN HA2.out nq)
          go_wp2
          go_ret2
          exact ⟨⟨_, 102, [], rfl, .inr (.inl ⟨HH.out, by rw [Int.toNat_natCast, HP.out]; have := HBL.out; omega, rfl, rfl⟩), Base.Own.nil _ _⟩, HA3.out⟩
      · have HB0 := Aside0.mk hb0
        have hd4 : decide (bi < 0) = true := decide_eq_true (by omega)
        go_enter Try.func58, Try.ntmps58
        go_wp2
        obtain ⟨W, hW⟩ : ∃ W, w.alloc (.cells #[.int .i64 (j : Int), .int .i64 bi] 59) = W := ⟨_, rfl⟩
        obtain ⟨g, hg⟩ : ∃ g, w.heap.size = g := ⟨_, rfl⟩
        rw [hW] at HD HA c0 k4 d0 d1 ⊢
        rw [hg] at d0 d1 ⊢
        clear hW hg
        go_quiet (fail)
        have HA2 := Aside0.mk (pw_below_drewN HA.out nq)
        have c0 := pw_cell_below (pw_below_drewN (Below.refl W.heap.size W) nq) c0
        have k4 := pw_cell_below (pw_below_drewN (Below.refl W.heap.size W) nq) k4
        have d0 := pw_cell_below (pw_below_drewN (Below.refl W.heap.size W) nq) d0
        have d1 := pw_cell_below (pw_below_drewN (Below.refl W.heap.size W) nq) d1
        generalize W.drewN nq = W2 at *
        go_wp2
        go_quiet (fail)
        have HA3 := Aside0.mk (pw_below_drewN HA2.out nq)
        go_wp2
        go_ret2
        exact ⟨⟨_, 102, [], rfl, .inr (.inl ⟨HH.out, fun h => by have := HB0.out; omega, rfl, rfl⟩), Base.Own.nil _ _⟩, HA3.out⟩
    · have HH := Aside0.mk (show hasB zs.length zi = false from hasB_false (fun h => h1 (by rw [HM.out]; exact h.2)))
      have hd1 : decide (zi < 0) = false := decide_eq_false (by omega)
      have hd2 : decide ((m : Int) ≤ zi) = true := decide_eq_true (by omega)
      go_enter Try.func58, Try.ntmps58
      go_wp2
      go_quiet (fail)
      have HA2 := Aside0.mk (pw_below_drewN HA.out nq)
      go_wp2
      go_ret2
      exact ⟨⟨_, 100, [], rfl, .inl ⟨HH.out, rfl, rfl⟩, Base.Own.nil _ _⟩, HA2.out⟩
  · have HH := Aside0.mk (show hasB zs.length zi = false from hasB_false (fun h => h0 h.1))
    have hd1 : decide (zi < 0) = true := decide_eq_true (by omega)
    go_enter Try.func58, Try.ntmps58
    go_wp2
    go_quiet (fail)
    have HA2 := Aside0.mk (pw_below_drewN HA.out nq)
    go_wp2
    go_ret2
    exact ⟨⟨_, 100, [], rfl, .inl ⟨HH.out, rfl, rfl⟩, Base.Own.nil _ _⟩, HA2.out⟩
end Go.Proofs.Ytkmeipblgdahoaa.Dv
namespace Go.Proofs.Ytkmeipblgdahoaa.Dv
open Go.RowKit Go.Proofs.YtkmeipblgdahoaaW.PrintWords Go.Proofs.YtkmeipblgdahoaaW.PrintMore Go.Proofs.Ytkmeipblgdahoaa.Base Go.Proofs.Ytkmeipblgdahoaa.Shp
set_option maxRecDepth 100000
set_option linter.unusedVariables false
set_option linter.unusedSimpArgs false
section
variable {ops : Array Oper} {rest : List Oper} {o : Oper} {a : Act} {Q : Exit → Act → World → Prop}
/-- append(v, ys...): blocks. -/
theorem app_blks {W : World} (base : Nat) (E O : Nat → Prop) (s x : Operand) (hgd : o.guard = none) (ho : o.op = .call { callee := .builtin .append, args := #[s, x], argTypes := #[28, 28] })
    (v : Value) (xs ys : List (List UInt8)) (A : Option Addr) (m c : Nat) (hs : a.eval s = v) (hx : a.eval x = .slice A m c)
    (HO : Kd.N bytesK 39 W base E v xs) (HF : Kd.F bytesK W O A m ys) (hO : ∀ k, O k → some k ≠ v.ownBlock) (hbase : base ≤ W.heap.size) (hl : xs.length + m ≤ 100000)
    (h : ∀ v1 w1, Kd.N bytesK 39 w1 base (fun k => E k ∨ O k ∨ W.heap.size ≤ k) v1 (xs ++ ys) → W.grownBy w1 v.ownBlock → wpList Try.prog ops Q rest (a.put o.dst v1) w1) :
    wpList Try.prog ops Q (o :: rest) a W :=
  Kd.N_append_rows bytesK (w0 := W) base hgd s x 28 39 _ 24 ho Try.underlying28 info_bytes rfl (by decide) (by decide) v xs ys A m c (fun k => E k ∨ O k ∨ W.heap.size ≤ k) O hs hx
    (Kd.N_mono HO (fun k hk => .inl hk)) HF (fun k hk => ⟨.inr (.inl hk), hO k hk⟩) (fun k hk => .inr (.inr hk)) (Below.refl _ _) hbase (by omega) (fun v1 w1 h1 _ h3 _ => h v1 w1 h1 h3)
end
theorem RDv.far {w : World} {rb base : Nat} {ok : Nat → Prop} {z zb b r : Int} {zs : List Zn} {v : Value} (h : RDv w rb base ok z zb b r zs v) {p : Addr} (hx : rb ≠ p.block) (hok : ∀ k, ok k → k ≠ p.block) (u : Value) : RDv (w.setCell p u) rb base ok z zb b r zs v :=
  ⟨blk_far h.blk hx u, Kd.N_far h.row hok u⟩
def raddrV (z b : Int) (e : Int) : Ending := .returned (.tuple #[.agg #[.int .i64 z, .int .i64 b], .int .i64 e])
def RAppR (zb b : Int) (zs : List Zn) (i : Int) (xs : List UInt8) (e : Ending) (zs' : List Zn) : Prop :=
  ((hasB zs.length i = false ∨ (xs.length : Int) ≠ b) ∧ e = raddrV 0 0 100 ∧ zs' = zs) ∨
  (hasB zs.length i = true ∧ (xs.length : Int) = b ∧ zb ≤ (((zs.getD i.toNat ([], 0)).1.length : Nat) : Int) ∧ e = raddrV 0 0 101 ∧ zs' = zs) ∨
  (hasB zs.length i = true ∧ (xs.length : Int) = b ∧ (((zs.getD i.toNat ([], 0)).1.length : Nat) : Int) < zb ∧ e = raddrV i (((zs.getD i.toNat ([], 0)).1.length : Nat) : Int) 0 ∧ zs' = zs.set i.toNat ((zs.getD i.toNat ([], 0)).1 ++ [xs], (zs.getD i.toNat ([], 0)).2))
set_option maxHeartbeats 4000000 in
theorem rappend_calls (rb base : Nat) (ok : Nat → Prop) (z zb b r : Int) (zs : List Zn) (v : Value) (i : Int) (hi : IsI i) (X : Option Addr) (xn xc : Nat) (xs : List UInt8) (hxn : xn ≤ 100000000) (w : World) (h : RDv w rb base ok z zb b r zs v) (hok : ∀ k, w.heap.size ≤ k → ok k) (hC : byte.C w X xn xs) (hcnt : ∀ p ∈ zs, p.1.length ≤ 5000) :
    Calls Try.prog 61 #[.pointer (some ⟨rb, 0, none⟩), .int .i64 i, .slice X xn xc] w
      fun e w' => ∃ zs', RAppR zb b zs i xs e zs' ∧ RDv w' rb base ok z zb b r zs' v ∧ Chg w w' ok := by
  have HA := Aside0.mk (alloc_below w (.cells #[.int .i64 0, .int .i64 0] 59))
  have HOK := Aside0.mk hok
  have HD := Aside0.mk ((h.mono (ok' := fun k => ok k ∧ k ≠ w.heap.size) (fun k hk hlt => ⟨hk, by omega⟩)).below HA.out)
  have HDD := Aside0.mk (h.below HA.out)
  have HL := Aside0.mk (C_len hC).1
  have HC := Aside0.mk (Kd.C_below hC HA.out)
  have HRB := Aside0.mk (show rb ≠ w.heap.size by have := h.xlt; omega)
  obtain ⟨A, m, cp, rfl, hm, hmc, hmm⟩ := h.form
  have HM := Aside0.mk hm
  have HCN := Aside0.mk hcnt
  obtain ⟨hi1, hi2⟩ := hi
  obtain ⟨-, k1, k2, -, k4⟩ := HD.out.cells
  have HG0 := Aside0.mk (show (w.alloc (.cells #[.int .i64 0, .int .i64 0] 59)).heap[w.heap.size]? = some (.cells #[.int .i64 0, .int .i64 0] 59 (0, 0)) from blk_here rfl)
  clear h hm hcnt hC hok
  by_cases h0 : 0 ≤ i
  · have hd1 : decide (i < 0) = false := decide_eq_false (by omega)
    by_cases h1 : i < (m : Int)
    · have HH := Aside0.mk (show hasB zs.length i = true from hasB_true h0 (by rw [← HM.out]; exact h1))
      obtain ⟨j, rfl⟩ : ∃ j : Nat, i = (j : Int) := ⟨i.toNat, by omega⟩
      have hd2 : decide ((m : Int) ≤ (j : Int)) = false := decide_eq_false (by omega)
      have hd3 : decide (m ≤ j) = false := decide_eq_false (by omega)
      by_cases hxb : (xn : Int) = b
      · have hnb2 : ((xn : Int) != b) = false := by rw [bne_eq_false_iff_eq]; exact hxb
        have HXB := Aside0.mk hxb
        clear hxb
        obtain ⟨p, hp⟩ : ∃ p, zs.getD j ([], 0) = p := ⟨_, rfl⟩
        obtain ⟨ad, cp', B, k, hv, c0, -, hk, hI, hF, f0, -, hoa, hax, hal, hput, -, -⟩ := HD.out.zone (j := j) (by rw [← HM.out]; omega) hp
        obtain ⟨rfl, rfl⟩ : A = some ad ∧ cp = cp' := by simp only [Value.slice.injEq] at hv; exact ⟨hv.1, hv.2.2⟩
        have hpc : p.1.length ≤ 5000 := HCN.out p (by rw [← hp, List.getD_eq_getElem?_getD, List.getElem?_eq_getElem (show j < zs.length by rw [← HM.out]; omega)]; exact List.getElem_mem _)
        have HP := Aside0.mk hp
        have HF := Aside0.mk hF
        have HPUT := Aside0.mk hput
        have HO := Aside0.mk hoa
        have HAL := Aside0.mk hal
        have HAX := Aside0.mk hax
        clear hp hv hI hF hoa hax hal hput hk
        by_cases hfull : zb ≤ (p.1.length : Int)
        · have hd5 : decide (zb ≤ (p.1.length : Int)) = true := decide_eq_true hfull
          have HFL := Aside0.mk hfull
          clear hfull
          go_enter Try.func61, Try.ntmps61
          go_wp2
          go_returns
          exact ⟨zs, .inr (.inl ⟨HH.out, by rw [HL.out]; exact HXB.out, by rw [Int.toNat_natCast, HP.out]; exact HFL.out, rfl, rfl⟩), HDD.out, Chg.of_below HA.out _⟩
        · have hd5 : decide (zb ≤ (p.1.length : Int)) = false := decide_eq_false hfull
          have HFL := Aside0.mk hfull
          clear hfull
          obtain ⟨g, hg⟩ : ∃ g, w.heap.size = g := ⟨_, rfl⟩
          have HSZ := Aside0.mk (show g + 1 = (w.alloc (.cells #[.int .i64 0, .int .i64 0] 59)).heap.size by rw [← hg]; simp)
          have HG := Aside0.mk hg
          have hbase : base ≤ (w.alloc (.cells #[.int .i64 0, .int .i64 0] 59)).heap.size := Nat.le_trans (Kd.N_base HDD.out.row ad.block (by obtain ⟨g', cp', hg', _⟩ := Kd.N_form HDD.out.row (by rw [← HM.out]; omega); simp only [Value.slice.injEq, Option.some.injEq] at hg'; rw [hg'.1]; rfl)) (Nat.le_of_lt HAL.out)
          have HBASE := Aside0.mk hbase
          have C0 := Aside0.mk c0
          have F0 := Aside0.mk f0
          clear hbase
          rw [hg] at HG0 HOK HRB HF HPUT HO
          go_enter Try.func61, Try.ntmps61
          go_wp2_with (at_builtin; (refine app_blks (w.alloc (.cells #[.int .i64 0, .int .i64 0] 59)).heap.size (fun _ => False) (fun k => (ok k ∧ k ≠ g) ∧ k ≠ ad.block) (.tmp 49) (.tmp 57) rfl rfl (.slice none 0 0) [] p.1 B p.1.length k rfl rfl (Kd.N_nil _ _ _ _ _) HF.out (fun k _ e => by simp [Value.ownBlock] at e) (Nat.le_refl _) (by simp; omega) ?_; intro v1 w1 hN1 hg1); (rw [List.nil_append] at hN1; have HN1 := Aside0.mk hN1; have HB1 := Aside0.mk (below_of_grown hg1); have k4 := pw_cell_below HB1.out k4; have c0 := pw_cell_below HB1.out c0; have f0 := pw_frozen_below HB1.out (by rw [add_block]; exact HAL.out) f0; have HC := Aside0.mk (Kd.C_below HC.out HB1.out); clear hN1 hg1))
          refine (lent_calls X xn xc xs (by omega) _ HC.out).mono ?_
          rintro e w2 ⟨v2, rfl, hO2, hw2⟩
          obtain ⟨A2, n2, c2, rfl, -, hC2⟩ := hO2.reads
          obtain rfl : xn = n2 := by rw [← (C_len hC2).1, HL.out]
          have HN2 := Aside0.mk (Kd.N_below HN1.out hw2)
          have HO2 := Aside0.mk hO2
          have HB2 := Aside0.mk (below_go HB1.out hw2)
          have HS2 := Aside0.mk hw2.size
          have hga : ad.block ≠ g := HO.out.2
          have hn0 : ad.add (j * 2) ≠ ⟨g, 0, none⟩ := fun e => hga (by have := congrArg Addr.block e; simpa [add_block] using this)
          have hn1 : ad.add (j * 2) ≠ ⟨g, 1, none⟩ := fun e => hga (by have := congrArg Addr.block e; simpa [add_block] using this)
          have hn2 := hn0.symm
          have hn3 := hn1.symm
          have K40 := Aside0.mk (pw_cell_below hw2 k4)
          have hgs := HSZ.out
          have FL0 := Aside0.mk (show (ad.add (j * 2)).block < (w.alloc (.cells #[.int .i64 0, .int .i64 0] 59)).heap.size by rw [add_block]; exact HAL.out)
          have HK0 := HDD.out.cells.2.2.2.2
          have HKK := Aside0.mk HK0
          clear k4 c0 hw2 hO2 hC2 hga HK0
          go_wp2_with (at_builtin; (refine app_blk (w.alloc (.cells #[.int .i64 0, .int .i64 0] 59)).heap.size _ (fun k => some k = (Value.slice A2 xn c2).ownBlock) (.tmp 59) (.tmp 62) rfl rfl _ p.1 xs A2 xn c2 (own_FK HO2.out) (fun k hk e => (by have h1 := Kd.N_lt HN1.out k e.symm; have h2 := Kd.R_base HO2.out k hk.symm; omega)) rfl (by simp [Act.eval]) HN2.out HB2.out.size (by omega) ?_; intro v3 w3 hN3 hg3); (have HN3 := Aside0.mk hN3; have hB3 : Below (w.alloc (.cells #[.int .i64 0, .int .i64 0] 59)).heap.size (w.alloc (.cells #[.int .i64 0, .int .i64 0] 59)) w3 := HB2.out.grown hg3 HB2.out.size (fun k hk => Kd.N_base HN2.out k hk); have HB3 := Aside0.mk hB3; have k4 := pw_cell_below hB3 HKK.out; have c0 := pw_cell_below hB3 C0.out; have f0 := pw_frozen_below hB3 FL0.out F0.out; obtain ⟨q0, q1, q2, q3⟩ := res_cells ((hB3.block g (by omega)).trans HG0.out); obtain ⟨A3, n3, c3, rfl, hc3, hC3⟩ := N_open hN3; clear hN3 hg3 hB3 hC3))
          refine bodyPost_ret (by simp [results, Try.results61, go_sem, *]; rfl) rfl ?_
          obtain ⟨hn3, -, -⟩ := Kd.N_reads' HN3.out
          subst hn3
          have hab : (ad.add (j * 2)).block = ad.block := add_block _ _
          have hR3 := HPUT.out w3 A3 c3 (p.1 ++ [xs]) _ HB3.out (Kd.N_F HN3.out) hc3 (fun k hk => by
            have hal := HAL.out
            have hgs := HSZ.out
            have fresh : ∀ k, (w.alloc (.cells #[.int .i64 0, .int .i64 0] 59)).heap.size ≤ k → (ok k ∧ k ≠ g) ∧ k ≠ ad.block := fun k hk => ⟨⟨HOK.out k (by have := HG.out; omega), by omega⟩, by omega⟩
            rcases hk with (hk | hk | hk) | hk | hk
            · exact hk.elim
            · exact hk
            · exact fresh k hk
            · exact fresh k (Nat.le_trans HB1.out.size (Kd.R_base HO2.out k hk.symm))
            · exact fresh k (Nat.le_trans HB2.out.size hk))
          have hfar : ∀ (o : Nat) k, ok k ∧ k ≠ g → k ≠ (⟨g, o, none⟩ : Addr).block := fun _ _ h => h.2
          refine ⟨zs.set j (p.1 ++ [xs], p.2), .inr (.inr ⟨HH.out, by rw [HL.out]; exact HXB.out, by rw [Int.toNat_natCast, HP.out]; have := HFL.out; omega, by rw [Int.toNat_natCast, HP.out]; rfl, by rw [Int.toNat_natCast, HP.out]⟩), ?_, ?_⟩
          · have h4 := ((hR3.far (p := ⟨g, 0, none⟩) HRB.out (hfar 0) (.int .i64 (j : Int))).far (p := ⟨g, 1, none⟩) HRB.out (hfar 1) (.int .i64 ((p.1.length : Nat) : Int))).mono (ok' := ok) (fun k hk _ => hk.1)
            exact h4
          · have hc3 : Chg w w3 ok := (Chg.of_below HA.out ok).trans (Chg.of_below HB3.out (fun _ => False)) (fun _ h => h.elim)
            exact ((hc3.set (.inl (by rw [hab]; exact HO.out.1)) _).set (.inr (Nat.le_of_eq HG.out)) _).set (.inr (Nat.le_of_eq HG.out)) _
      · have hnb2 : ((xn : Int) != b) = true := by rw [bne_iff_ne]; exact hxb
        have HXB := Aside0.mk hxb
        clear hxb
        go_enter Try.func61, Try.ntmps61
        go_wp2
        go_returns
        exact ⟨zs, .inl ⟨.inr (by rw [HL.out]; exact HXB.out), rfl, rfl⟩, HDD.out, Chg.of_below HA.out _⟩
    · have HH := Aside0.mk (show hasB zs.length i = false from hasB_false (fun h => h1 (by rw [HM.out]; exact h.2)))
      have hd2 : decide ((m : Int) ≤ i) = true := decide_eq_true (by omega)
      go_enter Try.func61, Try.ntmps61
      go_wp2
      go_returns
      exact ⟨zs, .inl ⟨.inl HH.out, rfl, rfl⟩, HDD.out, Chg.of_below HA.out _⟩
  · have HH := Aside0.mk (show hasB zs.length i = false from hasB_false (fun h => h0 h.1))
    have hd1 : decide (i < 0) = true := decide_eq_true (by omega)
    go_enter Try.func61, Try.ntmps61
    go_wp2
    go_returns
    exact ⟨zs, .inl ⟨.inl HH.out, rfl, rfl⟩, HDD.out, Chg.of_below HA.out _⟩
end Go.Proofs.Ytkmeipblgdahoaa.Dv
namespace Go.Proofs.Ytkmeipblgdahoaa.Dv
open Go.Proofs.YtkmeipblgdahoaaW.PrintWords Go.Proofs.YtkmeipblgdahoaaW.PrintMore Go.Proofs.Ytkmeipblgdahoaa.Base Go.Proofs.Ytkmeipblgdahoaa.Shp
set_option maxRecDepth 100000
set_option linter.unusedVariables false
def flat (z : Zn) : Prt := (z.1.flatten, z.2)
/-- How zones are. -/
def ZInv (b zb : Nat) (zs : List Zn) : Prop := ∀ p ∈ zs, (0 ≤ p.2 ∧ p.2 ≤ ((p.1.length : Nat) : Int)) ∧ p.1.length ≤ zb ∧ ∀ x ∈ p.1, x.length = b
theorem flat_len {b : Nat} : ∀ {xs : List (List UInt8)}, (∀ x ∈ xs, x.length = b) → xs.flatten.length = xs.length * b
  | [], _ => by simp
  | x :: xs, h => by
    rw [List.flatten_cons, List.length_append, flat_len (fun y hy => h y (List.mem_cons_of_mem _ hy)), h x (List.mem_cons_self ..), List.length_cons, Nat.succ_mul, Nat.add_comm]
theorem flat_take {b : Nat} : ∀ {xs : List (List UInt8)} (k : Nat), (∀ x ∈ xs, x.length = b) → xs.flatten.take (k * b) = (xs.take k).flatten
  | [], k, _ => by simp
  | x :: xs, 0, h => by simp
  | x :: xs, k + 1, h => by
    have hx := h x (List.mem_cons_self ..)
    rw [List.flatten_cons, List.take_succ_cons, List.flatten_cons, List.take_append, hx, Nat.succ_mul, Nat.add_sub_cancel, flat_take k (fun y hy => h y (List.mem_cons_of_mem _ hy)), List.take_of_length_le (by omega)]
theorem flat_drop {b : Nat} : ∀ {xs : List (List UInt8)} (k : Nat), (∀ x ∈ xs, x.length = b) → xs.flatten.drop (k * b) = (xs.drop k).flatten
  | [], k, _ => by simp
  | x :: xs, 0, h => by simp
  | x :: xs, k + 1, h => by
    have hx := h x (List.mem_cons_self ..)
    rw [List.flatten_cons, List.drop_succ_cons, List.drop_append, hx, Nat.succ_mul, Nat.add_sub_cancel, flat_drop k (fun y hy => h y (List.mem_cons_of_mem _ hy)), List.drop_of_length_le (by omega), List.nil_append]
theorem flat_get {b : Nat} {xs : List (List UInt8)} {k : Nat} (hk : k < xs.length) (h : ∀ x ∈ xs, x.length = b) : (xs.flatten.drop (k * b)).take b = xs.getD k [] := by
  rw [flat_drop k h, List.drop_eq_getElem_cons hk, List.flatten_cons, List.take_append_of_le_length (by rw [h _ (List.getElem_mem hk)]; exact Nat.le_refl _), List.take_of_length_le (by rw [h _ (List.getElem_mem hk)]; exact Nat.le_refl _), List.getD_eq_getElem?_getD, List.getElem?_eq_getElem hk]
  rfl
section
variable {b zb : Nat} {zs : List Zn}
theorem map_getD (zs : List Zn) (i : Nat) : (zs.map flat).getD i ([], 0) = flat (zs.getD i ([], 0)) := by
  rw [List.getD_eq_getElem?_getD, List.getD_eq_getElem?_getD, List.getElem?_map]
  cases zs[i]? <;> rfl
theorem ZInv.get (h : ZInv b zb zs) {i : Nat} (hi : i < zs.length) : (0 ≤ (zs.getD i ([], 0)).2 ∧ (zs.getD i ([], 0)).2 ≤ (((zs.getD i ([], 0)).1.length : Nat) : Int)) ∧ (zs.getD i ([], 0)).1.length ≤ zb ∧ ∀ x ∈ (zs.getD i ([], 0)).1, x.length = b := by
  rw [List.getD_eq_getElem?_getD, List.getElem?_eq_getElem hi]; exact h _ (List.getElem_mem _)
theorem ZInv.set (h : ZInv b zb zs) (i : Nat) {p : Zn} (hp : (0 ≤ p.2 ∧ p.2 ≤ ((p.1.length : Nat) : Int)) ∧ p.1.length ≤ zb ∧ ∀ x ∈ p.1, x.length = b) : ZInv b zb (zs.set i p) := by
  intro q hq
  rcases List.mem_or_eq_of_mem_set hq with hq | rfl
  · exact h q hq
  · exact hp
theorem flat_count (hb : 0 < b) {p : Zn} (h : ∀ x ∈ p.1, x.length = b) : (flat p).1.length / b = p.1.length := by
  show p.1.flatten.length / b = _
  rw [flat_len h, Nat.mul_div_cancel _ hb]
theorem flat_countI (hb : 0 < b) {p : Zn} (h : ∀ x ∈ p.1, x.length = b) : ((flat p).1.length : Int) / (b : Int) = ((p.1.length : Nat) : Int) := by
  rw [← flat_count hb h]; exact (Int.natCast_ediv _ _).symm
theorem flat_reset (i : Nat) : (zs.set i ([], 0)).map flat = (zs.map flat).set i ([], 0) := by
  rw [List.map_set]; rfl
theorem flat_flush (hb : 0 < b) (h : ZInv b zb zs) : (zs.mapIdx rfluF).map flat = (zs.map flat).mapIdx (fluF (b : Int)) := by
  apply List.ext_getElem?
  intro i
  rw [List.getElem?_map, List.getElem?_mapIdx, List.getElem?_mapIdx, List.getElem?_map]
  cases he : zs[i]? with
  | none => rfl
  | some p =>
    have hp := (h p (List.mem_of_getElem? he)).2.2
    show some (flat (rfluF i p)) = some (fluF b i (flat p))
    congr 1
    unfold rfluF fluF
    rw [flat_countI hb hp]
    rfl
end
end Go.Proofs.Ytkmeipblgdahoaa.Dv
namespace Go.Proofs.Ytkmeipblgdahoaa.Brg
open Go.RowKit
set_option maxRecDepth 100000
set_option linter.unusedVariables false
variable {P : Program} {Q : Exit → Act → World → Prop} {ops : Array Oper}
theorem rows_in {l n : Nat} {row : String} {args : Array Value} {w : World} {R : Value → World → Prop} (h : Rows P row args w R) : RowsIn (Fence.wide.inRound l) n P row args w R := fun c cs _ => by
  obtain ⟨v, w', r, s⟩ := h c cs
  exact ⟨v, w', r, stepsIn_wide.2 s⟩
theorem upon_in {l n : Nat} {o : Oper} {a : Act} {K : Act → World → Prop} {r : Result Next} (h : o.upon P a K Q r) : o.uponIn (Fence.wide.inRound l) n P a K Q r := by
  cases r with
  | ok x w' =>
    cases x with
    | value v => exact h
    | skip => exact h
    | defer d => exact h
    | enter f args => exact ⟨fun hd => by simp [Fence.wide] at hd, CallsIn.inRound l (callsIn_wide.2 h)⟩
    | row row args => exact ⟨fun hd => by simp [Fence.wide] at hd, rows_in h⟩
    | _ => exact (h : False).elim
  | halt x w' =>
    cases x with
    | panic v => exact h
    | _ => exact (h : False).elim
theorem op_in {l n i : Nat} (hnd : ∀ o ∈ ops.toList, ∀ c, o.op ≠ .defer c) (hQ : ¬ LetsOut Q) {K K' : Act → World → Prop} (hK : ∀ a w, K a w → K' a w) {a : Act} {w : World} (h : wpOp P ops Q i K a w) : wpOpIn (Fence.wide.inRound l) n P ops Q i K' a w := by
  unfold wpOp at h
  unfold wpOpIn
  cases ho : ops[i]? with
  | none => rw [ho] at h; exact hK _ _ h
  | some o =>
    rw [ho] at h
    have hm : o ∈ ops.toList := by
      obtain ⟨hlt, he⟩ := Array.getElem?_eq_some_iff.1 ho
      rw [← he]
      exact Array.getElem_mem_toList hlt
    dsimp only at h ⊢
    split
    · rename_i hw
      rw [if_pos hw] at h
      rcases h with h | h
      · refine ⟨fun _ _ => trivial, ?_⟩
        rw [Oper.semAt_eq _ _ _ (hnd o hm)]
        exact upon_in (Oper.wp_mono hK h)
      · exact absurd h.2 hQ
    · rename_i hw
      rw [if_neg hw] at h
      exact ⟨fun _ _ => trivial, hK _ _ h⟩
theorem any_in {l n : Nat} {md : Region.Mode} (hnd : ∀ o ∈ ops.toList, ∀ c, o.op ≠ .defer c) (hQ : ¬ LetsOut Q) : ∀ (fuel : Nat) (listed : Array Bool) (a : Act) (w : World), wpAny P md ops Q fuel listed a w → wpAnyIn (Fence.wide.inRound l) n P md ops Q fuel listed a w
  | 0, _, _, _, h => h
  | fuel + 1, listed, a, w, h => ⟨h.1, fun i hi => op_in hnd hQ (fun a w h => any_in hnd hQ fuel _ a w h) (h.2 i hi)⟩
/-- A region that draws, in a round. -/
theorem region_in {l n id : Nat} {a : Act} {w : World} (hm : P.follows .mixedOrders = true) (hnd : ∀ o ∈ ops.toList, ∀ c, o.op ≠ .defer c) (hQ : ¬ LetsOut Q)
    (h : wpAny P .any ops Q ops.size (Array.replicate ops.size false) a w.drew) : (Code.region id ops true).wpIn (Fence.wide.inRound l) n P Q a w :=
  wpIn_region_any hm (any_in hnd hQ _ _ _ _ h)
end Go.Proofs.Ytkmeipblgdahoaa.Brg
namespace Go.Proofs.Ytkmeipblgdahoaa.Dv
open Go.RowKit Go.Shelf Go.Proofs.YtkmeipblgdahoaaW.PrintWords Go.Proofs.YtkmeipblgdahoaaW.PrintMore Go.Proofs.Ytkmeipblgdahoaa.Base Go.Proofs.Ytkmeipblgdahoaa.Shp
set_option maxRecDepth 100000
set_option linter.unusedVariables false
set_option linter.unusedSimpArgs false
theorem chunk_calls (A : Option Addr) (n cap : Nat) (b : Int) (hb : 1 ≤ b) (w : World) :
    Calls Try.prog 63 #[.slice A n cap, .int .i64 b] w fun e w' => e = .returned (.func (.func 78) #[] #[.pointer (some ⟨w.heap.size, 0, none⟩), .pointer (some ⟨w.heap.size + 1, 0, none⟩)]) ∧
      (w.alloc (.cells #[.slice A n cap] 39)).alloc (.cells #[.int .i64 b] 3) = w' := by
  have hd : decide (b < 1) = false := decide_eq_false (by omega)
  go_enter Try.func63, Try.ntmps63
  go_wp2
  go_ret
  exact ⟨rfl, rfl⟩
attribute [local go_sem] Oper.semAt_some
attribute [local go_sem] max2_mx min2_mn max_two min_two
theorem cut_lhm {P : Program} (t e : TypeId) {i : TypeInfo} (ht : P.underlying t = some (.slice e)) (hi : P.info? e = some i) (hsz : i.size = 1) (A : Option Addr) (n c lo b : Nat) (hb : 1 ≤ b) (h1 : lo + b ≤ n) (hc : n ≤ c) :
    ∀ W : World, (Instr.slice t (.slice A n c) (some (.int .i64 (lo : Int))) (some (.int .i64 ((lo : Int) + (b : Int)))) (some (.int .i64 ((lo : Int) + (b : Int))))).run P W = .ok (.slice (A.map (·.add lo)) b b) W := by
  intro W
  have hel : P.elem t = e := by simp [Program.elem, ht]
  have hu : P.underlying t = some (.slice (P.elem t)) := by rw [hel]; exact ht
  rw [run_slice_lhm W t A n c hu .i64 .i64 .i64 (lo : Int) _ _ (by omega) (by omega) (by omega) (by omega), hel]
  simp [sizeOf, typeInfo, hi, hsz, sliced, Result.andThen]
  have e1 : ((lo : Int) + (b : Int)).toNat = lo + b := by omega
  rw [e1]
  refine ⟨fun h => by omega, by omega⟩
/-- The boxes of a Chunk's closure lie as they lay. -/
def KpB (Bs : Nat) (W W' : World) : Prop := ∀ k, (k = Bs ∨ k = Bs + 1) → W'.heap[k]? = W.heap[k]?
theorem KpB.trans {Bs : Nat} {A B C : World} (h : KpB Bs A B) (k : KpB Bs B C) : KpB Bs A C := fun j hj => (k j hj).trans (h j hj)
theorem KpB.cell {Bs : Nat} {W W' : World} (h : KpB Bs W W') : W'.cell? ⟨Bs, 0, none⟩ = W.cell? ⟨Bs, 0, none⟩ ∧ W'.cell? ⟨Bs + 1, 0, none⟩ = W.cell? ⟨Bs + 1, 0, none⟩ :=
  ⟨World.cell?_of_block (h Bs (.inl rfl)), World.cell?_of_block (h (Bs + 1) (.inr rfl))⟩
def chunkV (A : Option Addr) (b k : Nat) : Value := .slice (A.map (·.add (k * b))) b b
def firsts (cnt : Nat) (k : Nat) : List (Fin cnt) := (List.finRange cnt).take k
theorem firsts_succ {cnt k : Nat} (h : k < cnt) : firsts cnt k ++ [⟨k, h⟩] = firsts cnt (k + 1) := by
  unfold firsts
  rw [List.take_succ_eq_append_getElem (by simp; exact h)]
  simp
theorem firsts_len {cnt k : Nat} (h : k ≤ cnt) : (firsts cnt k).length = k := by unfold firsts; simp; omega
theorem firsts_all (cnt : Nat) : firsts cnt cnt = List.finRange cnt := by unfold firsts; rw [List.take_of_length_le (by simp)]
set_option maxRecDepth 100000 in
set_option maxHeartbeats 4000000 in
theorem chunk1_in (n l Bs : Nat) (A : Option Addr) (m cap b cnt : Nat) (hb : 1 ≤ b) (hm : m = cnt * b) (hmc : m ≤ cap) (hmm : m ≤ 100000000) (J Jx : List (Fin cnt) → World → Prop) (hJn : ∀ s W W', J s W → W.grownBy W' none → J s W')
    (hY : ∀ pre (x : Fin cnt) W, J pre W → pre.length < cnt → YieldAt Fence.wide (n - 1) Try.prog l #[chunkV A b x.1] W fun e W' =>
      (e = .returned (.bool true) ∧ J (pre ++ [x]) W' ∧ KpB Bs W W') ∨ (e = .returned (.bool false) ∧ Jx (pre ++ [x]) W'))
    (W : World) (hs : W.cell? ⟨Bs, 0, none⟩ = some (.slice A m cap)) (hn : W.cell? ⟨Bs + 1, 0, none⟩ = some (.int .i64 (b : Int))) (h0 : J [] W) :
    CallsIn Fence.wide n Try.prog 78 #[.func (.yield l) #[] #[], .pointer (some ⟨Bs, 0, none⟩), .pointer (some ⟨Bs + 1, 0, none⟩)] W fun e W' => (∃ v, e = .returned v) ∧
      ((∃ ys, ys = List.finRange cnt ∧ J ys W') ∨ (∃ pre : List (Fin cnt), True ∧ Jx pre W')) := by
  have HS := Aside0.mk (And.intro hs hn)
  have HY := Aside0.mk hY
  have HJN := Aside0.mk hJn
  have HM := Aside0.mk hm
  have H0 := Aside0.mk h0
  have hbm : b ≤ 100000000 ∨ cnt = 0 := by
    rcases Nat.eq_zero_or_pos cnt with h | h
    · exact .inr h
    · have : 1 * b ≤ cnt * b := Nat.mul_le_mul_right b h
      omega
  have HBM := Aside0.mk hbm
  clear hm hY h0 hbm hJn
  refine callsIn_of_wp Try.func78 rfl trivial ?_ rfl
  simp only [Try.ntmps78, List.size_toArray, List.length_cons, List.length_nil, Nat.reduceAdd, Nat.reduceSub, Array.replicate_succ, Array.replicate_zero, List.push_toArray, List.append_toArray, List.nil_append, List.cons_append]
  gi_wp2
  clear hs hn
  gi_loopw [4] (fun i wr => ∃ (k t : Nat), i = .int .i64 (t : Int) ∧ t ≤ m ∧ k ≤ cnt ∧ Aside0 (t = k * b) ∧ Aside0 (J (firsts cnt k) wr ∧ KpB Bs W wr)) (fun i _ => m - (intOf i).toNat)
  case atStart => exact ⟨0, 0, rfl, Nat.zero_le _, Nat.zero_le _, ⟨by simp⟩, ⟨H0.out, fun _ _ => rfl⟩⟩
  case round =>
    obtain ⟨k, t, rfl, htm, hkc, HT, HJ⟩ := hrel
    obtain ⟨e1, e2⟩ := HJ.out.2.cell
    have s1 : wr.cell? ⟨Bs, 0, none⟩ = some (.slice A m cap) := e1.trans HS.out.1
    have s2 : wr.cell? ⟨Bs + 1, 0, none⟩ = some (.int .i64 (b : Int)) := e2.trans HS.out.2
    clear e1 e2
    by_cases hlt : t < m
    · have hkk : k < cnt := by
        rcases Nat.lt_or_ge k cnt with h | h
        · exact h
        · have : k = cnt := by omega
          subst this
          rw [← HT.out] at HM
          have := HM.out
          omega
      have htb : t + b ≤ m := by
        rw [HM.out, HT.out, ← Nat.succ_mul]
        exact Nat.mul_le_mul_right b hkk
      have hbb : b ≤ 100000000 := by have := HBM.out; omega
      have hmn : mn (b : Int) (((m - t : Nat) : Int)) = (b : Int) := by unfold mn; split <;> omega
      have hmn2 : mn (b : Int) ((m : Int) - (t : Int)) = (b : Int) := by unfold mn; split <;> omega
      gi_wp2
      refine wpIn_wide.2 ?_
      go_quiet (fail)
      have s1 := pw_cell_below (pw_below_drewN (Below.refl wr.heap.size wr) nq) s1
      have s2 := pw_cell_below (pw_below_drewN (Below.refl wr.heap.size wr) nq) s2
      have HJ2 := Aside0.mk (show J (firsts cnt k) (wr.drewN nq) ∧ KpB Bs W (wr.drewN nq) from ⟨HJN.out _ _ _ HJ.out.1 ⟨rfl, rfl, rfl, Nat.le_refl _, fun _ _ _ => rfl⟩, HJ.out.2⟩)
      generalize wr.drewN nq = wd at *
      obtain ⟨fn, tmps, assign, body, hy, hR⟩ := HY.out _ ⟨k, hkk⟩ wd HJ2.out.1 (by rw [firsts_len hkc]; exact hkk)
      unfold chunkV at hy
      dsimp only at hy
      rw [← HT.out] at hy
      obtain ⟨i0, hi0, hzz⟩ := Option.map_eq_some_iff.1 info_u8
      simp only [Prod.mk.injEq] at hzz
      have hcut := cut_lhm (P := Try.prog) 39 5 Try.underlying39 hi0 hzz.2.1 A m cap t b hb htb hmc
      clear hi0 hzz hmn hmn2
      gi_wp2
      refine ⟨fun h => by simp [Fence.wide] at h, hR.mono ?_⟩
      rintro e W3 (⟨rfl, hJ3, hk3⟩ | ⟨rfl, hJx3⟩)
      · have s2 : W3.cell? ⟨Bs + 1, 0, none⟩ = some (.int .i64 (b : Int)) := (hk3.cell).2.trans s2
        rw [firsts_succ hkk] at hJ3
        have HJ3 := Aside0.mk (And.intro hJ3 (HJ2.out.2.trans hk3))
        clear hJ3 hk3 hy hR hcut
        gi_wp2
        go_roundw
        case rel => exact ⟨k + 1, t + b, by congr 1, htb, hkk, ⟨by rw [HT.out, Nat.succ_mul]⟩, HJ3⟩
        case measure => simp [intOf]; omega
      · gi_wp2
        refine bodyPost_ret (results_none rfl _ _ _) rfl ?_
        exact ⟨⟨_, rfl⟩, .inr ⟨_, trivial, hJx3⟩⟩
    · have hkk : k = cnt := by
        have h1 := HM.out
        have h2 := HT.out
        rcases Nat.lt_or_ge k cnt with h | h
        · have : (k + 1) * b ≤ cnt * b := Nat.mul_le_mul_right b h
          rw [Nat.succ_mul] at this
          omega
        · omega
      have HKK := Aside0.mk hkk
      clear hkk
      gi_wp2
      go_end0
      have h := HJ.out.1
      rw [HKK.out, firsts_all] at h
      exact ⟨⟨_, rfl⟩, .inl ⟨_, rfl, h⟩⟩
theorem chunk_stops (n Bs : Nat) (A : Option Addr) (m cap b cnt : Nat) (hb : 1 ≤ b) (hm : m = cnt * b) (hmc : m ≤ cap) (hmm : m ≤ 100000000) (w : World) (hBs : Bs + 1 < w.heap.size)
    (hs : w.cell? ⟨Bs, 0, none⟩ = some (.slice A m cap)) (hn : w.cell? ⟨Bs + 1, 0, none⟩ = some (.int .i64 (b : Int))) :
    SeqStopsK Fence.wide n Try.prog 78 #[.pointer (some ⟨Bs, 0, none⟩), .pointer (some ⟨Bs + 1, 0, none⟩)] (fun k : Fin cnt => #[chunkV A b k.1]) (KpB Bs) (fun ys => ys = List.finRange cnt) (fun _ => True) cnt w := fun l J Jx W hW hJ _ hY h0 =>
  chunk1_in n l Bs A m cap b cnt hb hm hmc hmm J Jx (fun s W W' hs hg => hJ s W W' none hs hg (fun r e => by cases e)) hY W ((hW.cell (by show Bs < _; omega)).trans hs) ((hW.cell hBs).trans hn) h0
end Go.Proofs.Ytkmeipblgdahoaa.Dv
