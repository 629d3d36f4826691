/- The document's record: coamingref11.Decode. -/
import Derived.Test.YtefgahakbnfdeaaRefEnc
import Derived.Test.YtefgahakbnfdeaaRecUtil
namespace Go.Proofs.Ytefgahakbnfdeaa.Rc
open Go.RowKit Go.Proofs.YtefgahakbnfdeaaW.PrintWords Go.Proofs.YtefgahakbnfdeaaW.PrintMore Go.Proofs.Ytefgahakbnfdeaa.Base
set_option linter.unusedVariables false
set_option linter.unusedSimpArgs false
theorem take_head_none (b : List UInt8) (h : b.length < 18) : take b [4, 4, 8, 2] = none := by
  have w4 : wd 4 = 4 := rfl
  have w8 : wd 8 = 8 := rfl
  have w2 : wd 2 = 2 := rfl
  simp only [take, w4, w8, w2, List.length_drop, List.drop_drop]
  by_cases h1 : b.length < 4
  · rw [if_pos h1]
  rw [if_neg h1]
  by_cases h2 : b.length - 4 < 4
  · rw [if_pos h2]; rfl
  rw [if_neg h2]
  by_cases h3 : b.length - (4 + 4) < 8
  · rw [if_pos h3]; rfl
  rw [if_neg h3, if_pos (by omega)]
  rfl
theorem take_item_none (r : List UInt8) (h : r.length < 19) : take r [4, 8, 1, 4, 2] = none := by
  have w4 : wd 4 = 4 := rfl
  have w8 : wd 8 = 8 := rfl
  have w2 : wd 2 = 2 := rfl
  have w1 : wd 1 = 1 := rfl
  simp only [take, w4, w8, w2, w1, List.length_drop, List.drop_drop]
  by_cases h1 : r.length < 4
  · rw [if_pos h1]
  rw [if_neg h1]
  by_cases h2 : r.length - 4 < 8
  · rw [if_pos h2]; rfl
  rw [if_neg h2]
  by_cases h3 : r.length - (4 + 8) < 1
  · rw [if_pos h3]; rfl
  rw [if_neg h3]
  by_cases h4 : r.length - (4 + 8 + 1) < 4
  · rw [if_pos h4]; rfl
  rw [if_neg h4, if_pos (by omega)]
  rfl
theorem own_all {w : World} {b : Nat} {v : Value} {xs : List UInt8} (h : Base.Own w b v xs) : ∃ A c, v = .slice A xs.length c ∧ xs.length ≤ c ∧ c ≤ 9223372036854775807 ∧ byte.C w A xs.length xs := by
  obtain ⟨A, n, c, rfl, hc, hC⟩ := h.reads
  obtain rfl : xs.length = n := hC.1
  refine ⟨A, c, rfl, hc, ?_, hC⟩
  obtain ⟨_, hh⟩ := own_typed h
  rcases hh with ⟨he, _⟩ | ⟨g', cap, cur, he, _, _, _, hcm, _, _⟩
  · simp only [Value.slice.injEq] at he; omega
  · simp only [Value.slice.injEq] at he
    obtain ⟨-, -, rfl⟩ := he
    simpa [maxLen] using hcm
section
variable {ops : Array Oper} {o : Oper} {a : Act} {Q : Exit → Act → World → Prop} {Kc : Act → World → Prop}
/-- append(v, x) in a region that draws: an item. -/
theorem app_itm_step {W : World} (base : Nat) (s x : Operand) (hw : Region.wanted o (yielded ops a.tmps) = true) (ho : o.op = .call { callee := .builtin .append, args := #[s, x], argTypes := #[23, 23] })
    (v : Value) (xs : List Itm) (p : Itm) (hp : ItmOk p) (hs : a.eval s = v) (hx : a.eval x = .slice (some ⟨W.heap.size, 0, none⟩) 1 1)
    (HO : OwnI W base v xs) (hbase : base ≤ W.heap.size) (hl : xs.length ≤ 100000)
    (h : ∀ v1 w1, OwnI w1 base v1 (xs ++ [p]) → W.grownBy w1 v.ownBlock → Kc (a.put o.dst v1) w1) :
    if Region.wanted o (yielded ops a.tmps) = true then Oper.wp Try.prog o a (W.alloc (.cells (itV p) 47)) Kc Q else Kc (a.put o.dst undef) (W.alloc (.cells (itV p) 47)) :=
  Kd.R_append_step itK (w0 := W) base hw s x 23 47 _ 32 ho Try.underlying23 info_itm (by decide) (by decide) (by decide) v xs p (itV p).toList anyB (fun _ => False) hs hx (itK_M hp) (fun _ h => h.elim) (fun _ _ => trivial) HO (Below.refl _ _) hbase (by omega) (fun v1 w1 h1 _ h3 _ => h v1 w1 h1 h3)
end
theorem rroom_letter (n rm : Nat) (w : World) (hn : n ≤ 1000000) (h : rmN n = rm) : Calls Try.prog 14 #[.int .i64 (n : Int)] w fun e w' => e = .returned (.int .i64 (rm : Int)) ∧ w = w' := by
  refine (rroom_calls (n : Int) (by omega) w).mono ?_
  rintro e w' ⟨rfl, rfl⟩
  rw [rmZ_nat, h]
  exact ⟨rfl, rfl⟩
def C5 (w : World) (g x1 x2 x3 x4 x5 : Nat) : Prop := w.cell? ⟨g, 0, none⟩ = some (.int .u64 (x1 : Int)) ∧ w.cell? ⟨g, 1, none⟩ = some (.int .u64 (x2 : Int)) ∧ w.cell? ⟨g, 2, none⟩ = some (.int .u64 (x3 : Int)) ∧ w.cell? ⟨g, 3, none⟩ = some (.int .u64 (x4 : Int)) ∧ w.cell? ⟨g, 4, none⟩ = some (.int .u64 (x5 : Int))
theorem C5.below {w w1 : World} {g x1 x2 x3 x4 x5 : Nat} (h : C5 w g x1 x2 x3 x4 x5) (hb : Below w.heap.size w w1) : C5 w1 g x1 x2 x3 x4 x5 := ⟨pw_cell_below hb h.1, pw_cell_below hb h.2.1, pw_cell_below hb h.2.2.1, pw_cell_below hb h.2.2.2.1, pw_cell_below hb h.2.2.2.2⟩
theorem C5.grown {w w1 : World} {g x1 x2 x3 x4 x5 : Nat} {row : Option Nat} (h : C5 w g x1 x2 x3 x4 x5) (hb : w.grownBy w1 row) (hn : some g ≠ row) : C5 w1 g x1 x2 x3 x4 x5 := ⟨cell_grown hb h.1 hn, cell_grown hb h.2.1 hn, cell_grown hb h.2.2.1 hn, cell_grown hb h.2.2.2.1 hn, cell_grown hb h.2.2.2.2 hn⟩
theorem C5.set {w : World} {g x1 x2 x3 x4 x5 : Nat} {p : Addr} {u : Value} (h : C5 w g x1 x2 x3 x4 x5) (hn : g ≠ p.block) : C5 (w.setCell p u) g x1 x2 x3 x4 x5 := h.grown (World.grownBy_set1 w p u) (by simp; exact hn)
def RDecP (w : World) (b : List UInt8) (e : Ending) (w' : World) : Prop :=
  Below w.heap.size w w' ∧ ((RecIs b ∧ ∃ v, e = .returned (.tuple #[.agg #[.int .u64 (sqN b : Int), v], .int .i64 0]) ∧ OwnI w' w.heap.size v (itN b)) ∨ (¬ RecIs b ∧ e = .returned (.tuple #[.agg #[.int .u64 0, .slice none 0 0], .int .i64 111])))
/-- What holds at a round's head, the header's numbers besides. -/
structure RdR (w W : World) (g2 gr : Nat) (vr : Value) (r : List UInt8) (sq : Nat) (vi : Value) (its : List Itm) (vh : Value) (hs : List Nat) : Prop where
  rc : RcR w W g2 gr vr r sq vi its
  hdr : OwnU W w.heap.size vh hs
section
variable {w W W' : World} {g2 gr : Nat} {vr vr' vi v1 vh : Value} {r r' : List UInt8} {sq : Nat} {its its' : List Itm} {hs : List Nat}
theorem RdR.below (h : RdR w W g2 gr vr r sq vi its vh hs) (hb : Below W.heap.size W W') : RdR w W' g2 gr vr r sq vi its vh hs := ⟨h.rc.below hb, Kd.R_below h.hdr hb⟩
theorem RdR.cut (h : RdR w W g2 gr vr r sq vi its vh hs) (hr : Base.Own W w.heap.size vr' r') : RdR w W g2 gr vr' r' sq vi its vh hs := ⟨h.rc.cut hr, h.hdr⟩
theorem RdR.grown (h : RdR w W g2 gr vr r sq vi its vh hs) (hr : OwnI W' w.heap.size v1 its') (hg : W.grownBy W' vi.ownBlock) : W'.cell? ⟨gr, 1, none⟩ = some vi ∧ W'.frozen? ⟨gr, 1, none⟩ = false ∧ RdR w (W'.setCell ⟨gr, 1, none⟩ v1) g2 gr vr r sq v1 its' vh hs := by
  obtain ⟨h1, h2, h3⟩ := h.rc.grown hr hg
  have n0 := Kd.R_ne h.rc.row h.rc.rcb (by decide)
  have b0 : W'.heap[gr]? = some (.cells #[.int .u64 (sq : Int), vi] 25 (0, 0)) := (hg.block gr (Array.getElem?_eq_some_iff.1 h.rc.rcb).1 n0).trans h.rc.rcb
  have hO : OwnU W' w.heap.size vh hs := Kd.R_over h.hdr h.rc.row (by intro q hq; rw [List.mem_singleton.1 hq]; decide) hg
  exact ⟨h1, h2, h3, Kd.R_set hO b0 (by intro q hq; rw [List.mem_singleton.1 hq]; decide) 1 v1⟩
/-- Nothing is laid into the result. -/
theorem res_nil (hb : Below w.heap.size w W) (hr : W.heap[g2]? = some (.cells #[.int .u64 0, .slice none 0 0] 25 (0, 0))) (hlo : w.heap.size ≤ g2) :
    Below w.heap.size w ((W.setCell ⟨g2, 0, none⟩ (.int .u64 0)).setCell ⟨g2, 1, none⟩ (.slice none 0 0)) ∧ ((W.setCell ⟨g2, 0, none⟩ (.int .u64 0)).setCell ⟨g2, 1, none⟩ (.slice none 0 0)).cell? ⟨g2, 0, none⟩ = some (.int .u64 0) ∧
      ((W.setCell ⟨g2, 0, none⟩ (.int .u64 0)).setCell ⟨g2, 1, none⟩ (.slice none 0 0)).cell? ⟨g2, 1, none⟩ = some (.slice none 0 0) := by
  have b1 := blk_set hr 0 (.int .u64 0)
  have b2 := blk_set b1 1 (.slice none 0 0)
  exact ⟨(hb.setCell hlo _).setCell hlo _, by simp [World.cell?, b2], by simp [World.cell?, b2]⟩
theorem res_cells (hr : W.heap[g2]? = some (.cells #[.int .u64 0, .slice none 0 0] 25 (0, 0))) : W.cell? ⟨g2, 0, none⟩ = some (.int .u64 0) ∧ W.cell? ⟨g2, 1, none⟩ = some (.slice none 0 0) ∧ W.frozen? ⟨g2, 0, none⟩ = false ∧ W.frozen? ⟨g2, 1, none⟩ = false := by
  exact ⟨by simp [World.cell?, hr], by simp [World.cell?, hr], by simp [World.frozen?, hr], by simp [World.frozen?, hr]⟩
end
set_option maxRecDepth 100000 in
set_option maxHeartbeats 2000000 in
theorem rdecode_calls (A : Option Addr) (n c : Nat) (b : List UInt8) (w : World) (h : byte.C w A n b) (hnc : n ≤ c) (hc : c ≤ 9223372036854775807) (hn : n ≤ 100000) :
    Calls Try.prog 17 #[.slice A n c] w (RDecP w b) := by
  obtain ⟨hl, hm⟩ := C_len h
  have HL := Aside0.mk hl
  have HC := Aside0.mk h
  have HA := Aside0.mk (alloc_below w (.cells #[.int .u64 0, .slice none 0 0] 25))
  have HBX := Aside0.mk (heap_alloc_new w (.cells #[.int .u64 0, .slice none 0 0] 25))
  clear h hl
  go_enter Try.func17, Try.ntmps17
  go_wp2_with fail
  obtain ⟨g2, hg2⟩ : ∃ g2, w.heap.size = g2 := ⟨_, rfl⟩
  obtain ⟨W, hW⟩ : ∃ W, w.alloc (.cells #[.int .u64 0, .slice none 0 0] 25) = W := ⟨_, rfl⟩
  have HS1 := Aside0.mk (show W.heap.size = g2 + 1 by rw [← hW, ← hg2]; simp)
  rw [hW] at HA HBX ⊢
  rw [hg2] at HBX ⊢
  have HG2 := Aside0.mk hg2
  have HWID := Aside0.mk (show (num .i64).C (W.alloc (.cells #[.int .i64 4, .int .i64 4, .int .i64 8, .int .i64 2] 3)) (some ⟨g2 + 1, 0, none⟩) 4 [4, 4, 8, 2] by rw [← HS1.out]; exact wid_lit W [4, 4, 8, 2] _ rfl (by decide) (by decide))
  clear hW hg2
  refine (rtake_calls A n c b _ 4 4 [4, 4, 8, 2] _ (Kd.C_below HC.out (below_alloc HA.out _)) hnc hc (by omega) HWID.out (by omega)).mono ?_
  by_cases hn18 : n < 18
  · rw [take_head_none b (by rw [HL.out]; exact hn18)]
    have HNO := Aside0.mk (show ¬ RecIs b from fun hr => by have := rmN_le _ hr.1; rw [HL.out] at this; omega)
    rintro e w1 ⟨hb1, rfl⟩
    have HB1 := Aside0.mk (below_go (below_alloc HA.out _) hb1)
    have HR1 := Aside0.mk (blk_old hb1 (blk_past HBX.out))
    clear hb1 hn18
    go_wp2
    refine wp_region_any (by kernel_rfl) ?_
    rw [show ({ w1 with drawn := w1.drawn + 1 } : World) = w1.drew from rfl]
    refine wpAny_take (i := 0) (oi := { dst := some 21, op := Op.move (Operand.tmp 6), type := 4, pos := "ref.go:48", after := #[], guard := none }) (v := ?_) rfl (by kernel_rfl) (by kernel_rfl) (by kernel_rfl) (fun _ _ _ h => h) (Or.inl ⟨by rfl, ?_⟩) ?_
    rotate_left
    · (intro w; go_simp; (try with_reducible rfl))
    (try simp only [Act.put, List.setIfInBounds_toArray, List.set_cons_zero, List.set_cons_succ])
    refine wpAny_take (i := 1) (oi := { dst := some 22, op := Op.unOp UnOp.not 4 (Operand.tmp 21), type := 4, pos := "ref.go:48", after := #[{ on := 0, ground := Ground.data }], guard := none }) (v := ?_) rfl (by kernel_rfl) (by kernel_rfl) (by kernel_rfl) (fun _ _ _ h => h) (Or.inl ⟨by rfl, ?_⟩) ?_
    rotate_left
    · (intro w; go_simp; (try with_reducible rfl))
    (try simp only [Act.put, List.setIfInBounds_toArray, List.set_cons_zero, List.set_cons_succ])
    refine wpAny_take (i := 2) (oi := { dst := some 23, op := Op.move (Operand.tmp 22), type := 4, pos := "ref.go:48", after := #[{ on := 1, ground := Ground.data }], guard := none }) (v := ?_) rfl (by kernel_rfl) (by kernel_rfl) (by kernel_rfl) (fun _ _ _ h => h) (Or.inl ⟨by rfl, ?_⟩) ?_
    rotate_left
    · (intro w; go_simp; (try with_reducible rfl))
    (try simp only [Act.put, List.setIfInBounds_toArray, List.set_cons_zero, List.set_cons_succ])
    refine wpAny_take (i := 3) (oi := { dst := some 24, op := Op.move (Operand.tmp 4), type := 56, pos := "ref.go:48", after := #[{ on := 2, ground := Ground.guard }], guard := some (2, false) }) (v := undef) rfl (by kernel_rfl) (by kernel_rfl) (by kernel_rfl) (fun _ _ _ h => h) (Or.inr ⟨by rfl, rfl⟩) ?_
    (try simp only [Act.put, List.setIfInBounds_toArray, List.set_cons_zero, List.set_cons_succ])
    refine wpAny_take (i := 4) (oi := { dst := some 25, op := Op.indexAddr 56 (Operand.tmp 24) (Operand.const (Value.int IntKind.i64 3)), type := 0, pos := "ref.go:48", after := #[{ on := 3, ground := Ground.data }, { on := 2, ground := Ground.guard }], guard := some (2, false) }) (v := undef) rfl (by kernel_rfl) (by kernel_rfl) (by kernel_rfl) (fun _ _ _ h => h) (Or.inr ⟨by rfl, rfl⟩) ?_
    (try simp only [Act.put, List.setIfInBounds_toArray, List.set_cons_zero, List.set_cons_succ])
    refine wpAny_take (i := 5) (oi := { dst := some 26, op := Op.load 22 (Operand.tmp 25), type := 22, pos := "ref.go:48", after := #[{ on := 4, ground := Ground.data }, { on := 2, ground := Ground.guard }], guard := some (2, false) }) (v := undef) rfl (by kernel_rfl) (by kernel_rfl) (by kernel_rfl) (fun _ _ _ h => h) (Or.inr ⟨by rfl, rfl⟩) ?_
    (try simp only [Act.put, List.setIfInBounds_toArray, List.set_cons_zero, List.set_cons_succ])
    refine wpAny_take (i := 6) (oi := { dst := some 27, op := Op.move (Operand.tmp 0), type := 26, pos := "ref.go:48", after := #[{ on := 2, ground := Ground.guard }], guard := some (2, false) }) (v := undef) rfl (by kernel_rfl) (by kernel_rfl) (by kernel_rfl) (fun _ _ _ h => h) (Or.inr ⟨by rfl, rfl⟩) ?_
    (try simp only [Act.put, List.setIfInBounds_toArray, List.set_cons_zero, List.set_cons_succ])
    refine wpAny_take (i := 7) (oi := { dst := some 28, op := Op.call { callee := Callee.builtin Builtin.len, args := #[Operand.tmp 27], argTypes := #[26] }, type := 3, pos := "ref.go:48", after := #[{ on := 6, ground := Ground.data }, { on := 2, ground := Ground.guard }], guard := some (2, false) }) (v := undef) rfl (by kernel_rfl) (by kernel_rfl) (by kernel_rfl) (fun _ _ _ h => h) (Or.inr ⟨by rfl, rfl⟩) ?_
    (try simp only [Act.put, List.setIfInBounds_toArray, List.set_cons_zero, List.set_cons_succ])
    refine wpAny_take (i := 8) (oi := { dst := some 29, op := Op.call { callee := Callee.value (Operand.func 14), args := #[Operand.tmp 28], argTypes := #[3] }, type := 3, pos := "ref.go:48", after := #[{ on := 7, ground := Ground.data }, { on := 2, ground := Ground.chain }, { on := 2, ground := Ground.guard }], guard := some (2, false) }) (v := undef) rfl (by kernel_rfl) (by kernel_rfl) (by kernel_rfl) (fun _ _ _ h => h) (Or.inr ⟨by rfl, rfl⟩) ?_
    (try simp only [Act.put, List.setIfInBounds_toArray, List.set_cons_zero, List.set_cons_succ])
    refine wpAny_take (i := 9) (oi := { dst := some 30, op := Op.convert 3 22 (Operand.tmp 29), type := 22, pos := "ref.go:48", after := #[{ on := 8, ground := Ground.data }, { on := 2, ground := Ground.guard }], guard := some (2, false) }) (v := undef) rfl (by kernel_rfl) (by kernel_rfl) (by kernel_rfl) (fun _ _ _ h => h) (Or.inr ⟨by rfl, rfl⟩) ?_
    (try simp only [Act.put, List.setIfInBounds_toArray, List.set_cons_zero, List.set_cons_succ])
    refine wpAny_take (i := 10) (oi := { dst := some 31, op := Op.binOp BinOp.gtr 22 (Operand.tmp 26) (Operand.tmp 30) 22, type := 4, pos := "ref.go:48", after := #[{ on := 5, ground := Ground.data }, { on := 9, ground := Ground.data }, { on := 2, ground := Ground.guard }], guard := some (2, false) }) (v := undef) rfl (by kernel_rfl) (by kernel_rfl) (by kernel_rfl) (fun _ _ _ h => h) (Or.inr ⟨by rfl, rfl⟩) ?_
    (try simp only [Act.put, List.setIfInBounds_toArray, List.set_cons_zero, List.set_cons_succ])
    refine wpAny_take (i := 11) (oi := { dst := some 32, op := Op.pick (Operand.tmp 23) (Operand.const (Value.bool true)) (Operand.tmp 31), type := 4, pos := "ref.go:48", after := #[{ on := 2, ground := Ground.data }, { on := 10, ground := Ground.data }], guard := none }) (v := ?_) rfl (by kernel_rfl) (by kernel_rfl) (by kernel_rfl) (fun _ _ _ h => h) (Or.inl ⟨by rfl, ?_⟩) ?_
    rotate_left
    · (intro w; go_simp; (try with_reducible rfl))
    (try simp only [Act.put, List.setIfInBounds_toArray, List.set_cons_zero, List.set_cons_succ])
    refine wpAny_done (by kernel_rfl) ?_ _
    have HS := Aside0.mk (res_nil HB1.out HR1.out (Nat.le_of_eq HG2.out))
    obtain ⟨s0, s1, z0, z1⟩ := res_cells HR1.out
    go_wp2
    clear s0 s1 z0 z1
    obtain ⟨hB9, q0, q1⟩ := HS.out
    refine bodyPost_ret (v := .tuple #[.agg #[.int .u64 0, .slice none 0 0], .int .i64 111]) (by simp [results, Try.results17, go_sem, q0, q1]) rfl ⟨below_drew hB9, .inr ⟨HNO.out, rfl⟩⟩
  have hb18 : 18 ≤ b.length := by rw [HL.out]; omega
  rw [take_head b hb18]
  rintro e w3 ⟨hb3, vl, vr, rfl, hU, hO⟩
  obtain ⟨gl, cl, rfl, hgl, hglt, hcell⟩ := ownU_cells hU (by simp)
  have l2 := hcell 2 (by simp)
  have l3 := hcell 3 (by simp)
  simp only [List.getD_cons_zero, List.getD_cons_succ, List.length_cons, List.length_nil] at l2 l3 hU ⊢
  obtain ⟨mg, hmg⟩ : ∃ x, mgN b = x := ⟨_, rfl⟩
  obtain ⟨sm, hsm⟩ : ∃ x, smN b = x := ⟨_, rfl⟩
  obtain ⟨sq, hsq⟩ : ∃ x, sqN b = x := ⟨_, rfl⟩
  obtain ⟨ct, hct⟩ : ∃ x, ctN b = x := ⟨_, rfl⟩
  rw [hmg, hsm, hsq, hct] at hU
  rw [hsq] at l2
  rw [hct] at l3
  have hct16 : ct < 65536 := by rw [← hct]; exact ct_lt b
  have HSQ := Aside0.mk hsq
  have HCT := Aside0.mk hct
  have HSL := Aside0.mk (show sq < 18446744073709551616 by rw [← hsq]; exact sqN_lt b)
  have hlo : w.heap.size ≤ W.heap.size + 1 := by have := HA.out.size; omega
  have HU3 := Aside0.mk (show OwnU w3 w.heap.size (.slice (some ⟨gl, 0, none⟩) 4 cl) [mg, sm, sq, ct] from Kd.R_lower hU (by simpa using hlo))
  have HB3 := Aside0.mk (below_go (below_alloc HA.out _) hb3)
  have HO3 := Aside0.mk (show Base.Own w3 w.heap.size vr (b.drop 18) from Kd.R_lower hO (by simpa using hlo))
  have HR3 := Aside0.mk (blk_old hb3 (blk_past HBX.out))
  obtain ⟨rm, hrm⟩ : ∃ rm, rmN n = rm := ⟨_, rfl⟩
  have hrm214 : rm ≤ 214 := by rw [← hrm]; unfold rmN; split <;> omega
  have HRM := Aside0.mk hrm
  have hwrm : IntKind.u64.wrap (rm : Int) = (rm : Int) := wrap_u64_in (by omega) (by omega)
  clear hb3 hU hO hcell hgl hglt hmg hsm hsq hct hrm hlo hn18
  go_wp2
  go_region_held3 (fun w' => w'.cell? ⟨gl, 3, none⟩ = some (.int .u64 (ct : Int))) (exact l3)
    ((go_at_call 14; (with_reducible refine (rroom_letter n rm _ (by omega) HRM.out).mono ?_); rintro e w8 ⟨rfl, rfl⟩))
  clear hwrm
  by_cases hcr : rm < ct
  · rw [decide_eq_true hcr]
    have HNO := Aside0.mk (show ¬ RecIs b from fun hr => by have := hr.2.2.2.2.1; rw [HCT.out, HL.out, HRM.out] at this; omega)
    have HS := Aside0.mk (res_nil HB3.out HR3.out (Nat.le_of_eq HG2.out))
    obtain ⟨s0, s1, z0, z1⟩ := res_cells HR3.out
    clear hcr
    go_wp2
    clear s0 s1 z0 z1
    obtain ⟨hB9, q0, q1⟩ := HS.out
    refine bodyPost_ret (v := .tuple #[.agg #[.int .u64 0, .slice none 0 0], .int .i64 111]) (by simp [results, Try.results17, go_sem, q0, q1]) rfl ⟨below_drew hB9, .inr ⟨HNO.out, rfl⟩⟩
  rw [decide_eq_false hcr]
  have hcr2 : ct ≤ rm := by omega
  have HROOM := Aside0.mk (show 0 < ct → 19 * ct + 19 ≤ n from fun h => by have := rmN_le n (by rw [HRM.out]; omega); rw [HRM.out] at this; omega)
  clear hcr
  go_wp2
  clear l2 l3
  obtain ⟨gr, hgr⟩ : ∃ gr, w3.heap.size = gr := ⟨_, rfl⟩
  have HR0 := Aside0.mk (show RdR w (w3.alloc (.cells #[.int .u64 (sq : Int), .slice none 0 0] 25)).drew g2 gr vr (b.drop 18) sq (.slice none 0 0) [] (.slice (some ⟨gl, 0, none⟩) 4 cl) [mg, sm, sq, ct] from
    RdR.below (W := w3.alloc (.cells #[.int .u64 (sq : Int), .slice none 0 0] 25)) ⟨⟨below_alloc HB3.out _, HO3.out.below (alloc_below _ _), by rw [← hgr]; exact heap_alloc_new w3 _, blk_past HR3.out, Kd.R_nil _ _ _ _ _, by have := (Array.getElem?_eq_some_iff.1 HR3.out).1; omega, by have h1 := HG2.out; have h2 := HB3.out.size; omega⟩, Kd.R_below HU3.out (alloc_below _ _)⟩ (below_drew (Below.refl _ _)))
  obtain ⟨W6, hW6⟩ : ∃ W6, (w3.alloc (.cells #[.int .u64 (sq : Int), .slice none 0 0] 25)).drew = W6 := ⟨_, rfl⟩
  rw [hgr, hW6]
  rw [hW6] at HR0
  clear hgr hW6
  go_loopg [5, 8] ct (fun g1 v5 v8 wr => ∃ (i : Nat) (vi : Value), v8 = .int .u64 (i : Int) ∧ i ≤ ct ∧ Aside0 (g1 + i = ct) ∧ Aside0 (RdR w wr g2 gr v5 (b.drop (18 + 19 * i)) sq vi (itsOf i (b.drop 18)) (.slice (some ⟨gl, 0, none⟩) 4 cl) [mg, sm, sq, ct]))
  case atStart => exact ⟨0, _, rfl, by omega, ⟨rfl⟩, HR0⟩
  case round =>
    obtain ⟨i, vi, rfl, hi, HK, HR⟩ := hrel
    obtain ⟨_, _, he3, -, -, hcl3⟩ := ownU_cells HR.out.hdr (by simp)
    simp only [Value.slice.injEq, Option.some.injEq, Addr.mk.injEq, and_true] at he3
    obtain ⟨rfl, -, -⟩ := he3
    have l3 : wr.cell? ⟨gl, 3, none⟩ = some (.int .u64 (ct : Int)) := hcl3 3 (by simp)
    clear hcl3
    by_cases hlt : i < ct
    · skip
      have hd0 : decide ((i : Int) < (ct : Int)) = true := decide_eq_true (by omega)
      have hd0' : decide (i < ct) = true := decide_eq_true hlt
      obtain ⟨rr, hrr⟩ : ∃ rr, b.drop (18 + 19 * i) = rr := ⟨_, rfl⟩
      have hrl : 19 + 1 ≤ rr.length ∧ rr.length ≤ 100000 := by
        rw [← hrr, List.length_drop, HL.out]
        have := HROOM.out (by omega)
        omega
      rw [hrr] at HR
      have HRR := Aside0.mk hrr
      obtain ⟨g5, c5, rfl, -, -, hrc, hcm⟩ := own_form HR.out.rc.rest (by omega)
      obtain ⟨xi, hxi⟩ : ∃ xi, itAt rr = xi := ⟨_, rfl⟩
      have HXI := Aside0.mk hxi
      have HXO := Aside0.mk (show ItmOk xi by rw [← hxi]; exact itAt_ok rr)
      clear hrr
      go_wp2_with fail
      refine (rtake_calls _ rr.length c5 rr _ 5 5 [4, 8, 1, 4, 2] _ (Kd.C_below (own_C HR.out.rc.rest) (alloc_below _ _)) hrc hcm (by omega) (wid_lit wr [4, 8, 1, 4, 2] _ rfl (by decide) (by decide)) (by omega)).mono ?_
      rw [take_item rr (by omega), hxi]
      clear hxi l3
      obtain ⟨x1, x2, x3, x4, x5⟩ := xi
      dsimp only
      rintro e w7 ⟨hb7, vl, vr7, rfl, hU, hO⟩
      obtain ⟨gv, cv, rfl, hgv, hgvt, hcell⟩ := ownU_cells hU (by simp)
      have l0 := hcell 0 (by simp)
      have l1 := hcell 1 (by simp)
      have l2 := hcell 2 (by simp)
      have l3 := hcell 3 (by simp)
      have l4 := hcell 4 (by simp)
      simp only [List.getD_cons_zero, List.getD_cons_succ, List.length_cons, List.length_nil] at l0 l1 l2 l3 l4 hU ⊢
      have hb7w : Below wr.heap.size wr w7 := below_go (alloc_below wr (.cells #[.int .i64 4, .int .i64 8, .int .i64 1, .int .i64 4, .int .i64 2] 3)) hb7
      have HR7 := Aside0.mk ((HR.out.below hb7w).cut (show Base.Own w7 w.heap.size vr7 (rr.drop 19) from Kd.R_lower hO (by have := HR.out.rc.bel.size; simp; omega)))
      have HV7 := Aside0.mk (show OwnU w7 wr.heap.size (.slice (some ⟨gv, 0, none⟩) 5 cv) [x1, x2, x3, x4, x5] from Kd.R_lower hU (by simp))
      have hw1 : IntKind.u32.wrap (x1 : Int) = (x1 : Int) := wrap_u32_in (by omega) (by have := HXO.out.1; dsimp only at this; omega)
      have hw3 : IntKind.u8.wrap (x3 : Int) = (x3 : Int) := wrap_u8_in (by omega) (by have := HXO.out.2.2.1; dsimp only at this; omega)
      have hw4 : IntKind.u32.wrap (x4 : Int) = (x4 : Int) := wrap_u32_in (by omega) (by have := HXO.out.2.2.2.1; dsimp only at this; omega)
      have hw5 : IntKind.u16.wrap (x5 : Int) = (x5 : Int) := wrap_u16_in (by omega) (by have := HXO.out.2.2.2.2; dsimp only at this; omega)
      have HII := Aside0.mk (show (itsOf i (b.drop 18)).length ≤ 100000 by rw [itsOf_len]; omega)
      clear hb7 hb7w hU hO hcell hgv hgvt
      obtain ⟨Ai, ni, ci, rfl⟩ : ∃ Ai ni ci, vi = .slice Ai ni ci := by obtain ⟨Ai, ci, hv⟩ := Kd.R_slice HR.out.rc.row; exact ⟨Ai, _, ci, hv⟩
      have HS5 := Aside0.mk (And.intro l0 (And.intro l1 (And.intro l2 (And.intro l3 l4))))
      obtain ⟨cvv, hcvv⟩ := Kd.R_typed HV7.out gv rfl
      have HSEP := Aside0.mk (show some gv ≠ (Value.slice Ai ni ci).ownBlock from Kd.R_ne HR7.out.rc.row hcvv (by decide))
      have HGG := Aside0.mk (show gv ≠ gr by have h1 := HR7.out.rc.rcb; intro e; rw [e] at hcvv; rw [hcvv] at h1; injection h1 with h1; injection h1 with _ h1; exact absurd h1 (by decide))
      clear hcvv l0 l1 l2 l3 l4
      go_wp2
      refine wp_region_held_drew (S := fun w' => w'.cell? ⟨gv, 0, none⟩ = some (.int .u64 (x1 : Int)) ∧ w'.cell? ⟨gv, 1, none⟩ = some (.int .u64 (x2 : Int)) ∧ w'.cell? ⟨gv, 2, none⟩ = some (.int .u64 (x3 : Int)) ∧ w'.cell? ⟨gv, 3, none⟩ = some (.int .u64 (x4 : Int)) ∧ w'.cell? ⟨gv, 4, none⟩ = some (.int .u64 (x5 : Int))) (by kernel_rfl) HS5.out (fun hHeld => ?_)
      obtain ⟨X, hX⟩ : ∃ X, w7.drew = X := ⟨_, rfl⟩
      have hbX : Below w7.heap.size w7 X := by rw [← hX]; exact below_drew (Below.refl _ _)
      have HRX := Aside0.mk (HR7.out.below hbX)
      have HSX := Aside0.mk (show C5 X gv x1 x2 x3 x4 x5 from (show C5 w7 gv x1 x2 x3 x4 x5 from HS5.out).below hbX)
      have f1 := HRX.out.rc.rc.2.1
      rw [hX] at hHeld ⊢
      clear hX hbX
      refine wpAnyH_take (i := 0) (oi := { dst := some 56, op := Op.fieldAddr 25 (Operand.tmp 7) 1, type := 0, pos := "ref.go:58", after := #[], guard := none }) (v := ?_) rfl (by kernel_rfl) (by kernel_rfl) (by kernel_rfl) (fun _ _ _ h => h) (Or.inl ⟨by rfl, ?_⟩) (by assumption) ?_
      rotate_left
      · (intro w hSw; (try dsimp only at hSw); go_simp; (try with_reducible rfl))
      (try simp only [Act.put, List.setIfInBounds_toArray, List.set_cons_zero, List.set_cons_succ])
      refine wpAnyH_take (i := 2) (oi := { dst := some 58, op := Op.move (Operand.tmp 9), type := 56, pos := "ref.go:58", after := #[], guard := none }) (v := ?_) rfl (by kernel_rfl) (by kernel_rfl) (by kernel_rfl) (fun _ _ _ h => h) (Or.inl ⟨by rfl, ?_⟩) (by assumption) ?_
      rotate_left
      · (intro w hSw; (try dsimp only at hSw); go_simp; (try with_reducible rfl))
      (try simp only [Act.put, List.setIfInBounds_toArray, List.set_cons_zero, List.set_cons_succ])
      refine wpAnyH_take (i := 3) (oi := { dst := some 59, op := Op.indexAddr 56 (Operand.tmp 58) (Operand.const (Value.int IntKind.i64 0)), type := 0, pos := "ref.go:58", after := #[{ on := 2, ground := Ground.data }], guard := none }) (v := ?_) rfl (by kernel_rfl) (by kernel_rfl) (by kernel_rfl) (fun _ _ _ h => h) (Or.inl ⟨by rfl, ?_⟩) (by assumption) ?_
      rotate_left
      · (intro w hSw; (try dsimp only at hSw); go_simp; (try with_reducible rfl))
      (try simp only [Act.put, List.setIfInBounds_toArray, List.set_cons_zero, List.set_cons_succ])
      refine wpAnyH_take (i := 4) (oi := { dst := some 60, op := Op.load 22 (Operand.tmp 59), type := 22, pos := "ref.go:58", after := #[{ on := 3, ground := Ground.data }], guard := none }) (v := ?_) rfl (by kernel_rfl) (by kernel_rfl) (by kernel_rfl) (fun _ _ _ h => h) (Or.inl ⟨by rfl, ?_⟩) (by assumption) ?_
      rotate_left
      · (intro w hSw; (try dsimp only at hSw); go_simp; (try with_reducible rfl))
      (try simp only [Act.put, List.setIfInBounds_toArray, List.set_cons_zero, List.set_cons_succ])
      refine wpAnyH_take (i := 5) (oi := { dst := some 61, op := Op.convert 22 45 (Operand.tmp 60), type := 45, pos := "ref.go:58", after := #[{ on := 4, ground := Ground.data }], guard := none }) (v := ?_) rfl (by kernel_rfl) (by kernel_rfl) (by kernel_rfl) (fun _ _ _ h => h) (Or.inl ⟨by rfl, ?_⟩) (by assumption) ?_
      rotate_left
      · (intro w hSw; (try dsimp only at hSw); go_simp; (try with_reducible rfl))
      (try simp only [Act.put, List.setIfInBounds_toArray, List.set_cons_zero, List.set_cons_succ])
      refine wpAnyH_take (i := 6) (oi := { dst := some 62, op := Op.move (Operand.tmp 9), type := 56, pos := "ref.go:58", after := #[], guard := none }) (v := ?_) rfl (by kernel_rfl) (by kernel_rfl) (by kernel_rfl) (fun _ _ _ h => h) (Or.inl ⟨by rfl, ?_⟩) (by assumption) ?_
      rotate_left
      · (intro w hSw; (try dsimp only at hSw); go_simp; (try with_reducible rfl))
      (try simp only [Act.put, List.setIfInBounds_toArray, List.set_cons_zero, List.set_cons_succ])
      refine wpAnyH_take (i := 7) (oi := { dst := some 63, op := Op.indexAddr 56 (Operand.tmp 62) (Operand.const (Value.int IntKind.i64 1)), type := 0, pos := "ref.go:58", after := #[{ on := 6, ground := Ground.data }], guard := none }) (v := ?_) rfl (by kernel_rfl) (by kernel_rfl) (by kernel_rfl) (fun _ _ _ h => h) (Or.inl ⟨by rfl, ?_⟩) (by assumption) ?_
      rotate_left
      · (intro w hSw; (try dsimp only at hSw); go_simp; (try with_reducible rfl))
      (try simp only [Act.put, List.setIfInBounds_toArray, List.set_cons_zero, List.set_cons_succ])
      refine wpAnyH_take (i := 8) (oi := { dst := some 64, op := Op.load 22 (Operand.tmp 63), type := 22, pos := "ref.go:58", after := #[{ on := 7, ground := Ground.data }], guard := none }) (v := ?_) rfl (by kernel_rfl) (by kernel_rfl) (by kernel_rfl) (fun _ _ _ h => h) (Or.inl ⟨by rfl, ?_⟩) (by assumption) ?_
      rotate_left
      · (intro w hSw; (try dsimp only at hSw); go_simp; (try with_reducible rfl))
      (try simp only [Act.put, List.setIfInBounds_toArray, List.set_cons_zero, List.set_cons_succ])
      refine wpAnyH_take (i := 9) (oi := { dst := some 65, op := Op.move (Operand.tmp 9), type := 56, pos := "ref.go:58", after := #[], guard := none }) (v := ?_) rfl (by kernel_rfl) (by kernel_rfl) (by kernel_rfl) (fun _ _ _ h => h) (Or.inl ⟨by rfl, ?_⟩) (by assumption) ?_
      rotate_left
      · (intro w hSw; (try dsimp only at hSw); go_simp; (try with_reducible rfl))
      (try simp only [Act.put, List.setIfInBounds_toArray, List.set_cons_zero, List.set_cons_succ])
      refine wpAnyH_take (i := 10) (oi := { dst := some 66, op := Op.indexAddr 56 (Operand.tmp 65) (Operand.const (Value.int IntKind.i64 2)), type := 0, pos := "ref.go:58", after := #[{ on := 9, ground := Ground.data }], guard := none }) (v := ?_) rfl (by kernel_rfl) (by kernel_rfl) (by kernel_rfl) (fun _ _ _ h => h) (Or.inl ⟨by rfl, ?_⟩) (by assumption) ?_
      rotate_left
      · (intro w hSw; (try dsimp only at hSw); go_simp; (try with_reducible rfl))
      (try simp only [Act.put, List.setIfInBounds_toArray, List.set_cons_zero, List.set_cons_succ])
      refine wpAnyH_take (i := 11) (oi := { dst := some 67, op := Op.load 22 (Operand.tmp 66), type := 22, pos := "ref.go:58", after := #[{ on := 10, ground := Ground.data }], guard := none }) (v := ?_) rfl (by kernel_rfl) (by kernel_rfl) (by kernel_rfl) (fun _ _ _ h => h) (Or.inl ⟨by rfl, ?_⟩) (by assumption) ?_
      rotate_left
      · (intro w hSw; (try dsimp only at hSw); go_simp; (try with_reducible rfl))
      (try simp only [Act.put, List.setIfInBounds_toArray, List.set_cons_zero, List.set_cons_succ])
      refine wpAnyH_take (i := 12) (oi := { dst := some 68, op := Op.convert 22 5 (Operand.tmp 67), type := 5, pos := "ref.go:58", after := #[{ on := 11, ground := Ground.data }], guard := none }) (v := ?_) rfl (by kernel_rfl) (by kernel_rfl) (by kernel_rfl) (fun _ _ _ h => h) (Or.inl ⟨by rfl, ?_⟩) (by assumption) ?_
      rotate_left
      · (intro w hSw; (try dsimp only at hSw); go_simp; (try with_reducible rfl))
      (try simp only [Act.put, List.setIfInBounds_toArray, List.set_cons_zero, List.set_cons_succ])
      refine wpAnyH_take (i := 13) (oi := { dst := some 69, op := Op.move (Operand.tmp 9), type := 56, pos := "ref.go:58", after := #[], guard := none }) (v := ?_) rfl (by kernel_rfl) (by kernel_rfl) (by kernel_rfl) (fun _ _ _ h => h) (Or.inl ⟨by rfl, ?_⟩) (by assumption) ?_
      rotate_left
      · (intro w hSw; (try dsimp only at hSw); go_simp; (try with_reducible rfl))
      (try simp only [Act.put, List.setIfInBounds_toArray, List.set_cons_zero, List.set_cons_succ])
      refine wpAnyH_take (i := 14) (oi := { dst := some 70, op := Op.indexAddr 56 (Operand.tmp 69) (Operand.const (Value.int IntKind.i64 3)), type := 0, pos := "ref.go:58", after := #[{ on := 13, ground := Ground.data }], guard := none }) (v := ?_) rfl (by kernel_rfl) (by kernel_rfl) (by kernel_rfl) (fun _ _ _ h => h) (Or.inl ⟨by rfl, ?_⟩) (by assumption) ?_
      rotate_left
      · (intro w hSw; (try dsimp only at hSw); go_simp; (try with_reducible rfl))
      (try simp only [Act.put, List.setIfInBounds_toArray, List.set_cons_zero, List.set_cons_succ])
      refine wpAnyH_take (i := 15) (oi := { dst := some 71, op := Op.load 22 (Operand.tmp 70), type := 22, pos := "ref.go:58", after := #[{ on := 14, ground := Ground.data }], guard := none }) (v := ?_) rfl (by kernel_rfl) (by kernel_rfl) (by kernel_rfl) (fun _ _ _ h => h) (Or.inl ⟨by rfl, ?_⟩) (by assumption) ?_
      rotate_left
      · (intro w hSw; (try dsimp only at hSw); go_simp; (try with_reducible rfl))
      (try simp only [Act.put, List.setIfInBounds_toArray, List.set_cons_zero, List.set_cons_succ])
      refine wpAnyH_take (i := 16) (oi := { dst := some 72, op := Op.convert 22 45 (Operand.tmp 71), type := 45, pos := "ref.go:58", after := #[{ on := 15, ground := Ground.data }], guard := none }) (v := ?_) rfl (by kernel_rfl) (by kernel_rfl) (by kernel_rfl) (fun _ _ _ h => h) (Or.inl ⟨by rfl, ?_⟩) (by assumption) ?_
      rotate_left
      · (intro w hSw; (try dsimp only at hSw); go_simp; (try with_reducible rfl))
      (try simp only [Act.put, List.setIfInBounds_toArray, List.set_cons_zero, List.set_cons_succ])
      refine wpAnyH_take (i := 17) (oi := { dst := some 73, op := Op.move (Operand.tmp 9), type := 56, pos := "ref.go:58", after := #[], guard := none }) (v := ?_) rfl (by kernel_rfl) (by kernel_rfl) (by kernel_rfl) (fun _ _ _ h => h) (Or.inl ⟨by rfl, ?_⟩) (by assumption) ?_
      rotate_left
      · (intro w hSw; (try dsimp only at hSw); go_simp; (try with_reducible rfl))
      (try simp only [Act.put, List.setIfInBounds_toArray, List.set_cons_zero, List.set_cons_succ])
      refine wpAnyH_take (i := 18) (oi := { dst := some 74, op := Op.indexAddr 56 (Operand.tmp 73) (Operand.const (Value.int IntKind.i64 4)), type := 0, pos := "ref.go:58", after := #[{ on := 17, ground := Ground.data }], guard := none }) (v := ?_) rfl (by kernel_rfl) (by kernel_rfl) (by kernel_rfl) (fun _ _ _ h => h) (Or.inl ⟨by rfl, ?_⟩) (by assumption) ?_
      rotate_left
      · (intro w hSw; (try dsimp only at hSw); go_simp; (try with_reducible rfl))
      (try simp only [Act.put, List.setIfInBounds_toArray, List.set_cons_zero, List.set_cons_succ])
      refine wpAnyH_take (i := 19) (oi := { dst := some 75, op := Op.load 22 (Operand.tmp 74), type := 22, pos := "ref.go:58", after := #[{ on := 18, ground := Ground.data }], guard := none }) (v := ?_) rfl (by kernel_rfl) (by kernel_rfl) (by kernel_rfl) (fun _ _ _ h => h) (Or.inl ⟨by rfl, ?_⟩) (by assumption) ?_
      rotate_left
      · (intro w hSw; (try dsimp only at hSw); go_simp; (try with_reducible rfl))
      (try simp only [Act.put, List.setIfInBounds_toArray, List.set_cons_zero, List.set_cons_succ])
      refine wpAnyH_take (i := 20) (oi := { dst := some 76, op := Op.convert 22 27 (Operand.tmp 75), type := 27, pos := "ref.go:58", after := #[{ on := 19, ground := Ground.data }], guard := none }) (v := ?_) rfl (by kernel_rfl) (by kernel_rfl) (by kernel_rfl) (fun _ _ _ h => h) (Or.inl ⟨by rfl, ?_⟩) (by assumption) ?_
      rotate_left
      · (intro w hSw; (try dsimp only at hSw); go_simp; (try with_reducible rfl))
      (try simp only [Act.put, List.setIfInBounds_toArray, List.set_cons_zero, List.set_cons_succ])
      refine wpAnyH_take (i := 21) (oi := { dst := some 77, op := Op.build 47 #[(0, Operand.tmp 61), (1, Operand.tmp 64), (2, Operand.tmp 68), (3, Operand.tmp 72), (4, Operand.tmp 76)], type := 47, pos := "ref.go:58", after := #[{ on := 5, ground := Ground.data }, { on := 8, ground := Ground.data }, { on := 12, ground := Ground.data }, { on := 16, ground := Ground.data }, { on := 20, ground := Ground.data }], guard := none }) (v := ?_) rfl (by kernel_rfl) (by kernel_rfl) (by kernel_rfl) (fun _ _ _ h => h) (Or.inl ⟨by rfl, ?_⟩) (by assumption) ?_
      rotate_left
      · (intro w hSw; (try dsimp only at hSw); go_simp; (try with_reducible rfl))
      (try simp only [Act.put, List.setIfInBounds_toArray, List.set_cons_zero, List.set_cons_succ])
      refine wpAnyH_ready (rs := [1, 22]) (by kernel_rfl) (by simp) ?_
      refine (AllReadyH.cons (o := { dst := some 57, op := Op.load 23 (Operand.tmp 56), type := 23, pos := "ref.go:58", after := #[{ on := 0, ground := Ground.data }], guard := none }) rfl (fun K hK => ?_) (AllReadyH.cons (o := { dst := some 78, op := Op.buildSlice 23 1 #[(0, Operand.tmp 77)], type := 23, pos := "ref.go:58", after := #[{ on := 21, ground := Ground.data }], guard := none }) rfl (fun K hK => ?_) AllReadyH.nil))
      · go_simp
        refine hK.out _ _ ?_ (fun hHeld => ?_)
        · exact HSX.out
        clear hK K
        (try simp only [Act.put, List.setIfInBounds_toArray, List.set_cons_zero, List.set_cons_succ])
        refine wpAnyH_ready (rs := [22]) (by kernel_rfl) (by simp) ?_
        refine (AllReadyH.cons (o := { dst := some 78, op := Op.buildSlice 23 1 #[(0, Operand.tmp 77)], type := 23, pos := "ref.go:58", after := #[{ on := 21, ground := Ground.data }], guard := none }) rfl (fun K hK => ?_) AllReadyH.nil)
        go_simp
        refine hK.out _ _ ?_ (fun hHeld => ?_)
        · exact (HSX.out.below (alloc_below _ _))
        clear hK K
        (try simp only [Act.put, List.setIfInBounds_toArray, List.set_cons_zero, List.set_cons_succ])
        refine wpAnyH_ready (rs := [23]) (by kernel_rfl) (by simp) ?_
        refine (AllReadyH.cons (o := { dst := some 79, op := Op.call { callee := Callee.builtin Builtin.append, args := #[Operand.tmp 57, Operand.tmp 78], argTypes := #[23, 23] }, type := 23, pos := "ref.go:58", after := #[{ on := 1, ground := Ground.data }, { on := 22, ground := Ground.data }], guard := none }) rfl (fun K hK => ?_) AllReadyH.nil)
        refine app_itm_step w.heap.size (.tmp 57) (.tmp 78) (by rfl) rfl (.slice Ai ni ci) (itsOf i (b.drop 18)) (x1, x2, x3, x4, x5) HXO.out rfl (by simp [Act.eval]) HRX.out.rc.row HRX.out.rc.bel.size HII.out ?_
        intro v9 w9 hI9 hg9
        obtain ⟨A9, c9, rfl⟩ := Kd.R_slice hI9
        obtain ⟨e1, z1, hR9⟩ := HRX.out.grown hI9 hg9
        have HR9 := Aside0.mk hR9
        have HS9 := Aside0.mk (HSX.out.grown hg9 HSEP.out)
        clear hI9 hg9 hR9
        refine hK.out _ _ ?_ (fun hHeld => ?_)
        · exact HS9.out
        clear hK K
        (try simp only [Act.put, List.setIfInBounds_toArray, List.set_cons_zero, List.set_cons_succ])
        refine wpAnyH_take (i := 24) (oi := { dst := some 80, op := Op.fieldAddr 25 (Operand.tmp 7) 1, type := 0, pos := "ref.go:58", after := #[{ on := 0, ground := Ground.phase }, { on := 1, ground := Ground.phase }, { on := 2, ground := Ground.phase }, { on := 3, ground := Ground.phase }, { on := 4, ground := Ground.phase }, { on := 5, ground := Ground.phase }, { on := 6, ground := Ground.phase }, { on := 7, ground := Ground.phase }, { on := 8, ground := Ground.phase }, { on := 9, ground := Ground.phase }, { on := 10, ground := Ground.phase }, { on := 11, ground := Ground.phase }, { on := 12, ground := Ground.phase }, { on := 13, ground := Ground.phase }, { on := 14, ground := Ground.phase }, { on := 15, ground := Ground.phase }, { on := 16, ground := Ground.phase }, { on := 17, ground := Ground.phase }, { on := 18, ground := Ground.phase }, { on := 19, ground := Ground.phase }, { on := 20, ground := Ground.phase }, { on := 21, ground := Ground.phase }, { on := 22, ground := Ground.phase }, { on := 23, ground := Ground.phase }], guard := none }) (v := ?_) rfl (by kernel_rfl) (by kernel_rfl) (by kernel_rfl) (fun _ _ _ h => h) (Or.inl ⟨by rfl, ?_⟩) (by assumption) ?_
        rotate_left
        · (intro w hSw; (try dsimp only at hSw); go_simp; (try with_reducible rfl))
        (try simp only [Act.put, List.setIfInBounds_toArray, List.set_cons_zero, List.set_cons_succ])
        refine wpAnyH_ready (rs := [25]) (by kernel_rfl) (by simp) ?_
        refine (AllReadyH.cons (o := { dst := none, op := Op.store 23 (Operand.tmp 80) (Operand.tmp 79), type := 0, pos := "ref.go:58", after := #[{ on := 24, ground := Ground.data }, { on := 23, ground := Ground.data }, { on := 23, ground := Ground.chain }, { on := 0, ground := Ground.phase }, { on := 1, ground := Ground.phase }, { on := 2, ground := Ground.phase }, { on := 3, ground := Ground.phase }, { on := 4, ground := Ground.phase }, { on := 5, ground := Ground.phase }, { on := 6, ground := Ground.phase }, { on := 7, ground := Ground.phase }, { on := 8, ground := Ground.phase }, { on := 9, ground := Ground.phase }, { on := 10, ground := Ground.phase }, { on := 11, ground := Ground.phase }, { on := 12, ground := Ground.phase }, { on := 13, ground := Ground.phase }, { on := 14, ground := Ground.phase }, { on := 15, ground := Ground.phase }, { on := 16, ground := Ground.phase }, { on := 17, ground := Ground.phase }, { on := 18, ground := Ground.phase }, { on := 19, ground := Ground.phase }, { on := 20, ground := Ground.phase }, { on := 21, ground := Ground.phase }, { on := 22, ground := Ground.phase }, { on := 23, ground := Ground.phase }], guard := none }) rfl (fun K hK => ?_) AllReadyH.nil)
        go_simp
        refine hK.out _ _ ?_ (fun hHeld => ?_)
        · exact (HS9.out.set HGG.out)
        clear hK K
        (try simp only [Act.put, List.setIfInBounds_toArray, List.set_cons_zero, List.set_cons_succ])
        refine wpAnyH_done (by kernel_rfl) ?_ _
        go_wp2
        go_roundg (gk - 1)
        case measure => have := HK.out; omega
        case rel =>
          have e1 : itsOf (i + 1) (b.drop 18) = itsOf i (b.drop 18) ++ [(x1, x2, x3, x4, x5)] := by rw [itsOf_snoc, List.drop_drop, HRR.out, HXI.out]
          have e2 : b.drop (18 + 19 * (i + 1)) = rr.drop 19 := by rw [← HRR.out, List.drop_drop, show 18 + 19 * i + 19 = 18 + 19 * (i + 1) from by omega]
          refine ⟨i + 1, .slice A9 ((itsOf i (b.drop 18)).length + 1) c9, by congr 1, by omega, ⟨by have := HK.out; omega⟩, ⟨?_⟩⟩
          rw [e1, e2]
          have h12 := HR9.out
          simp only [List.length_append, List.length_cons, List.length_nil, Nat.zero_add] at h12
          exact h12
      · go_simp
        refine hK.out _ _ ?_ (fun hHeld => ?_)
        · exact (HSX.out.below (alloc_below _ _))
        clear hK K
        (try simp only [Act.put, List.setIfInBounds_toArray, List.set_cons_zero, List.set_cons_succ])
        have f1 := pw_cell_below (alloc_below X (.cells #[.int .u32 (x1 : Int), .int .u64 (x2 : Int), .int .u8 (x3 : Int), .int .u32 (x4 : Int), .int .u16 (x5 : Int)] 47)) f1
        refine wpAnyH_ready (rs := [1]) (by kernel_rfl) (by simp) ?_
        refine (AllReadyH.cons (o := { dst := some 57, op := Op.load 23 (Operand.tmp 56), type := 23, pos := "ref.go:58", after := #[{ on := 0, ground := Ground.data }], guard := none }) rfl (fun K hK => ?_) AllReadyH.nil)
        go_simp
        refine hK.out _ _ ?_ (fun hHeld => ?_)
        · exact (HSX.out.below (alloc_below _ _))
        clear hK K
        (try simp only [Act.put, List.setIfInBounds_toArray, List.set_cons_zero, List.set_cons_succ])
        refine wpAnyH_ready (rs := [23]) (by kernel_rfl) (by simp) ?_
        refine (AllReadyH.cons (o := { dst := some 79, op := Op.call { callee := Callee.builtin Builtin.append, args := #[Operand.tmp 57, Operand.tmp 78], argTypes := #[23, 23] }, type := 23, pos := "ref.go:58", after := #[{ on := 1, ground := Ground.data }, { on := 22, ground := Ground.data }], guard := none }) rfl (fun K hK => ?_) AllReadyH.nil)
        refine app_itm_step w.heap.size (.tmp 57) (.tmp 78) (by rfl) rfl (.slice Ai ni ci) (itsOf i (b.drop 18)) (x1, x2, x3, x4, x5) HXO.out rfl (by simp [Act.eval]) HRX.out.rc.row HRX.out.rc.bel.size HII.out ?_
        intro v9 w9 hI9 hg9
        obtain ⟨A9, c9, rfl⟩ := Kd.R_slice hI9
        obtain ⟨e1, z1, hR9⟩ := HRX.out.grown hI9 hg9
        have HR9 := Aside0.mk hR9
        have HS9 := Aside0.mk (HSX.out.grown hg9 HSEP.out)
        clear hI9 hg9 hR9
        refine hK.out _ _ ?_ (fun hHeld => ?_)
        · exact HS9.out
        clear hK K
        (try simp only [Act.put, List.setIfInBounds_toArray, List.set_cons_zero, List.set_cons_succ])
        refine wpAnyH_take (i := 24) (oi := { dst := some 80, op := Op.fieldAddr 25 (Operand.tmp 7) 1, type := 0, pos := "ref.go:58", after := #[{ on := 0, ground := Ground.phase }, { on := 1, ground := Ground.phase }, { on := 2, ground := Ground.phase }, { on := 3, ground := Ground.phase }, { on := 4, ground := Ground.phase }, { on := 5, ground := Ground.phase }, { on := 6, ground := Ground.phase }, { on := 7, ground := Ground.phase }, { on := 8, ground := Ground.phase }, { on := 9, ground := Ground.phase }, { on := 10, ground := Ground.phase }, { on := 11, ground := Ground.phase }, { on := 12, ground := Ground.phase }, { on := 13, ground := Ground.phase }, { on := 14, ground := Ground.phase }, { on := 15, ground := Ground.phase }, { on := 16, ground := Ground.phase }, { on := 17, ground := Ground.phase }, { on := 18, ground := Ground.phase }, { on := 19, ground := Ground.phase }, { on := 20, ground := Ground.phase }, { on := 21, ground := Ground.phase }, { on := 22, ground := Ground.phase }, { on := 23, ground := Ground.phase }], guard := none }) (v := ?_) rfl (by kernel_rfl) (by kernel_rfl) (by kernel_rfl) (fun _ _ _ h => h) (Or.inl ⟨by rfl, ?_⟩) (by assumption) ?_
        rotate_left
        · (intro w hSw; (try dsimp only at hSw); go_simp; (try with_reducible rfl))
        (try simp only [Act.put, List.setIfInBounds_toArray, List.set_cons_zero, List.set_cons_succ])
        refine wpAnyH_ready (rs := [25]) (by kernel_rfl) (by simp) ?_
        refine (AllReadyH.cons (o := { dst := none, op := Op.store 23 (Operand.tmp 80) (Operand.tmp 79), type := 0, pos := "ref.go:58", after := #[{ on := 24, ground := Ground.data }, { on := 23, ground := Ground.data }, { on := 23, ground := Ground.chain }, { on := 0, ground := Ground.phase }, { on := 1, ground := Ground.phase }, { on := 2, ground := Ground.phase }, { on := 3, ground := Ground.phase }, { on := 4, ground := Ground.phase }, { on := 5, ground := Ground.phase }, { on := 6, ground := Ground.phase }, { on := 7, ground := Ground.phase }, { on := 8, ground := Ground.phase }, { on := 9, ground := Ground.phase }, { on := 10, ground := Ground.phase }, { on := 11, ground := Ground.phase }, { on := 12, ground := Ground.phase }, { on := 13, ground := Ground.phase }, { on := 14, ground := Ground.phase }, { on := 15, ground := Ground.phase }, { on := 16, ground := Ground.phase }, { on := 17, ground := Ground.phase }, { on := 18, ground := Ground.phase }, { on := 19, ground := Ground.phase }, { on := 20, ground := Ground.phase }, { on := 21, ground := Ground.phase }, { on := 22, ground := Ground.phase }, { on := 23, ground := Ground.phase }], guard := none }) rfl (fun K hK => ?_) AllReadyH.nil)
        go_simp
        refine hK.out _ _ ?_ (fun hHeld => ?_)
        · exact (HS9.out.set HGG.out)
        clear hK K
        (try simp only [Act.put, List.setIfInBounds_toArray, List.set_cons_zero, List.set_cons_succ])
        refine wpAnyH_done (by kernel_rfl) ?_ _
        go_wp2
        go_roundg (gk - 1)
        case measure => have := HK.out; omega
        case rel =>
          have e1 : itsOf (i + 1) (b.drop 18) = itsOf i (b.drop 18) ++ [(x1, x2, x3, x4, x5)] := by rw [itsOf_snoc, List.drop_drop, HRR.out, HXI.out]
          have e2 : b.drop (18 + 19 * (i + 1)) = rr.drop 19 := by rw [← HRR.out, List.drop_drop, show 18 + 19 * i + 19 = 18 + 19 * (i + 1) from by omega]
          refine ⟨i + 1, .slice A9 ((itsOf i (b.drop 18)).length + 1) c9, by congr 1, by omega, ⟨by have := HK.out; omega⟩, ⟨?_⟩⟩
          rw [e1, e2]
          have h12 := HR9.out
          simp only [List.length_append, List.length_cons, List.length_nil, Nat.zero_add] at h12
          exact h12
    · obtain rfl : i = ct := by omega
      have hd0 : decide ((i : Int) < (i : Int)) = false := decide_eq_false (by omega)
      have hd0' : decide (i < i) = false := decide_eq_false (by omega)
      obtain ⟨Ai, ni, ci, rfl⟩ : ∃ Ai ni ci, vi = .slice Ai ni ci := by obtain ⟨Ai, ci, hv⟩ := Kd.R_slice HR.out.rc.row; exact ⟨Ai, _, ci, hv⟩
      obtain ⟨its, hits⟩ : ∃ its, itsOf i (b.drop 18) = its := ⟨_, rfl⟩
      rw [hits] at HR
      have HIT := Aside0.mk (show itN b = its by unfold itN; rw [HCT.out, hits])
      have HIFF := Aside0.mk (show RecIs b ↔ (ROk its (n : Int) ∧ enc sq its (n : Int).toNat = b) by
        rw [recIs_iff, HCT.out, HL.out, HRM.out, HIT.out, HSQ.out, Int.toNat_natCast]
        constructor
        · rintro ⟨h1, ⟨h2, h3, h4⟩, h5⟩
          exact ⟨⟨h2, by rw [rmZ_nat]; omega, h4⟩, h5⟩
        · rintro ⟨⟨h2, h3, h4⟩, h5⟩
          rw [rmZ_nat] at h3
          exact ⟨hcr2, ⟨h2, by omega, h4⟩, h5⟩)
      obtain ⟨f0, f1, -⟩ := HR.out.rc.rc
      clear hits
      go_wp2_with fail
      refine (rencode_calls sq HSL.out Ai ni ci its (n : Int) (by omega) _ (ownI_C HR.out.rc.row).1).mono ?_
      rintro e w9 ⟨hb9, h9⟩
      have HR9 := Aside0.mk (HR.out.below hb9)
      have HB9 := Aside0.mk (below_go HR.out.rc.bel hb9)
      have HC9 := Aside0.mk (Kd.C_below HC.out HB9.out)
      clear hb9 f0 f1 l3
      rcases h9 with ⟨hok, v9, rfl, hE⟩ | ⟨hno, rfl⟩
      · obtain ⟨A9, n9, c9, rfl, -, hC9⟩ := hE.reads
        obtain ⟨ee, hee⟩ : ∃ ee, enc sq its (n : Int).toNat = ee := ⟨_, rfl⟩
        rw [hee] at hC9
        have cv1 := conv_bytes w9 A9 n9 c9 ee hC9
        have cv2 := conv_bytes w9 A n c b HC9.out
        have HOK := Aside0.mk hok
        have HEE := Aside0.mk hee
        clear hC9 hE hok hee
        by_cases heb : ee = b
        · have HIS := Aside0.mk (HIFF.out.2 ⟨HOK.out, HEE.out.trans heb⟩)
          have hx1 : (ee == b) = true := by rw [heb]; exact beq_self_eq_true _
          have hx2 : (ee != b) = false := by rw [bne_eq_false_iff_eq]; exact heb
          obtain ⟨s0, s1, z0, z1⟩ := HR9.out.rc.rs
          obtain ⟨f0, f1, -⟩ := HR9.out.rc.rc
          have HFI := Aside0.mk HR9.out.rc.fin
          clear heb
          go_wp2
          obtain ⟨hI, hB9, q0, q1⟩ := HFI.out
          have HI := Aside0.mk hI
          have HB10 := Aside0.mk hB9
          clear hI hB9 f0 f1 s0 s1 z0 z1
          refine bodyPost_ret (v := .tuple #[.agg #[.int .u64 (sq : Int), .slice Ai ni ci], .int .i64 0]) (by simp [results, Try.results17, go_sem, q0, q1]) rfl ⟨HB10.out, .inl ⟨HIS.out, .slice Ai ni ci, by rw [HSQ.out], by rw [HIT.out]; exact HI.out⟩⟩
        · have HNO := Aside0.mk (show ¬ RecIs b from fun hr => heb (by rw [← HEE.out]; exact (HIFF.out.1 hr).2))
          have hx1 : (ee == b) = false := by rw [beq_eq_false_iff_ne]; exact heb
          have hx2 : (ee != b) = true := by rw [bne_iff_ne]; exact heb
          have HS := Aside0.mk (res_nil HB9.out HR9.out.rc.res HR9.out.rc.lo.1)
          obtain ⟨s0, s1, z0, z1⟩ := res_cells HR9.out.rc.res
          clear heb
          go_wp2
          clear s0 s1 z0 z1
          obtain ⟨hB9, q0, q1⟩ := HS.out
          refine bodyPost_ret (v := .tuple #[.agg #[.int .u64 0, .slice none 0 0], .int .i64 111]) (by simp [results, Try.results17, go_sem, q0, q1]) rfl ⟨hB9, .inr ⟨HNO.out, rfl⟩⟩
      · have HNO := Aside0.mk (show ¬ RecIs b from fun hr => hno (HIFF.out.1 hr).1)
        have HS := Aside0.mk (res_nil HB9.out HR9.out.rc.res HR9.out.rc.lo.1)
        obtain ⟨s0, s1, z0, z1⟩ := res_cells HR9.out.rc.res
        clear hno
        go_wp2
        clear s0 s1 z0 z1
        obtain ⟨hB9, q0, q1⟩ := HS.out
        refine bodyPost_ret (v := .tuple #[.agg #[.int .u64 0, .slice none 0 0], .int .i64 111]) (by simp [results, Try.results17, go_sem, q0, q1]) rfl ⟨hB9, .inr ⟨HNO.out, rfl⟩⟩
end Go.Proofs.Ytefgahakbnfdeaa.Rc
