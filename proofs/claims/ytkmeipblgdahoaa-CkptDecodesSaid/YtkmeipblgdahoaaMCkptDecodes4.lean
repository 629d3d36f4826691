/- Part 4 of 5 of the proof of CkptDecodes: ZonesMem, ZonesMemT, CkptBox, CkptEnc, RefKit, RefRises, RefCkEnc, CkptPlc, CkptDec, RefCkDecP. -/
import Derived.Test.YtkmeipblgdahoaaMCkptDecodes3
import Derived.Test.YtkmeipblgdahoaaWFootNe
import Derived.Deep.Cut
/- Zones of a device: the words of its walk: what a round of the range over a function keeps; marks. -/
namespace Go.Proofs.Ytkmeipblgdahoaa.Dv
open Go.RowKit Go.Shelf Go.Proofs.YtkmeipblgdahoaaW.PrintWords Go.Proofs.YtkmeipblgdahoaaW.PrintMore Go.Proofs.Ytkmeipblgdahoaa.Base Go.Proofs.Ytkmeipblgdahoaa.Shp
set_option maxRecDepth 100000
set_option linter.unusedVariables false
set_option linter.unusedSimpArgs false
def CellsAt (W : World) (k : Nat) : Prop := ∃ o, W.heap[k]? = some o ∧ o.isCells = true
theorem CellsAt.grown {W W' : World} {k : Nat} (h : CellsAt W k) {row : Option Nat} (hg : W.grownBy W' row) (hr : row ≠ some k) : CellsAt W' k := by
  obtain ⟨o, h1, h2⟩ := h
  exact ⟨o, (hg.block k (Array.getElem?_eq_some_iff.1 h1).1 (fun e => hr e.symm)).trans h1, h2⟩
/-- A zone that is gathered: its box, its row of blocks. -/
structure ZI (w1 W : World) (gz : Nat) (du : Int) (v : Value) (xs : List (List UInt8)) (S : Nat → Prop) : Prop where
  blk : W.heap[gz]? = some (.cells #[v, .int .i64 du] 77 (0, 0))
  row : Kd.N bytesK 39 W w1.heap.size S v xs
  ft : ∀ k, S k → w1.heap.size ≤ k ∧ k < W.heap.size ∧ CellsAt W k
  chg : Chg w1 W (fun k => k = gz)
section
variable {w1 W W' : World} {gz : Nat} {du : Int} {v v1 : Value} {xs ys : List (List UInt8)} {S O : Nat → Prop}
theorem ZI.blkEq (h : ZI w1 W gz du v xs S) : gz < W.heap.size := (Array.getElem?_eq_some_iff.1 h.blk).1
theorem ZI.grown (h : ZI w1 W gz du v xs S) (hgz : gz < w1.heap.size) {row : Option Nat} (hg : W.grownBy W' row) (hr : ∀ r, row = some r → w1.heap.size ≤ r ∧ ∃ o : Obj, W.heap[r]? = some o ∧ o.isCells = false) : ZI w1 W' gz du v xs S := by
  have hne : ∀ k, S k → row ≠ some k := by
    intro k hk e
    obtain ⟨_, o, h1, h2⟩ := hr k e
    obtain ⟨_, _, o', h3, h4⟩ := h.ft k hk
    rw [h1] at h3
    injection h3 with h3
    subst h3
    rw [h2] at h4
    cases h4
  refine ⟨?_, Kd.N_grown h.row hg (fun k hk e => hne k hk e.symm), fun k hk => ⟨(h.ft k hk).1, Nat.lt_of_lt_of_le (h.ft k hk).2.1 hg.size, (h.ft k hk).2.2.grown hg (hne k hk)⟩, h.chg.grown hg (fun k e => .inr (hr k e).1)⟩
  rw [hg.block gz h.blkEq (fun e => by have := (hr gz e.symm).1; omega)]
  exact h.blk
theorem ZI.below (h : ZI w1 W gz du v xs S) (hgz : gz < w1.heap.size) (hb : Below W.heap.size W W') : ZI w1 W' gz du v xs S :=
  h.grown hgz (row := none) ⟨hb.os, hb.tape, hb.output, hb.size, fun k hk _ => hb.block k hk⟩ (fun r e => by cases e)
end
/-- The pieces of bytes. -/
def piece (b : Nat) (xs : List UInt8) (k : Nat) : List UInt8 := (xs.drop (k * b)).take b
def pieces (b cnt : Nat) (xs : List UInt8) : List (List UInt8) := (List.finRange cnt).map fun k => piece b xs k.1
def partZ (b : Nat) (p : Prt) : Zn := (pieces b (p.1.length / b) p.1, p.2)
/-- Marks of loops over functions that have ended. -/
def Marks (B : Nat) (W : World) : List Deferred → Prop
  | [] => True
  | d :: ds => (∃ D, d.target = .collected D ∧ B ≤ D ∧ W.heap[D]? = some (.deferred (some [])) ∧ ∀ d' ∈ ds, d'.target ≠ .collected D) ∧ Marks B W ds
theorem Marks.grown {B : Nat} {W W' : World} {row : Option Nat} (hg : W.grownBy W' row) : ∀ {ds : List Deferred}, Marks B W ds → (∀ r, row = some r → ∀ d ∈ ds, d.target ≠ .collected r) → Marks B W' ds
  | [], _, _ => trivial
  | d :: ds, h, hr => by
    obtain ⟨⟨D, h1, h2, h3, h4⟩, h5⟩ := h
    refine ⟨⟨D, h1, h2, ?_, h4⟩, Marks.grown hg h5 (fun r e d' hd' => hr r e d' (List.mem_cons_of_mem _ hd'))⟩
    rw [hg.block D (Array.getElem?_eq_some_iff.1 h3).1 (fun e => hr D e.symm d (List.mem_cons_self ..) h1)]
    exact h3
theorem Marks.below {B : Nat} {W W' : World} (hb : Below W.heap.size W W') {ds : List Deferred} (h : Marks B W ds) : Marks B W' ds :=
  h.grown (row := none) ⟨hb.os, hb.tape, hb.output, hb.size, fun k hk _ => hb.block k hk⟩ (fun r e => by cases e)
theorem Marks.lt {B : Nat} {W : World} : ∀ {ds : List Deferred}, Marks B W ds → ∀ d ∈ ds, ∀ r, d.target = .collected r → B ≤ r ∧ r < W.heap.size ∧ W.heap[r]? = some (.deferred (some []))
  | d :: ds, ⟨⟨D, h1, h2, h3, _⟩, h5⟩, d', hd', r, hr => by
    rcases List.mem_cons.1 hd' with rfl | hd'
    · rw [h1] at hr
      injection hr with hr
      subst hr
      exact ⟨h2, (Array.getElem?_eq_some_iff.1 h3).1, h3⟩
    · exact Marks.lt h5 d' hd' r hr
/-- A function leaves through its marks. -/
theorem leaves_marks {P : Program} {fn : Func} {tmps : Array Value} {R : Ending → World → Prop} {n B : Nat} : ∀ (ds : List Deferred) (W : World), Marks B W ds →
    (∀ W', W.heap.size ≤ W'.heap.size → W'.os = W.os → W'.tape = W.tape → W'.output = W.output → (∀ k, k < W.heap.size → (∀ d ∈ ds, d.target ≠ .collected k) → W'.heap[k]? = W.heap[k]?) → LeavesIn Fence.wide n P fn tmps R [] .returning W') → LeavesInM Fence.wide n P fn tmps R ds .returning W
  | [], W, _, h => h W (Nat.le_refl _) rfl rfl rfl (fun _ _ _ => rfl)
  | d :: ds, W, ⟨⟨D, h1, h2, h3, h4⟩, h5⟩, h => by
    refine ⟨by simp, .inl ⟨D, _, h1, run_takeDeferred h3, ?_⟩⟩
    have hg := grownBy_putObj' W D (.deferred none)
    refine leaves_marks ds _ (h5.grown hg (fun r e d' hd' => by cases e; exact h4 d' hd')) (fun W' hs ho ht hou hk => h W' (Nat.le_trans hg.size hs) (ho.trans hg.os) (ht.trans hg.tape) (hou.trans hg.output) (fun k hlt hno => ?_))
    rw [hk k (Nat.lt_of_lt_of_le hlt hg.size) (fun d' hd' => hno d' (List.mem_cons_of_mem _ hd'))]
    exact hg.block k hlt (fun e => by injection e with e; subst e; exact hno d (List.mem_cons_self ..) h1)
/-- append(v, x): a zone. -/
theorem app_zone {ops : Array Oper} {rest : List Oper} {o : Oper} {a : Act} {Q : Exit → Act → World → Prop} {W : World} (base : Nat) (E O : Nat → Prop) (s x : Operand) (hgd : o.guard = none) (ho : o.op = .call { callee := .builtin .append, args := #[s, x], argTypes := #[64, 64] })
    (v : Value) (xs : List Zn) (bs : List (List UInt8)) (d : Int) (A : Option Addr) (n c : Nat) (hp : Kd.FK zoneK W O (bs, d) [.slice A n c, .int .i64 d]) (hO : ∀ k, O k → some k ≠ v.ownBlock) (hs : a.eval s = v) (hx : a.eval x = .slice (some ⟨W.heap.size, 0, none⟩) 1 1)
    (HO : Kd.N zoneK 77 W base E v xs) (hbase : base ≤ W.heap.size) (hl : xs.length ≤ 100000)
    (h : ∀ v1 w1, Kd.N zoneK 77 w1 base (fun k => E k ∨ O k ∨ W.heap.size ≤ k) v1 (xs ++ [(bs, d)]) → W.grownBy w1 v.ownBlock → wpList Try.prog ops Q rest (a.put o.dst v1) w1) :
    wpList Try.prog ops Q (o :: rest) a (W.alloc (.cells #[.slice A n c, .int .i64 d] 77)) :=
  Kd.N_append zoneK (w0 := W) base hgd s x 64 77 _ 32 ho Try.underlying64 info_zone rfl (by decide) (by decide) v xs (bs, d) [.slice A n c, .int .i64 d] (fun k => E k ∨ O k ∨ W.heap.size ≤ k) O hs hx
    hp (fun k hk => ⟨.inr (.inl hk), hO k hk⟩) (fun k hk => .inr (.inr hk)) (Kd.N_mono HO (fun k hk => .inl hk)) (Below.refl _ _) hbase (by omega) (fun v1 w1 h1 h2 h3 _ => h v1 w1 h1 h3)
/-- A row of blocks leads to cells alone. -/
theorem N_cells {w : World} {base : Nat} {ok : Nat → Prop} {v : Value} {xs : List (List UInt8)} {e : Nat} (h : Kd.N bytesK e w base ok v xs) : Kd.N bytesK e w base (fun k => ok k ∧ CellsAt w k) v xs := by
  have hty := Kd.N_typed h
  obtain ⟨h0, rows, hl, hR, hf⟩ := h
  refine ⟨fun k hk => ⟨h0 k hk, ?_⟩, rows, hl, hR, fun j x c hx hc => ?_⟩
  · obtain ⟨cells, hcl⟩ := hty k hk
    exact ⟨_, hcl, rfl⟩
  · have hFK := hf j x c hx hc
    obtain ⟨A, cp, rfl, hcp, hF⟩ := Kd.FK_slice_open hFK
    intro W' hW
    refine ⟨A, cp, rfl, hcp, ?_⟩
    have hC := Kd.F_now hF
    rcases Nat.eq_zero_or_pos x.length with hz | hz
    · exact ⟨rfl, hC.2.1, fun hp => by omega⟩
    · obtain ⟨ad, c0, hA, _, _, hcc, hin⟩ := Kd.F_get hF 0 (0 : Int) (by omega) (by omega)
      subst hA
      have hokb := hin (by decide)
      have hlt0 : w.cell? (ad.add 0) ≠ none := by
        obtain ⟨ad', hA', hcell⟩ := byte_at hC 0 hz
        injection hA' with hA'
        subst hA'
        rw [hcell]; simp
      obtain ⟨vv, hvv⟩ := Option.ne_none_iff_exists'.1 hlt0
      have hblt := World.block_lt_of_cell? w _ hvv
      rw [add_block] at hblt
      have hcells : CellsAt w ad.block := by
        have hb := hvv
        unfold World.cell? at hb
        rw [add_block] at hb
        cases ho : w.heap[ad.block]? with
        | none => rw [ho] at hb; simp at hb
        | some o =>
          rw [ho] at hb
          cases o with
          | cells _ _ _ => exact ⟨_, ho, rfl⟩
          | _ => simp at hb
      have heq : W'.heap[ad.block]? = w.heap[ad.block]? := hW ad.block ⟨⟨hokb.1, hcells⟩, hokb.2⟩ hblt
      refine ⟨hC.1, hC.2.1, fun hp => ?_⟩
      obtain ⟨ad', hA', hall⟩ := hC.2.2 hp
      injection hA' with hA'
      subst hA'
      refine ⟨ad, rfl, fun i y hy => ?_⟩
      obtain ⟨cs, h1, h2, h3⟩ := hall i y hy
      refine ⟨cs, h1, h2, fun q u hu => ?_⟩
      rw [World.cell?_of_block (w := w) (by rw [add_block]; exact heq)]
      exact h3 q u hu
theorem CellsAt.far {W : World} {p : Addr} {u : Value} {k : Nat} (h : CellsAt W k) (hk : k ≠ p.block) : CellsAt (W.setCell p u) k := by
  obtain ⟨o, h1, h2⟩ := h
  exact ⟨o, (Below.heap_setCell W p u k hk).trans h1, h2⟩
/-- A zone that is gathered has one block more. -/
theorem ZI.add {w1 Wq w8 w9 : World} {gz : Nat} {du : Int} {v v9 : Value} {xs ys : List (List UInt8)} {S O : Nat → Prop} (h : ZI w1 w8 gz du v xs S) (hgz : gz < w1.heap.size) (hq : w1.heap.size ≤ Wq.heap.size) (hN : Kd.N bytesK 39 w9 w1.heap.size (fun k => S k ∨ O k ∨ w8.heap.size ≤ k) v9 ys) (hg : w8.grownBy w9 v.ownBlock)
    (hO : ∀ k, O k → Wq.heap.size ≤ k) (hs8 : w1.heap.size ≤ w8.heap.size) : ∃ S', ZI w1 (w9.setCell ⟨gz, 0, none⟩ v9) gz du v9 ys S' := by
  have hge : ∀ k, (S k ∨ O k ∨ w8.heap.size ≤ k) → w1.heap.size ≤ k := fun k hk => by
    rcases hk with h1 | h1 | h1
    · exact (h.ft k h1).1
    · exact Nat.le_trans hq (hO k h1)
    · exact Nat.le_trans hs8 h1
  have hb9 : w9.heap[gz]? = some (.cells #[v, .int .i64 du] 77 (0, 0)) := by
    rw [hg.block gz h.blkEq (fun e => by have := Kd.N_base h.row gz e.symm; omega)]
    exact h.blk
  have hN' := N_cells (Kd.N_bound hN)
  refine ⟨fun k => ((S k ∨ O k ∨ w8.heap.size ≤ k) ∧ k < w9.heap.size) ∧ CellsAt w9 k, blk_set hb9 0 v9, Kd.N_far hN' (fun k hk e => ?_) _, fun k hk => ⟨hge k hk.1.1, by simpa [World.setCell] using hk.1.2, hk.2.far (fun e => ?_)⟩, (h.chg.grown hg (fun k e => .inr (Kd.N_base h.row k e))).set (.inl rfl) _⟩
  · have := hge k hk.1.1
    have e' : k = gz := e
    omega
  · have := hge k hk.1.1
    have e' : k = gz := e
    omega
/-- append(v, x) in a region that draws: a block. -/
theorem app_blk_step {ops : Array Oper} {o : Oper} {a : Act} {Q : Exit → Act → World → Prop} {Kc : Act → World → Prop} {W : World} (base : Nat) (E O : Nat → Prop) (s x : Operand) (hw : Region.wanted o (yielded ops a.tmps) = true) (ho : o.op = .call { callee := .builtin .append, args := #[s, x], argTypes := #[28, 28] })
    (v : Value) (xs : List (List UInt8)) (ys : List UInt8) (A : Option Addr) (n c : Nat) (hp : Kd.FK bytesK W O ys [.slice A n c]) (hO : ∀ k, O k → some k ≠ v.ownBlock) (hs : a.eval s = v) (hx : a.eval x = .slice (some ⟨W.heap.size, 0, none⟩) 1 1)
    (HO : Kd.N bytesK 39 W base E v xs) (hbase : base ≤ W.heap.size) (hl : xs.length ≤ 100000)
    (h : ∀ v1 w1, Kd.N bytesK 39 w1 base (fun k => E k ∨ O k ∨ W.heap.size ≤ k) v1 (xs ++ [ys]) → W.grownBy w1 v.ownBlock → Kc (a.put o.dst v1) w1) :
    if Region.wanted o (yielded ops a.tmps) = true then Oper.wp Try.prog o a (W.alloc (.cells #[.slice A n c] 39)) Kc Q else Kc (a.put o.dst undef) (W.alloc (.cells #[.slice A n c] 39)) :=
  Kd.N_append_step bytesK (w0 := W) base hw s x 28 39 _ 24 ho Try.underlying28 info_bytes rfl (by decide) (by decide) v xs ys [.slice A n c] (fun k => E k ∨ O k ∨ W.heap.size ≤ k) O hs hx
    hp (fun k hk => ⟨.inr (.inl hk), hO k hk⟩) (fun k hk => .inr (.inr hk)) (Kd.N_mono HO (fun k hk => .inl hk)) (Below.refl _ _) hbase (by omega) (fun v1 w1 h1 h2 h3 _ => h v1 w1 h1 h3)
end Go.Proofs.Ytkmeipblgdahoaa.Dv

/- Zones of a device, told with the marks of the blocks: the kinds, the words. Written by genzonest.py. -/
namespace Go.Proofs.Ytkmeipblgdahoaa.Dv.T
open Go.RowKit Go.Shelf Go.Proofs.YtkmeipblgdahoaaW.PrintWords Go.Proofs.YtkmeipblgdahoaaW.PrintMore Go.Proofs.Ytkmeipblgdahoaa.Base Go.Proofs.Ytkmeipblgdahoaa.Shp
set_option maxRecDepth 100000
set_option linter.unusedVariables false
set_option linter.unusedSimpArgs false
/-- The bytes' block bears no mark. -/
def Typ (w : World) (cs : List Value) : Prop := ∀ (ad : Addr) (n c : Nat), cs = [.slice (some ad) n c] → 0 < n → ∃ vs, w.heap[ad.block]? = some (.cells vs 5 (0, 0))
theorem Typ.move {w w1 : World} {cs : List Value} (h : Typ w cs) (hm : ∀ ad n c, cs = [.slice (some ad) n c] → 0 < n → w1.heap[ad.block]? = w.heap[ad.block]?) : Typ w1 cs := by
  intro ad n c e hp
  obtain ⟨vs, hv⟩ := h ad n c e hp
  exact ⟨vs, (hm ad n c e hp).trans hv⟩
def bytesK : Kd (List UInt8) where
  sz := 1
  E := []
  K := fun w x cs => Dv.bytesK.K w x cs ∧ Typ w cs
  M := fun _ _ _ _ _ => False
  K_len := fun h => Dv.bytesK.K_len h.1
  K_one := fun h => Dv.bytesK.K_one h.1
  K_below := fun hb h => ⟨Dv.bytesK.K_below hb h.1, h.2.move (fun ad n c e hp => by
    obtain ⟨vs, hv⟩ := h.2 ad n c e hp
    exact hb.block _ (Array.getElem?_eq_some_iff.1 hv).1)⟩
  K_of_M := fun h => h.elim
  M_mono := fun _ h => h
  M_bound := fun h => h.elim
  M_move := fun _ h => h
  M_lower := fun _ h => h
def blocksK : Kd (List (List UInt8)) := Kd.slice 39 bytesK
def zoneK : Kd Zn := Kd.pair blocksK (num .i64)
theorem FK_plain {w : World} {ok : Nat → Prop} {x : List UInt8} {c : List Value} (h : Kd.FK bytesK w ok x c) : Kd.FK Dv.bytesK w ok x c := fun W' hW => (h W' hW).1
theorem C_plain {w : World} {A : Option Addr} {n : Nat} {xs : List (List UInt8)} (h : bytesK.C w A n xs) : Dv.bytesK.C w A n xs := by
  refine ⟨h.1, h.2.1, fun hp => ?_⟩
  obtain ⟨ad, e, hh⟩ := h.2.2 hp
  refine ⟨ad, e, fun i y hy => ?_⟩
  obtain ⟨cs, h1, h2, h3⟩ := hh i y hy
  exact ⟨cs, h1, h2.1, h3⟩
theorem zone_plain {w : World} {p : Zn} {c : List Value} (h : zoneK.K w p c) : Dv.zoneK.K w p c := by
  obtain ⟨c0, c1, rfl, ⟨A, k, rfl, h1, h2⟩, h3⟩ := h
  exact ⟨_, _, rfl, ⟨A, k, rfl, h1, C_plain h2⟩, h3⟩
theorem N_plain {e base : Nat} {w : World} {ok : Nat → Prop} {v : Value} {xs : List Zn} (h : Kd.N zoneK e w base ok v xs) : Kd.N Dv.zoneK e w base ok v xs := by
  obtain ⟨h0, rows, hl, hR, hf⟩ := h
  exact ⟨h0, rows, hl, hR, fun j x c hx hc W' hW => zone_plain (hf j x c hx hc W' hW)⟩
theorem own_FK {w : World} {base : Nat} {A : Option Addr} {n c : Nat} {xs : List UInt8} (h : Base.Own w base (.slice A n c) xs) : Kd.FK bytesK w (fun k => some k = (Value.slice A n c).ownBlock) xs [.slice A n c] := by
  intro W' hW
  refine ⟨Dv.own_FK h W' hW, ?_⟩
  intro ad n' c' e hp
  simp only [List.cons.injEq, Value.slice.injEq, and_true] at e
  obtain ⟨rfl, rfl, rfl⟩ := e
  obtain ⟨vs, hv⟩ := Kd.R_typed h ad.block rfl
  exact ⟨vs, (hW ad.block rfl (Array.getElem?_eq_some_iff.1 hv).1).trans hv⟩
theorem zone_K {w : World} {bs : List (List UInt8)} {d : Int} {A : Option Addr} {c : Nat} {ok : Nat → Prop} (hf : Kd.F bytesK w ok A bs.length bs) (hc : bs.length ≤ c) (hd : IsI d) : Kd.FK zoneK w ok (bs, d) [.slice A bs.length c, .int .i64 d] := by
  obtain ⟨d1, d2⟩ := hd
  exact fun W' hW => ⟨[_], [_], rfl, ⟨A, c, rfl, hc, hf W' hW⟩, ⟨rfl, by simp [Lit.wf, IntKind.min, IntKind.max, IntKind.bits, IntKind.signed]; omega⟩⟩
/-- A zone that is gathered: its box, its row of blocks. -/
structure ZI (w1 W : World) (gz : Nat) (du : Int) (v : Value) (xs : List (List UInt8)) (S : Nat → Prop) : Prop where
  blk : W.heap[gz]? = some (.cells #[v, .int .i64 du] 77 (0, 0))
  row : Kd.N bytesK 39 W w1.heap.size S v xs
  ft : ∀ k, S k → w1.heap.size ≤ k ∧ k < W.heap.size ∧ CellsAt W k
  chg : Chg w1 W (fun k => k = gz)
section
variable {w1 W W' : World} {gz : Nat} {du : Int} {v v1 : Value} {xs ys : List (List UInt8)} {S O : Nat → Prop}
theorem ZI.blkEq (h : ZI w1 W gz du v xs S) : gz < W.heap.size := (Array.getElem?_eq_some_iff.1 h.blk).1
theorem ZI.grown (h : ZI w1 W gz du v xs S) (hgz : gz < w1.heap.size) {row : Option Nat} (hg : W.grownBy W' row) (hr : ∀ r, row = some r → w1.heap.size ≤ r ∧ ∃ o : Obj, W.heap[r]? = some o ∧ o.isCells = false) : ZI w1 W' gz du v xs S := by
  have hne : ∀ k, S k → row ≠ some k := by
    intro k hk e
    obtain ⟨_, o, h1, h2⟩ := hr k e
    obtain ⟨_, _, o', h3, h4⟩ := h.ft k hk
    rw [h1] at h3
    injection h3 with h3
    subst h3
    rw [h2] at h4
    cases h4
  refine ⟨?_, Kd.N_grown h.row hg (fun k hk e => hne k hk e.symm), fun k hk => ⟨(h.ft k hk).1, Nat.lt_of_lt_of_le (h.ft k hk).2.1 hg.size, (h.ft k hk).2.2.grown hg (hne k hk)⟩, h.chg.grown hg (fun k e => .inr (hr k e).1)⟩
  rw [hg.block gz h.blkEq (fun e => by have := (hr gz e.symm).1; omega)]
  exact h.blk
theorem ZI.below (h : ZI w1 W gz du v xs S) (hgz : gz < w1.heap.size) (hb : Below W.heap.size W W') : ZI w1 W' gz du v xs S :=
  h.grown hgz (row := none) ⟨hb.os, hb.tape, hb.output, hb.size, fun k hk _ => hb.block k hk⟩ (fun r e => by cases e)
end
/-- append(v, x): a zone. -/
theorem app_zone {ops : Array Oper} {rest : List Oper} {o : Oper} {a : Act} {Q : Exit → Act → World → Prop} {W : World} (base : Nat) (E O : Nat → Prop) (s x : Operand) (hgd : o.guard = none) (ho : o.op = .call { callee := .builtin .append, args := #[s, x], argTypes := #[64, 64] })
    (v : Value) (xs : List Zn) (bs : List (List UInt8)) (d : Int) (A : Option Addr) (n c : Nat) (hp : Kd.FK zoneK W O (bs, d) [.slice A n c, .int .i64 d]) (hO : ∀ k, O k → some k ≠ v.ownBlock) (hs : a.eval s = v) (hx : a.eval x = .slice (some ⟨W.heap.size, 0, none⟩) 1 1)
    (HO : Kd.N zoneK 77 W base E v xs) (hbase : base ≤ W.heap.size) (hl : xs.length ≤ 100000)
    (h : ∀ v1 w1, Kd.N zoneK 77 w1 base (fun k => E k ∨ O k ∨ W.heap.size ≤ k) v1 (xs ++ [(bs, d)]) → W.grownBy w1 v.ownBlock → wpList Try.prog ops Q rest (a.put o.dst v1) w1) :
    wpList Try.prog ops Q (o :: rest) a (W.alloc (.cells #[.slice A n c, .int .i64 d] 77)) :=
  Kd.N_append zoneK (w0 := W) base hgd s x 64 77 _ 32 ho Try.underlying64 info_zone rfl (by decide) (by decide) v xs (bs, d) [.slice A n c, .int .i64 d] (fun k => E k ∨ O k ∨ W.heap.size ≤ k) O hs hx
    hp (fun k hk => ⟨.inr (.inl hk), hO k hk⟩) (fun k hk => .inr (.inr hk)) (Kd.N_mono HO (fun k hk => .inl hk)) (Below.refl _ _) hbase (by omega) (fun v1 w1 h1 h2 h3 _ => h v1 w1 h1 h3)
theorem FK_cells {w : World} {ok : Nat → Prop} {x : List UInt8} {c : List Value} (hFK : Kd.FK Dv.bytesK w ok x c) : Kd.FK Dv.bytesK w (fun k => ok k ∧ CellsAt w k) x c := by
  obtain ⟨A, cp, rfl, hcp, hF⟩ := Kd.FK_slice_open hFK
  intro W' hW
  refine ⟨A, cp, rfl, hcp, ?_⟩
  have hC := Kd.F_now hF
  rcases Nat.eq_zero_or_pos x.length with hz | hz
  · exact ⟨rfl, hC.2.1, fun hp => by omega⟩
  · obtain ⟨ad, c0, hA, _, _, hcc, hin⟩ := Kd.F_get hF 0 (0 : Int) (by omega) (by omega)
    subst hA
    have hokb := hin (by decide)
    have hlt0 : w.cell? (ad.add 0) ≠ none := by
      obtain ⟨ad', hA', hcell⟩ := byte_at hC 0 hz
      injection hA' with hA'
      subst hA'
      rw [hcell]; simp
    obtain ⟨vv, hvv⟩ := Option.ne_none_iff_exists'.1 hlt0
    have hblt := World.block_lt_of_cell? w _ hvv
    rw [add_block] at hblt
    have hcells : CellsAt w ad.block := by
      have hb := hvv
      unfold World.cell? at hb
      rw [add_block] at hb
      cases ho : w.heap[ad.block]? with
      | none => rw [ho] at hb; simp at hb
      | some o =>
        rw [ho] at hb
        cases o with
        | cells _ _ _ => exact ⟨_, ho, rfl⟩
        | _ => simp at hb
    have heq : W'.heap[ad.block]? = w.heap[ad.block]? := hW ad.block ⟨hokb, hcells⟩ hblt
    refine ⟨hC.1, hC.2.1, fun hp => ?_⟩
    obtain ⟨ad', hA', hall⟩ := hC.2.2 hp
    injection hA' with hA'
    subst hA'
    refine ⟨ad, rfl, fun i y hy => ?_⟩
    obtain ⟨cs, h1, h2, h3⟩ := hall i y hy
    refine ⟨cs, h1, h2, fun q u hu => ?_⟩
    rw [World.cell?_of_block (w := w) (by rw [add_block]; exact heq)]
    exact h3 q u hu
/-- A row of blocks leads to cells alone. -/
theorem N_cells {w : World} {base : Nat} {ok : Nat → Prop} {v : Value} {xs : List (List UInt8)} {e : Nat} (h : Kd.N bytesK e w base ok v xs) : Kd.N bytesK e w base (fun k => ok k ∧ CellsAt w k) v xs := by
  have hty := Kd.N_typed h
  obtain ⟨h0, rows, hl, hR, hf⟩ := h
  refine ⟨fun k hk => ⟨h0 k hk, ?_⟩, rows, hl, hR, fun j x c hx hc => ?_⟩
  · obtain ⟨cells, hcl⟩ := hty k hk
    exact ⟨_, hcl, rfl⟩
  · have hFK := hf j x c hx hc
    intro W' hW
    refine ⟨Kd.FK_mono (FK_cells (FK_plain hFK)) (fun k hk => ⟨⟨hk.1.1, hk.2⟩, hk.1.2⟩) W' hW, ?_⟩
    have hT := (Kd.FK_now hFK).2
    refine hT.move (fun ad n cp e hp => ?_)
    subst e
    obtain ⟨vs, hv⟩ := hT ad n cp rfl hp
    obtain ⟨A, cp', e', hcp, hF⟩ := Kd.FK_slice_open (FK_plain hFK)
    simp only [List.cons.injEq, Value.slice.injEq, and_true] at e'
    obtain ⟨rfl, rfl, rfl⟩ := e'
    have hin := Kd.F_in hF rfl hp (by decide)
    exact hW ad.block ⟨⟨hin.1, _, hv, rfl⟩, hin.2⟩ (Array.getElem?_eq_some_iff.1 hv).1
/-- A zone that is gathered has one block more. -/
theorem ZI.add {w1 Wq w8 w9 : World} {gz : Nat} {du : Int} {v v9 : Value} {xs ys : List (List UInt8)} {S O : Nat → Prop} (h : ZI w1 w8 gz du v xs S) (hgz : gz < w1.heap.size) (hq : w1.heap.size ≤ Wq.heap.size) (hN : Kd.N bytesK 39 w9 w1.heap.size (fun k => S k ∨ O k ∨ w8.heap.size ≤ k) v9 ys) (hg : w8.grownBy w9 v.ownBlock)
    (hO : ∀ k, O k → Wq.heap.size ≤ k) (hs8 : w1.heap.size ≤ w8.heap.size) : ∃ S', ZI w1 (w9.setCell ⟨gz, 0, none⟩ v9) gz du v9 ys S' := by
  have hge : ∀ k, (S k ∨ O k ∨ w8.heap.size ≤ k) → w1.heap.size ≤ k := fun k hk => by
    rcases hk with h1 | h1 | h1
    · exact (h.ft k h1).1
    · exact Nat.le_trans hq (hO k h1)
    · exact Nat.le_trans hs8 h1
  have hb9 : w9.heap[gz]? = some (.cells #[v, .int .i64 du] 77 (0, 0)) := by
    rw [hg.block gz h.blkEq (fun e => by have := Kd.N_base h.row gz e.symm; omega)]
    exact h.blk
  have hN' := N_cells (Kd.N_bound hN)
  refine ⟨fun k => ((S k ∨ O k ∨ w8.heap.size ≤ k) ∧ k < w9.heap.size) ∧ CellsAt w9 k, blk_set hb9 0 v9, Kd.N_far hN' (fun k hk e => ?_) _, fun k hk => ⟨hge k hk.1.1, by simpa [World.setCell] using hk.1.2, hk.2.far (fun e => ?_)⟩, (h.chg.grown hg (fun k e => .inr (Kd.N_base h.row k e))).set (.inl rfl) _⟩
  · have := hge k hk.1.1
    have e' : k = gz := e
    omega
  · have := hge k hk.1.1
    have e' : k = gz := e
    omega
/-- append(v, x) in a region that draws: a block. -/
theorem app_blk_step {ops : Array Oper} {o : Oper} {a : Act} {Q : Exit → Act → World → Prop} {Kc : Act → World → Prop} {W : World} (base : Nat) (E O : Nat → Prop) (s x : Operand) (hw : Region.wanted o (yielded ops a.tmps) = true) (ho : o.op = .call { callee := .builtin .append, args := #[s, x], argTypes := #[28, 28] })
    (v : Value) (xs : List (List UInt8)) (ys : List UInt8) (A : Option Addr) (n c : Nat) (hp : Kd.FK bytesK W O ys [.slice A n c]) (hO : ∀ k, O k → some k ≠ v.ownBlock) (hs : a.eval s = v) (hx : a.eval x = .slice (some ⟨W.heap.size, 0, none⟩) 1 1)
    (HO : Kd.N bytesK 39 W base E v xs) (hbase : base ≤ W.heap.size) (hl : xs.length ≤ 100000)
    (h : ∀ v1 w1, Kd.N bytesK 39 w1 base (fun k => E k ∨ O k ∨ W.heap.size ≤ k) v1 (xs ++ [ys]) → W.grownBy w1 v.ownBlock → Kc (a.put o.dst v1) w1) :
    if Region.wanted o (yielded ops a.tmps) = true then Oper.wp Try.prog o a (W.alloc (.cells #[.slice A n c] 39)) Kc Q else Kc (a.put o.dst undef) (W.alloc (.cells #[.slice A n c] 39)) :=
  Kd.N_append_step bytesK (w0 := W) base hw s x 28 39 _ 24 ho Try.underlying28 info_bytes rfl (by decide) (by decide) v xs ys [.slice A n c] (fun k => E k ∨ O k ∨ W.heap.size ≤ k) O hs hx
    hp (fun k hk => ⟨.inr (.inl hk), hO k hk⟩) (fun k hk => .inr (.inr hk)) (Kd.N_mono HO (fun k hk => .inl hk)) (Below.refl _ _) hbase (by omega) (fun v1 w1 h1 h2 h3 _ => h v1 w1 h1 h3)
end Go.Proofs.Ytkmeipblgdahoaa.Dv.T

/- Blocks that a range over a function gathers in a variable: what a round keeps. -/
namespace Go.Proofs.Ytkmeipblgdahoaa.Ck
open Go.RowKit Go.Shelf Go.Proofs.YtkmeipblgdahoaaW.PrintWords Go.Proofs.YtkmeipblgdahoaaW.PrintMore Go.Proofs.Ytkmeipblgdahoaa.Base Go.Proofs.Ytkmeipblgdahoaa.Dv.T
open Go.Proofs.Ytkmeipblgdahoaa.Dv (CellsAt Chg)
set_option maxRecDepth 100000
set_option linter.unusedVariables false
set_option linter.unusedSimpArgs false
/-- Blocks that are gathered in a box. -/
structure BI (w1 W : World) (gz : Nat) (v : Value) (xs : List (List UInt8)) (S : Nat → Prop) : Prop where
  blk : W.heap[gz]? = some (.cells #[v] 28 (0, 0))
  row : Kd.N bytesK 39 W w1.heap.size S v xs
  ft : ∀ k, S k → w1.heap.size ≤ k ∧ k < W.heap.size ∧ CellsAt W k
  chg : Chg w1 W (fun k => k = gz)
section
variable {w1 W W' : World} {gz : Nat} {v v1 : Value} {xs ys : List (List UInt8)} {S O : Nat → Prop}
theorem BI.blkEq (h : BI w1 W gz v xs S) : gz < W.heap.size := (Array.getElem?_eq_some_iff.1 h.blk).1
theorem BI.grown (h : BI w1 W gz v xs S) (hgz : gz < w1.heap.size) {row : Option Nat} (hg : W.grownBy W' row) (hr : ∀ r, row = some r → w1.heap.size ≤ r ∧ ∃ o : Obj, W.heap[r]? = some o ∧ o.isCells = false) : BI w1 W' gz v xs S := by
  have hne : ∀ k, S k → row ≠ some k := by
    intro k hk e
    obtain ⟨_, o, h1, h2⟩ := hr k e
    obtain ⟨_, _, o', h3, h4⟩ := h.ft k hk
    rw [h1] at h3
    injection h3 with h3
    subst h3
    rw [h2] at h4
    cases h4
  refine ⟨?_, Kd.N_grown h.row hg (fun k hk e => hne k hk e.symm), fun k hk => ⟨(h.ft k hk).1, Nat.lt_of_lt_of_le (h.ft k hk).2.1 hg.size, (h.ft k hk).2.2.grown hg (hne k hk)⟩, h.chg.grown hg (fun k e => .inr (hr k e).1)⟩
  rw [hg.block gz h.blkEq (fun e => by have := (hr gz e.symm).1; omega)]
  exact h.blk
theorem BI.below (h : BI w1 W gz v xs S) (hgz : gz < w1.heap.size) (hb : Below W.heap.size W W') : BI w1 W' gz v xs S :=
  h.grown hgz (row := none) ⟨hb.os, hb.tape, hb.output, hb.size, fun k hk _ => hb.block k hk⟩ (fun r e => by cases e)
end
/-- One block more. -/
theorem BI.add {w1 Wq w8 w9 : World} {gz : Nat} {v v9 : Value} {xs ys : List (List UInt8)} {S O : Nat → Prop} (h : BI w1 w8 gz v xs S) (hgz : gz < w1.heap.size) (hq : w1.heap.size ≤ Wq.heap.size) (hN : Kd.N bytesK 39 w9 w1.heap.size (fun k => S k ∨ O k ∨ w8.heap.size ≤ k) v9 ys) (hg : w8.grownBy w9 v.ownBlock)
    (hO : ∀ k, O k → Wq.heap.size ≤ k) (hs8 : w1.heap.size ≤ w8.heap.size) : ∃ S', BI w1 (w9.setCell ⟨gz, 0, none⟩ v9) gz v9 ys S' := by
  have hge : ∀ k, (S k ∨ O k ∨ w8.heap.size ≤ k) → w1.heap.size ≤ k := fun k hk => by
    rcases hk with h1 | h1 | h1
    · exact (h.ft k h1).1
    · exact Nat.le_trans hq (hO k h1)
    · exact Nat.le_trans hs8 h1
  have hb9 : w9.heap[gz]? = some (.cells #[v] 28 (0, 0)) := by
    rw [hg.block gz h.blkEq (fun e => by have := Kd.N_base h.row gz e.symm; omega)]
    exact h.blk
  have hN' := N_cells (Kd.N_bound hN)
  refine ⟨fun k => ((S k ∨ O k ∨ w8.heap.size ≤ k) ∧ k < w9.heap.size) ∧ CellsAt w9 k, blk_set hb9 0 v9, Kd.N_far hN' (fun k hk e => ?_) _, fun k hk => ⟨hge k hk.1.1, by simpa [World.setCell] using hk.1.2, hk.2.far (fun e => ?_)⟩, (h.chg.grown hg (fun k e => .inr (Kd.N_base h.row k e))).set (.inl rfl) _⟩
  · have := hge k hk.1.1
    have e' : k = gz := e
    omega
  · have := hge k hk.1.1
    have e' : k = gz := e
    omega
/-- A literal of one block. -/
theorem lit_one (W : World) (base : Nat) (hb : base ≤ W.heap.size) {xs : List UInt8} {A : Option Addr} {n c : Nat} {O : Nat → Prop} (hp : Kd.FK bytesK W O xs [.slice A n c]) :
    Kd.N bytesK 39 (W.alloc (.cells #[.slice A n c] 39)) base (fun k => O k ∨ W.heap.size ≤ k) (.slice (some ⟨W.heap.size, 0, none⟩) 1 1) [xs] := by
  have hR : (Kd.raw bytesK.sz).R 39 (W.alloc (.cells #[.slice A n c] 39)) base (fun k => k = W.heap.size) (.slice (some ⟨W.heap.size, 0, none⟩) 1 1) [[.slice A n c]] := by
    refine ⟨fun k hk => ?_, [.slice A n c], ?_, ?_⟩
    · have : W.heap.size = k := by simpa [Value.ownBlock] using hk
      exact this.symm
    · have h2 := World.ownsRow_lit (base := base) (e := 39) (size := 1) W #[.slice A n c] 1 hb (by simp [maxLen]) rfl
      exact h2
    · refine ⟨rfl, fun j p hj => ?_⟩
      cases j with
      | zero => simp at hj; subst hj; exact ⟨rfl, rfl, fun u hu => by rw [List.mem_singleton.1 hu]; rfl⟩
      | succ j => simp at hj
  refine Kd.N_made hR (World.grownBy_alloc W _ none) ⟨W.heap.size, by simp [Value.ownBlock], Nat.le_refl _⟩ rfl (fun j x c' hx hc => ?_) (fun k hk => .inl hk) (.inr (Nat.le_refl _))
  cases j with
  | zero => simp at hx hc; subst hx hc; exact hp
  | succ j => simp at hx
end Go.Proofs.Ytkmeipblgdahoaa.Ck

/- ckpt.Encode: a state as blocks. -/
namespace Go.Proofs.Ytkmeipblgdahoaa.Ck
open Go.RowKit Go.Shelf Go.Proofs.YtkmeipblgdahoaaW.PrintWords Go.Proofs.YtkmeipblgdahoaaW.PrintMore Go.Proofs.Ytkmeipblgdahoaa.Base Go.Proofs.Ytkmeipblgdahoaa.Rc Go.Proofs.Ytkmeipblgdahoaa.Shp
set_option maxRecDepth 100000
set_option linter.unusedVariables false
set_option linter.unusedSimpArgs false
theorem rm_rmC (b : Nat) : rm (b : Int) = (rmC b : Int) := by
  by_cases h : Shp.Pow (b : Int)
  · have h' : b = 64 ∨ b = 128 ∨ b = 256 ∨ b = 512 ∨ b = 1024 ∨ b = 2048 ∨ b = 4096 := by unfold Shp.Pow at h; omega
    rw [show rm (b : Int) = ((b : Int) - 27) / 16 from if_pos h, show rmC b = (b - 27) / 16 from if_pos h']
    omega
  · have h' : ¬ (b = 64 ∨ b = 128 ∨ b = 256 ∨ b = 512 ∨ b = 1024 ∨ b = 2048 ∨ b = 4096) := by unfold Shp.Pow at h; omega
    rw [show rm (b : Int) = 0 from if_neg h, show rmC b = 0 from if_neg h']
    rfl
/-- What a round of Encode's loop loads. -/
def ES (g gm : Nat) (z zb b r many : Int) (q : Nat) (w : World) : Prop :=
  w.cell? ⟨g, 0, none⟩ = some (.int .i64 z) ∧ w.cell? ⟨g, 1, none⟩ = some (.int .i64 zb) ∧ w.cell? ⟨g, 2, none⟩ = some (.int .i64 b) ∧ w.cell? ⟨g, 3, none⟩ = some (.int .i64 r) ∧ w.cell? ⟨gm, 0, none⟩ = some (.int .i64 many) ∧ w.cell? ⟨g + 1, 0, none⟩ = some (.int .u64 (q : Int))
theorem ES.move {g gm : Nat} {z zb b r many : Int} {q : Nat} {w w' : World} (h : ES g gm z zb b r many q w) (hm : ∀ k, (k = g ∨ k = g + 1 ∨ k = gm) → w'.heap[k]? = w.heap[k]?) : ES g gm z zb b r many q w' := by
  obtain ⟨h0, h1, h2, h3, h4, h5⟩ := h
  have e0 := hm g (.inl rfl)
  have e1 := hm (g + 1) (.inr (.inl rfl))
  have e2 := hm gm (.inr (.inr rfl))
  exact ⟨(World.cell?_of_block e0).trans h0, (World.cell?_of_block e0).trans h1, (World.cell?_of_block e0).trans h2, (World.cell?_of_block e0).trans h3, (World.cell?_of_block e2).trans h4, (World.cell?_of_block e1).trans h5⟩
theorem ES.below {g gm : Nat} {z zb b r many : Int} {q : Nat} {w w' : World} (h : ES g gm z zb b r many q w) (hb : Below w.heap.size w w') : ES g gm z zb b r many q w' :=
  ⟨pw_cell_below hb h.1, pw_cell_below hb h.2.1, pw_cell_below hb h.2.2.1, pw_cell_below hb h.2.2.2.1, pw_cell_below hb h.2.2.2.2.1, pw_cell_below hb h.2.2.2.2.2⟩
/-- The blocks of pieces, one behind the other. -/
def bRow {cnt : Nat} (many q bn rm : Nat) (l : List Plc) (pre : List (Fin cnt)) : List (List UInt8) := pre.mapIdx fun i x => cblk i many q ((l.drop (x.1 * rm)).take rm) bn
theorem bRow_len {cnt many q bn rm : Nat} {l : List Plc} {pre : List (Fin cnt)} : (bRow many q bn rm l pre).length = pre.length := by unfold bRow; simp
theorem bRow_snoc {cnt many q bn rm : Nat} {l : List Plc} {pre : List (Fin cnt)} {x : Fin cnt} : bRow many q bn rm l (pre ++ [x]) = bRow many q bn rm l pre ++ [cblk pre.length many q ((l.drop (x.1 * rm)).take rm) bn] := by
  unfold bRow
  rw [List.mapIdx_concat]
theorem bRow_all {q bn rm : Nat} {l : List Plc} {many : Nat} (hm : manyN l.length bn = many) (hr : rmC bn = rm) : bRow many q bn rm l (List.finRange many) = blks q l bn := by
  unfold bRow blks
  rw [hm, hr]
  apply List.ext_getElem
  · simp
  · intro i h1 h2
    simp
/-- What Encode leaves. -/
def EncP (w : World) (z zb b r : Int) (q : Nat) (l : List Plc) (e : Ending) (w' : World) : Prop :=
  Below w.heap.size w w' ∧ ((∃ bs v, encC (decide (Rt z zb b r)) z zb b.toNat q l = .ok bs ∧ e = .returned (.tuple #[v, .int .u16 0]) ∧ Kd.N Dv.T.bytesK 39 w' w.heap.size (fun k => w.heap.size ≤ k ∧ k < w'.heap.size) v bs) ∨
    (∃ x : Int, encC (decide (Rt z zb b r)) z zb b.toNat q l = .error x ∧ (x = 140 ∨ x = 141) ∧ e = .returned (.tuple #[.slice none 0 0, .int .u16 x])))
attribute [local go_sem] Oper.semAt_some
attribute [local go_sem] max2_mx min2_mn max_two min_two
set_option maxHeartbeats 4000000 in
theorem encode_calls (z zb b r : Int) (hz : IsI z) (hzb : IsI zb) (hb : IsI b) (hr : IsI r) (q : Nat) (hq : q < 18446744073709551616) (A : Option Addr) (n c : Nat) (l : List Plc) (hn : n ≤ 10000000) (hnc : n ≤ c) (w : World) (h : plK.C w A n l) (hok : ∀ x ∈ l, PlcOk x) :
    Calls Try.prog 10 #[.agg #[.int .i64 z, .int .i64 zb, .int .i64 b, .int .i64 r], .agg #[.int .u64 (q : Int), .slice A n c]] w (EncP w z zb b r q l) := by
  obtain ⟨hl, hm⟩ := C_len h
  have HL := Aside0.mk hl
  have HC := Aside0.mk h
  have HOK := Aside0.mk hok
  have HA := Aside0.mk (below_alloc (alloc_below w (.cells #[.int .i64 z, .int .i64 zb, .int .i64 b, .int .i64 r] 23)) (.cells #[.int .u64 (q : Int), .slice A n c] 27))
  clear h hl hok
  have HI := Aside0.mk (And.intro hz (And.intro hzb (And.intro hb hr)))
  clear hz hzb hb hr
  obtain ⟨rt, hrt⟩ : ∃ rt, decide (Rt z zb b r) = rt := ⟨_, rfl⟩
  have HRT := Aside0.mk hrt
  clear hrt
  refine (callsIn_wide (n := 9)).1 (callsIn_of_wp_marks Try.func10 rfl trivial ?_ rfl)
  refine wpIn_wide.2 ?_
  simp only [Try.ntmps10, List.size_toArray, List.length_cons, List.length_nil, Nat.reduceAdd, Nat.reduceSub, Array.replicate_succ, Array.replicate_zero, List.push_toArray, List.append_toArray, List.nil_append, List.cons_append]
  go_wp2_with fail
  refine (right_calls z zb b r HI.out.1 HI.out.2.1 HI.out.2.2.1 HI.out.2.2.2 _).mono ?_
  rintro e w1 ⟨rfl, hb1⟩
  rw [HRT.out]
  cases rt with
  | false =>
    have HB1 := Aside0.mk (below_go HA.out hb1)
    clear hb1
    go_wp2
    refine ⟨_, results_tmp2 Try.results10 _ _ _, ?_⟩
    exact ⟨HB1.out, .inr ⟨141, by unfold encC; rw [HRT.out, if_neg (fun h => by cases h.1)], .inr rfl, rfl⟩⟩
  | true =>
  have HS1 := Aside0.mk (show w1.heap[w.heap.size]? = some (.cells #[.int .i64 z, .int .i64 zb, .int .i64 b, .int .i64 r] 23 (0, 0)) ∧ w1.heap[w.heap.size + 1]? = some (.cells #[.int .u64 (q : Int), .slice A n c] 27 (0, 0)) from
    ⟨(hb1.block _ (by simp; omega)).trans (blk_past (blk_here rfl)), (hb1.block _ (by simp)).trans (blk_here (by simp))⟩)
  have HB1 := Aside0.mk (below_go HA.out hb1)
  clear hb1
  obtain ⟨g, hg⟩ : ∃ g, w.heap.size = g := ⟨_, rfl⟩
  rw [hg] at HS1 ⊢
  have HG := Aside0.mk hg
  clear hg
  obtain ⟨mb, hmb⟩ : ∃ mb, decide (MayP z zb l) = mb := ⟨_, rfl⟩
  have HMB := Aside0.mk hmb
  clear hmb
  obtain ⟨c0, c1, c2, c3, s0, s1⟩ : w1.cell? ⟨g, 0, none⟩ = some (.int .i64 z) ∧ w1.cell? ⟨g, 1, none⟩ = some (.int .i64 zb) ∧ w1.cell? ⟨g, 2, none⟩ = some (.int .i64 b) ∧ w1.cell? ⟨g, 3, none⟩ = some (.int .i64 r) ∧ w1.cell? ⟨g + 1, 0, none⟩ = some (.int .u64 (q : Int)) ∧ w1.cell? ⟨g + 1, 1, none⟩ = some (.slice A n c) := by
    obtain ⟨h1, h2⟩ := HS1.out
    exact ⟨by simp [World.cell?, h1], by simp [World.cell?, h1], by simp [World.cell?, h1], by simp [World.cell?, h1], by simp [World.cell?, h2], by simp [World.cell?, h2]⟩
  go_wp2_with fail
  refine (may_calls z zb b r A n c l _ (Kd.C_below HC.out HB1.out)).mono ?_
  rintro e w2 ⟨rfl, hb2⟩
  rw [HMB.out]
  have HB2 := Aside0.mk (below_go HB1.out hb2)
  have HS2 := Aside0.mk (show w2.heap[g]? = some (.cells #[.int .i64 z, .int .i64 zb, .int .i64 b, .int .i64 r] 23 (0, 0)) ∧ w2.heap[g + 1]? = some (.cells #[.int .u64 (q : Int), .slice A n c] 27 (0, 0)) from
    ⟨(hb2.block _ (Array.getElem?_eq_some_iff.1 HS1.out.1).1).trans HS1.out.1, (hb2.block _ (Array.getElem?_eq_some_iff.1 HS1.out.2).1).trans HS1.out.2⟩)
  clear hb2 c0 c1 c2 c3 s0 s1
  cases mb with
  | false =>
    go_wp2
    refine ⟨_, results_tmp2 Try.results10 _ _ _, ?_⟩
    exact ⟨HB2.out, .inr ⟨141, by unfold encC; rw [if_neg (fun h => by have := h.2; rw [decide_eq_false_iff_not] at HMB; exact HMB.out this)], .inr rfl, rfl⟩⟩
  | true =>
  have HRT2 := Aside0.mk (of_decide_eq_true HRT.out)
  have HMP := Aside0.mk (of_decide_eq_true HMB.out)
  obtain ⟨rm0, hrm0⟩ : ∃ rm0 : Nat, rmC b.toNat = rm0 := ⟨_, rfl⟩
  obtain ⟨bn, rfl⟩ : ∃ bn : Nat, b = (bn : Int) := ⟨b.toNat, by have := pow_range HRT2.out.2.2.2.2.1; omega⟩
  rw [Int.toNat_natCast] at hrm0
  have hrm : rm (bn : Int) = (rm0 : Int) := by rw [rm_rmC, hrm0]
  obtain ⟨c0, c1, c2, c3, s0, s1⟩ : w2.cell? ⟨g, 0, none⟩ = some (.int .i64 z) ∧ w2.cell? ⟨g, 1, none⟩ = some (.int .i64 zb) ∧ w2.cell? ⟨g, 2, none⟩ = some (.int .i64 (bn : Int)) ∧ w2.cell? ⟨g, 3, none⟩ = some (.int .i64 r) ∧ w2.cell? ⟨g + 1, 0, none⟩ = some (.int .u64 (q : Int)) ∧ w2.cell? ⟨g + 1, 1, none⟩ = some (.slice A n c) := by
    obtain ⟨h1, h2⟩ := HS2.out
    exact ⟨by simp [World.cell?, h1], by simp [World.cell?, h1], by simp [World.cell?, h1], by simp [World.cell?, h1], by simp [World.cell?, h2], by simp [World.cell?, h2]⟩
  have hrp : 0 < rm0 := by
    have h1 := HRT2.out.2.2.2.2.1
    rw [← hrm0]
    unfold rmC
    unfold Shp.Pow at h1
    rw [if_pos (by omega)]
    omega
  obtain ⟨r1, r2, r3, r4, r5⟩ := rmC_le bn (by rw [hrm0]; exact hrp)
  rw [hrm0] at r3 r4 r5
  have HRM := Aside0.mk hrm0
  have hw1 : IntKind.i64.wrap ((n : Int) + (rm0 : Int)) = (n : Int) + (rm0 : Int) := IntWalk.i64_in _ (by omega)
  have hw2 : IntKind.i64.wrap ((n : Int) + (rm0 : Int) - 1) = (n : Int) + (rm0 : Int) - 1 := IntWalk.i64_in _ (by omega)
  obtain ⟨mq, hmq⟩ : ∃ mq, (n + rm0 - 1) / rm0 = mq := ⟨_, rfl⟩
  have hmq2 : mq ≤ n + rm0 - 1 := by rw [← hmq]; exact Nat.div_le_self _ _
  have htd : ((n : Int) + (rm0 : Int) - 1).tdiv (rm0 : Int) = (mq : Int) := by
    rw [show (n : Int) + (rm0 : Int) - 1 = ((n + rm0 - 1 : Nat) : Int) by omega, Int.tdiv_eq_ediv_of_nonneg (by omega), ← hmq]
    exact (Int.natCast_ediv _ _).symm
  have hw3 : IntKind.i64.wrap (mq : Int) = (mq : Int) := IntWalk.i64_in _ (by omega)
  obtain ⟨many, hmany⟩ : ∃ many, manyN n bn = many := ⟨_, rfl⟩
  have hmx : mx (mq : Int) 1 = (many : Int) := by
    unfold mx
    rw [← hmany]
    unfold manyN
    rw [hrm0, hmq]
    split <;> omega
  have hrn : ¬ (rm0 : Int) = 0 := by omega
  have HMANY := Aside0.mk hmany
  have HMQ := Aside0.mk hmq
  clear hmany hmq hrm0
  go_wp2_with fail
  refine (room_calls (bn : Int) HI.out.2.2.1 _).mono ?_
  rintro e w3 ⟨rfl, rfl⟩
  rw [hrm]
  clear hrm
  obtain ⟨W3, hW3⟩ : ∃ W3, w2.alloc (.cells #[.int .i64 (many : Int)] 3) = W3 := ⟨_, rfl⟩
  have hb3 : Below w2.heap.size w2 W3 := by rw [← hW3]; exact alloc_below _ _
  have c1o := c1
  have c1 : (w2.alloc (.cells #[.int .i64 (many : Int)] 3)).cell? ⟨g, 1, none⟩ = some (.int .i64 zb) := by rw [hW3]; exact pw_cell_below hb3 c1
  have s1' : (w2.alloc (.cells #[.int .i64 (many : Int)] 3)).cell? ⟨g + 1, 1, none⟩ = some (.slice A n c) := by rw [hW3]; exact pw_cell_below hb3 s1
  have HB3 := Aside0.mk hb3
  have HW3 := Aside0.mk hW3
  clear hW3 hb3
  by_cases hlong : zb < (many : Int)
  · have hd1 : decide (zb < (many : Int)) = true := decide_eq_true hlong
    have HE := Aside0.mk (show encC (decide (Rt z zb (bn : Int) r)) z zb (bn : Int).toNat q l = .error 140 by
      unfold encC
      rw [if_pos ⟨HRT.out, HMP.out⟩, Int.toNat_natCast, HL.out, HMANY.out, if_neg (by omega)])
    clear hlong
    go_wp2
    refine ⟨_, results_tmp2 Try.results10 _ _ _, ?_⟩
    exact ⟨below_alloc HB2.out _, .inr ⟨140, HE.out, .inl rfl, rfl⟩⟩
  have hd1 : decide (zb < (many : Int)) = false := decide_eq_false hlong
  have HE := Aside0.mk (show encC (decide (Rt z zb (bn : Int) r)) z zb (bn : Int).toNat q l = .ok (blks q l bn) by
    unfold encC
    rw [if_pos ⟨HRT.out, HMP.out⟩, Int.toNat_natCast, HL.out, HMANY.out, if_pos (by omega)])
  have HMB2 := Aside0.mk (show many ≤ 4096 by have := HRT2.out.2.2.2.1; omega)
  have HFIT := Aside0.mk (HMP.out.fit HRT2.out.2.1 HRT2.out.2.2.2.1 HOK.out)
  clear hlong
  by_cases hn0 : n = 0
  · have hd2 : ((n : Int) == 0) = true := by rw [hn0]; rfl
    have c0' : (w2.alloc (.cells #[.int .i64 (many : Int)] 3)).cell? ⟨g, 0, none⟩ = some (.int .i64 z) := by rw [HW3.out]; exact pw_cell_below HB3.out c0
    have c2' : (w2.alloc (.cells #[.int .i64 (many : Int)] 3)).cell? ⟨g, 2, none⟩ = some (.int .i64 (bn : Int)) := by rw [HW3.out]; exact pw_cell_below HB3.out c2
    have c3' : (w2.alloc (.cells #[.int .i64 (many : Int)] 3)).cell? ⟨g, 3, none⟩ = some (.int .i64 r) := by rw [HW3.out]; exact pw_cell_below HB3.out c3
    have s0' : (w2.alloc (.cells #[.int .i64 (many : Int)] 3)).cell? ⟨g + 1, 0, none⟩ = some (.int .u64 (q : Int)) := by rw [HW3.out]; exact pw_cell_below HB3.out s0
    have HN0 := Aside0.mk hn0
    clear hn0
    go_wp2_with fail
    refine (block_calls z zb r bn 0 1 q none 0 0 [] _ ⟨rfl, by omega, fun hp => by simp at hp⟩ (by omega) r2 (by omega) (by omega) hq (fun x hx => by simp at hx)).mono ?_
    rintro e w4 ⟨v4, rfl, hO4, hb4⟩
    have hO4 : Base.Own w4 w.heap.size v4 (cblk 0 1 q [] bn) := Kd.R_lower hO4 (below_alloc HB2.out _).size
    have HB4 := Aside0.mk (below_go (below_alloc HB2.out _) hb4)
    obtain ⟨A4, n4, c4, rfl, -, -⟩ := hO4.reads
    have HO4 := Aside0.mk hO4
    clear hb4 hO4
    go_wp2
    refine ⟨_, results_tmp2 Try.results10 _ _ _, ?_⟩
    have hl0 : l = [] := List.eq_nil_of_length_eq_zero (by rw [HL.out, HN0.out])
    have hm1 : manyN l.length bn = 1 := by
      rw [hl0]
      unfold manyN
      rw [HRM.out, List.length_nil, Nat.zero_add, Nat.div_eq_of_lt (by omega)]
      rfl
    have hbl : blks q l bn = [cblk 0 1 q [] bn] := by
      unfold blks
      rw [hm1, hl0]
      simp
    have hN := lit_one w4 w.heap.size HB4.out.size (Dv.T.own_FK HO4.out)
    rw [← hbl] at hN
    exact ⟨below_alloc HB4.out _, .inl ⟨_, _, HE.out, rfl, Kd.N_mono (Kd.N_bound hN) (fun k hk => ⟨by rcases hk.1 with h1 | h1; exact Kd.R_base HO4.out k h1.symm; exact Nat.le_trans HB4.out.size h1, hk.2⟩)⟩⟩
  have hd2 : ((n : Int) == 0) = false := by rw [beq_eq_false_iff_ne]; omega
  have s1'' : ((w2.alloc (.cells #[.int .i64 (many : Int)] 3)).alloc (.cells #[.slice none 0 0] 28)).cell? ⟨g + 1, 1, none⟩ = some (.slice A n c) := pw_cell_below (alloc_below _ _) s1'
  have hrm1 : (1 : Int) ≤ (rm0 : Int) := by omega
  have HN0 := Aside0.mk (show 0 < n by omega)
  clear hn0
  go_wp2_with fail
  refine (chunkp_calls A n c (rm0 : Int) hrm1 _).mono ?_
  rintro e w4 ⟨rfl, rfl⟩
  go_wp2
  obtain ⟨gm, hgm⟩ : ∃ gm, w2.heap.size = gm := ⟨_, rfl⟩
  obtain ⟨W5, hW5⟩ : ∃ W5, ((((w2.alloc (.cells #[.int .i64 (many : Int)] 3)).alloc (.cells #[.slice none 0 0] 28)).alloc (.cells #[.slice A n c] 25)).alloc (.cells #[.int .i64 (rm0 : Int)] 3)) = W5 := ⟨_, rfl⟩
  have hb5 : Below w2.heap.size w2 W5 := by rw [← hW5]; exact ((((Below.refl _ _).alloc (Nat.le_refl _) _).alloc (by simp) _).alloc (by simp; omega) _).alloc (by simp; omega) _
  have hs5 : W5.heap.size = gm + 4 := by rw [← hW5, ← hgm]; simp
  have hcm : W5.heap[gm]? = some (.cells #[.int .i64 (many : Int)] 3 (0, 0)) := by rw [← hW5, ← hgm]; exact blk_past (blk_past (blk_past (blk_here rfl)))
  have hbo : W5.heap[gm + 1]? = some (.cells #[.slice none 0 0] 28 (0, 0)) := by rw [← hW5, ← hgm]; exact blk_past (blk_past (blk_here (by simp)))
  have hx0 : W5.heap[gm + 2]? = some (.cells #[.slice A n c] 25 (0, 0)) := by rw [← hW5, ← hgm]; exact blk_past (blk_here (by simp))
  have hx1 : W5.heap[gm + 3]? = some (.cells #[.int .i64 (rm0 : Int)] 3 (0, 0)) := by rw [← hW5, ← hgm]; exact blk_here (by simp)
  have HES5 : Aside0 (ES g gm z zb (bn : Int) r (many : Int) q W5) := ⟨⟨pw_cell_below hb5 c0, pw_cell_below hb5 c1o, pw_cell_below hb5 c2, pw_cell_below hb5 c3, by simp [World.cell?, hcm], pw_cell_below hb5 s0⟩⟩
  rw [hW5, hgm]
  have HB5 := Aside0.mk hb5
  have HGM := Aside0.mk (show w.heap.size ≤ gm by rw [← hgm]; exact HB2.out.size)
  have HS5 := Aside0.mk hs5
  have HBO := Aside0.mk hbo
  have HBX := Aside0.mk (show W5.cell? ⟨gm + 2, 0, none⟩ = some (.slice A n c) ∧ W5.cell? ⟨gm + 2 + 1, 0, none⟩ = some (.int .i64 (rm0 : Int)) from ⟨by simp [World.cell?, hx0], by simp [World.cell?, hx1]⟩)
  have HG2 := Aside0.mk (show g + 1 < gm by rw [← hgm]; exact (Array.getElem?_eq_some_iff.1 HS2.out.2).1)
  have HBW5 := Aside0.mk (show Below w.heap.size w W5 from below_go HB2.out hb5)
  have HM1 := Aside0.mk (show n ≤ many * rm0 by
    have h1 := HMANY.out
    have h2 := HMQ.out
    unfold manyN at h1
    rw [HRM.out, h2] at h1
    have h3 := Nat.div_add_mod (n + rm0 - 1) rm0
    have h4 := Nat.mod_lt (n + rm0 - 1) hrp
    rw [h2] at h3
    have h5 : mq * rm0 ≤ many * rm0 := Nat.mul_le_mul_right _ (by omega)
    rw [Nat.mul_comm] at h3
    omega)
  have HM2 := Aside0.mk (show ∀ k, k < many → k * rm0 < n from fun k hk => by
    have h1 := HMANY.out
    have h2 := HMQ.out
    have h0 := HN0.out
    unfold manyN at h1
    rw [HRM.out, h2] at h1
    have h6 : 1 ≤ mq := by rw [← h2]; exact (Nat.le_div_iff_mul_le hrp).2 (by omega)
    have h3 : mq * rm0 ≤ n + rm0 - 1 := by rw [← h2]; exact Nat.div_mul_le_self _ _
    have h5 : (k + 1) * rm0 ≤ mq * rm0 := Nat.mul_le_mul_right _ (by omega)
    rw [Nat.succ_mul] at h5
    omega)
  clear hW5 hgm hb5 hs5 hcm hbo hx0 hx1 c0 c1 c2 c3 s0 s1 s1' s1''
  refine (wpIn_wide (n := 9)).1 ?_
  refine wpIn_rangeFunc_ownG (α := Fin many) rfl (by decide) (gf := 71) (lb := #[.pointer (some ⟨gm + 2, 0, none⟩), .pointer (some ⟨gm + 2 + 1, 0, none⟩)]) rfl trivial (enters_of Try.func71 (by kernel_rfl) rfl)
    (chunkp_stops _ (gm + 2) A n c rm0 many (by omega) HM1.out HM2.out hnc (by omega) (by omega) W5 (by rw [HS5.out]; omega) HBX.out.1 HBX.out.2) Dv.KpB.trans ?hKb (Below.refl _ _) (fun _ => rfl)
    (fun pre Wx => ∃ vz S, BI W5 Wx (gm + 1) vz (bRow many q bn rm0 l pre) S) (fun _ _ _ => False)
    (fun s A B row hs hg hr => by obtain ⟨vz, S, hz⟩ := hs; exact ⟨vz, S, hz.grown (by rw [HS5.out]; omega) hg hr⟩)
    (fun _ _ _ _ _ hs _ _ => hs) ⟨.slice none 0 0, fun _ => False, HBO.out, Kd.N_nil _ _ _ _ _, fun _ h => h.elim, Dv.Chg.refl _ _⟩ ?a1 ?assign ?body ?done ?stop
  case assign =>
    intro lp x Wx K hK
    gi_wp2
    exact hK
  case hKb =>
    intro Wx lp o o' hl ho _ _ j hj
    have hlt := (Array.getElem?_eq_some_iff.1 ho).1
    have := HS5.out
    exact (grownBy_putObj' Wx lp o').block j (by omega) (fun e => by injection e with e; omega)
  case body =>
    rintro lp pre x Wq ⟨vq, S, hz⟩ hlen
    have HZ := Aside0.mk hz
    clear hz
    have hgl : gm + 1 < W5.heap.size := by rw [HS5.out]; omega
    have hzk := HZ.out.chg.kept
    have HES : Aside0 (ES g gm z zb (bn : Int) r (many : Int) q Wq) := ⟨HES5.out.move (fun k hk => hzk.2 k (by have h1 := HS5.out; have h2 := HG2.out; omega) (by have h2 := HG2.out; omega))⟩
    have hx3 := HM2.out x.1 x.2
    have hBWq : Below w.heap.size w Wq := by
      have h1 : Below w.heap.size W5 Wq := HZ.out.chg.to_below HBW5.out.size (fun k e => by have h3 := HB2.out.size; have h4 := HS5.out; have h5 := HB5.out; have h6 := HGM.out; omega)
      exact Below.trans HBW5.out h1
    have HPC : Aside0 (plK.C Wq (A.map (·.add (x.1 * rm0 * 4))) (min rm0 (n - x.1 * rm0)) ((l.drop (x.1 * rm0)).take rm0)) := ⟨by
      have h1 := C_drop (Kd.C_below HC.out hBWq) hnc (x.1 * rm0) (by omega)
      rw [if_neg (by omega)] at h1
      have h2 := C_take h1 (min rm0 (n - x.1 * rm0)) (by omega)
      rw [List.take_eq_take_iff.2 (show min (min rm0 (n - x.1 * rm0)) (l.drop (x.1 * rm0)).length = min rm0 (l.drop (x.1 * rm0)).length by rw [List.length_drop, HL.out]; omega)] at h2
      exact h2⟩
    have HPF : Aside0 (∀ y ∈ (l.drop (x.1 * rm0)).take rm0, PlcFit y) := ⟨fun y hy => HFIT.out y (List.mem_of_mem_drop (List.mem_of_mem_take hy))⟩
    obtain ⟨px, hpx⟩ : ∃ px, (l.drop (x.1 * rm0)).take rm0 = px := ⟨_, rfl⟩
    obtain ⟨nx, hnx⟩ : ∃ nx, min rm0 (n - x.1 * rm0) = nx := ⟨_, rfl⟩
    obtain ⟨Ax, hax⟩ : ∃ Ax, A.map (·.add (x.1 * rm0 * 4)) = Ax := ⟨_, rfl⟩
    rw [hpx, hnx, hax] at HPC
    rw [hpx] at HPF
    have HPX := Aside0.mk hpx
    have hnr : nx ≤ rm0 := by omega
    have HRL : Aside0 ((bRow many q bn rm0 l pre).length = pre.length) := ⟨bRow_len⟩
    obtain ⟨Aq, nq, cq, rfl, -, hCq⟩ := N_open HZ.out.row
    have hnq : nq = pre.length := by rw [← HRL.out]; exact (C_len hCq).1.symm
    have HNQ := Aside0.mk hnq
    have HNL := Aside0.mk (show (bRow many q bn rm0 l pre).length ≤ 100000 by rw [HRL.out]; have := HMB2.out; omega)
    have hnqs : nq < 4096 := by have := HMB2.out; omega
    have hzb := HZ.out.blk
    have z0 : Wq.cell? ⟨gm + 1, 0, none⟩ = some (.slice Aq nq cq) := by simp [World.cell?, hzb]
    have HZ0 := Aside0.mk z0
    unfold chunkPV
    rw [hnx, hax]
    clear hCq hzk hzb hBWq hpx hnx hax hx3 hnq
    gi_wp2
    have hHeld : Wq.drew.cell? ⟨g, 0, none⟩ = some (.int .i64 z) ∧ Wq.drew.cell? ⟨g, 1, none⟩ = some (.int .i64 zb) ∧ Wq.drew.cell? ⟨g, 2, none⟩ = some (.int .i64 (bn : Int)) ∧ Wq.drew.cell? ⟨g, 3, none⟩ = some (.int .i64 r) ∧ Wq.drew.cell? ⟨gm, 0, none⟩ = some (.int .i64 (many : Int)) ∧ Wq.drew.cell? ⟨g + 1, 0, none⟩ = some (.int .u64 (q : Int)) := ES.below HES.out (below_drew (Below.refl _ _))
    refine Brg.region_in (by kernel_rfl) (by simp) (by rintro ⟨a, w, h⟩; exact h) (wpAny_of_held (S := fun w' => w'.cell? ⟨g, 0, none⟩ = some (.int .i64 z) ∧ w'.cell? ⟨g, 1, none⟩ = some (.int .i64 zb) ∧ w'.cell? ⟨g, 2, none⟩ = some (.int .i64 (bn : Int)) ∧ w'.cell? ⟨g, 3, none⟩ = some (.int .i64 r) ∧ w'.cell? ⟨gm, 0, none⟩ = some (.int .i64 (many : Int)) ∧ w'.cell? ⟨g + 1, 0, none⟩ = some (.int .u64 (q : Int))) _ _ _ _ ?_)
    refine wpAnyH_take (i := 1) (oi := { dst := some 52, op := Op.load 23 (Operand.tmp 2), type := 23, pos := "ckpt.go:81", after := #[], guard := none }) (v := ?_) rfl (by kernel_rfl) (by kernel_rfl) (by kernel_rfl) (fun _ _ _ h => h) (Or.inl ⟨by rfl, ?_⟩) (by assumption) ?_
    rotate_left
    · (intro w hSw; (try dsimp only at hSw); go_simp; (try with_reducible rfl))
    (try simp only [Act.put, List.setIfInBounds_toArray, List.set_cons_zero, List.set_cons_succ])
    refine wpAnyH_take (i := 4) (oi := { dst := some 55, op := Op.load 3 (Operand.tmp 7), type := 3, pos := "ckpt.go:81", after := #[], guard := none }) (v := ?_) rfl (by kernel_rfl) (by kernel_rfl) (by kernel_rfl) (fun _ _ _ h => h) (Or.inl ⟨by rfl, ?_⟩) (by assumption) ?_
    rotate_left
    · (intro w hSw; (try dsimp only at hSw); go_simp; (try with_reducible rfl))
    (try simp only [Act.put, List.setIfInBounds_toArray, List.set_cons_zero, List.set_cons_succ])
    refine wpAnyH_take (i := 5) (oi := { dst := some 56, op := Op.fieldAddr 27 (Operand.tmp 3) 0, type := 0, pos := "ckpt.go:81", after := #[], guard := none }) (v := ?_) rfl (by kernel_rfl) (by kernel_rfl) (by kernel_rfl) (fun _ _ _ h => h) (Or.inl ⟨by rfl, ?_⟩) (by assumption) ?_
    rotate_left
    · (intro w hSw; (try dsimp only at hSw); go_simp; (try with_reducible rfl))
    (try simp only [Act.put, List.setIfInBounds_toArray, List.set_cons_zero, List.set_cons_succ])
    refine wpAnyH_take (i := 6) (oi := { dst := some 57, op := Op.load 24 (Operand.tmp 56), type := 24, pos := "ckpt.go:81", after := #[{ on := 5, ground := Ground.data }], guard := none }) (v := ?_) rfl (by kernel_rfl) (by kernel_rfl) (by kernel_rfl) (fun _ _ _ h => h) (Or.inl ⟨by rfl, ?_⟩) (by assumption) ?_
    rotate_left
    · (intro w hSw; (try dsimp only at hSw); go_simp; (try with_reducible rfl))
    (try simp only [Act.put, List.setIfInBounds_toArray, List.set_cons_zero, List.set_cons_succ])
    refine wpAnyH_take (i := 8) (oi := { dst := some 59, op := Op.move (Operand.tmp 9), type := 25, pos := "ckpt.go:81", after := #[], guard := none }) (v := ?_) rfl (by kernel_rfl) (by kernel_rfl) (by kernel_rfl) (fun _ _ _ h => h) (Or.inl ⟨by rfl, ?_⟩) (by assumption) ?_
    rotate_left
    · (intro w hSw; (try dsimp only at hSw); go_simp; (try with_reducible rfl))
    (try simp only [Act.put, List.setIfInBounds_toArray, List.set_cons_zero, List.set_cons_succ])
    refine wpAnyH_ready (rs := [0, 2]) (by kernel_rfl) (by simp) ?_
    refine (AllReadyH.cons (o := { dst := some 51, op := Op.load 28 (Operand.tmp 8), type := 28, pos := "ckpt.go:81", after := #[], guard := none }) rfl (fun K hK => ?_) (AllReadyH.cons (o := { dst := some 53, op := Op.load 28 (Operand.tmp 8), type := 28, pos := "ckpt.go:81", after := #[], guard := none }) rfl (fun K hK => ?_) AllReadyH.nil))
    · go_simp
      refine hK.out _ _ ?_ (fun hHeld => ?_)
      · exact hHeld
      clear hK K
      (try simp only [Act.put, List.setIfInBounds_toArray, List.set_cons_zero, List.set_cons_succ])
      refine wpAnyH_ready (rs := [2]) (by kernel_rfl) (by simp) ?_
      refine (AllReadyH.cons (o := { dst := some 53, op := Op.load 28 (Operand.tmp 8), type := 28, pos := "ckpt.go:81", after := #[], guard := none }) rfl (fun K hK => ?_) AllReadyH.nil)
      go_simp
      refine hK.out _ _ ?_ (fun hHeld => ?_)
      · exact hHeld
      clear hK K
      (try simp only [Act.put, List.setIfInBounds_toArray, List.set_cons_zero, List.set_cons_succ])
      refine wpAnyH_take (i := 3) (oi := { dst := some 54, op := Op.call { callee := Callee.builtin Builtin.len, args := #[Operand.tmp 53], argTypes := #[28] }, type := 3, pos := "ckpt.go:81", after := #[{ on := 2, ground := Ground.data }], guard := none }) (v := ?_) rfl (by kernel_rfl) (by kernel_rfl) (by kernel_rfl) (fun _ _ _ h => h) (Or.inl ⟨by rfl, ?_⟩) (by assumption) ?_
      rotate_left
      · (intro w hSw; (try dsimp only at hSw); go_simp; (try with_reducible rfl))
      (try simp only [Act.put, List.setIfInBounds_toArray, List.set_cons_zero, List.set_cons_succ])
      refine wpAnyH_take (i := 7) (oi := { dst := some 58, op := Op.build 82 #[(0, Operand.tmp 54), (1, Operand.tmp 55), (2, Operand.tmp 57)], type := 82, pos := "ckpt.go:81", after := #[{ on := 3, ground := Ground.data }, { on := 4, ground := Ground.data }, { on := 6, ground := Ground.data }], guard := none }) (v := ?_) rfl (by kernel_rfl) (by kernel_rfl) (by kernel_rfl) (fun _ _ _ h => h) (Or.inl ⟨by rfl, ?_⟩) (by assumption) ?_
      rotate_left
      · (intro w hSw; (try dsimp only at hSw); go_simp; (try with_reducible rfl))
      (try simp only [Act.put, List.setIfInBounds_toArray, List.set_cons_zero, List.set_cons_succ])
      refine wpAnyH_ready (rs := [9]) (by kernel_rfl) (by simp) ?_
      refine (AllReadyH.cons (o := { dst := some 60, op := Op.call { callee := Callee.value (Operand.func 37), args := #[Operand.tmp 52, Operand.tmp 58, Operand.tmp 59], argTypes := #[23, 82, 25] }, type := 39, pos := "ckpt.go:81", after := #[{ on := 1, ground := Ground.data }, { on := 7, ground := Ground.data }, { on := 8, ground := Ground.data }], guard := none }) rfl (fun K hK => ?_) AllReadyH.nil)
      go_simp
      refine (block_calls z zb r bn nq many q Ax nx nx px _ (Kd.C_below HPC.out (below_drew (Below.refl _ _))) (by omega) r2 (by omega) (by have := HMB2.out; omega) hq HPF.out).mono ?_
      rintro e w8 ⟨v8, rfl, hO8, hw8⟩
      obtain ⟨A8, n8, c8, rfl, -, hC8⟩ := Base.Own.reads hO8
      have HO8 := Aside0.mk hO8
      have hb8 : Below Wq.heap.size Wq w8 := Below.trans (below_drew (Below.refl _ _)) hw8
      have HZ8 := Aside0.mk (HZ.out.below hgl hb8)
      have HKF8 := Aside0.mk hb8
      have z0 := pw_cell_below hb8 HZ0.out
      have HE8 := Aside0.mk (ES.below HES.out hb8)
      clear hO8 hw8 hC8 hb8
      refine hK.out _ _ ?_ (fun hHeld => ?_)
      · exact HE8.out
      clear hK K
      (try simp only [Act.put, List.setIfInBounds_toArray, List.set_cons_zero, List.set_cons_succ])
      refine wpAnyH_ready (rs := [10]) (by kernel_rfl) (by simp) ?_
      refine (AllReadyH.cons (o := { dst := some 61, op := Op.buildSlice 28 1 #[(0, Operand.tmp 60)], type := 28, pos := "ckpt.go:81", after := #[{ on := 9, ground := Ground.data }], guard := none }) rfl (fun K hK => ?_) AllReadyH.nil)
      go_simp
      refine hK.out _ _ ?_ (fun hHeld => ?_)
      · exact ES.below HE8.out (alloc_below _ _)
      clear hK K
      (try simp only [Act.put, List.setIfInBounds_toArray, List.set_cons_zero, List.set_cons_succ])
      refine wpAnyH_ready (rs := [11]) (by kernel_rfl) (by simp) ?_
      refine (AllReadyH.cons (o := { dst := some 62, op := Op.call { callee := Callee.builtin Builtin.append, args := #[Operand.tmp 51, Operand.tmp 61], argTypes := #[28, 28] }, type := 28, pos := "ckpt.go:81", after := #[{ on := 0, ground := Ground.data }, { on := 10, ground := Ground.data }, { on := 9, ground := Ground.chain }], guard := none }) rfl (fun K hK => ?_) AllReadyH.nil)
      refine Dv.T.app_blk_step W5.heap.size S (fun j => some j = (Value.slice A8 n8 c8).ownBlock) (.tmp 51) (.tmp 61) (by rfl) rfl (.slice Aq nq cq) (bRow many q bn rm0 l pre) (cblk nq many q px bn) A8 n8 c8 (Dv.T.own_FK HO8.out) (fun j hj e => by have h1 := Kd.N_lt HZ.out.row j e.symm; have h2 := Kd.R_base HO8.out j hj.symm; have h3 : Wq.drew.heap.size = Wq.heap.size := rfl; omega) rfl (by simp [Act.eval]) HZ8.out.row (Nat.le_trans HZ.out.chg.kept.1 HKF8.out.size) HNL.out ?_
      intro v9 w9 hN9 hg9
      obtain ⟨A9, n9, c9, rfl, -, -⟩ := N_open hN9
      have HZ9 := Aside0.mk (HZ8.out.add (Wq := Wq) hgl HZ.out.chg.kept.1 hN9 hg9 (fun j hj => Kd.R_base HO8.out j hj.symm) (Nat.le_trans HZ.out.chg.kept.1 HKF8.out.size))
      have hz9 : w9.heap[gm + 1]? = some (.cells #[.slice Aq nq cq] 28 (0, 0)) := (hg9.block _ HZ8.out.blkEq (fun e => by have := Kd.N_base HZ8.out.row _ e.symm; omega)).trans HZ8.out.blk
      have z9 : w9.cell? ⟨gm + 1, 0, none⟩ = some (.slice Aq nq cq) := by simp [World.cell?, hz9]
      have zf9 : w9.frozen? ⟨gm + 1, 0, none⟩ = false := by simp [World.frozen?, hz9]
      have HG9 := Aside0.mk hg9
      have HE9 := Aside0.mk (ES.move HE8.out (fun k hk => hg9.block k (by have h1 := HS5.out; have h2 := HG2.out; have h3 := HZ.out.chg.kept.1; have h4 := HKF8.out.size; omega) (fun e => by have h5 := Kd.N_base HZ8.out.row k e.symm; have h1 := HS5.out; have h2 := HG2.out; omega)))
      clear hz9 hN9 hg9
      refine hK.out _ _ ?_ (fun hHeld => ?_)
      · exact HE9.out
      clear hK K
      (try simp only [Act.put, List.setIfInBounds_toArray, List.set_cons_zero, List.set_cons_succ])
      refine wpAnyH_ready (rs := [12]) (by kernel_rfl) (by simp) ?_
      refine (AllReadyH.cons (o := { dst := none, op := Op.store 28 (Operand.tmp 8) (Operand.tmp 62), type := 0, pos := "ckpt.go:81", after := #[{ on := 11, ground := Ground.data }, { on := 11, ground := Ground.chain }, { on := 0, ground := Ground.phase }, { on := 1, ground := Ground.phase }, { on := 2, ground := Ground.phase }, { on := 3, ground := Ground.phase }, { on := 4, ground := Ground.phase }, { on := 5, ground := Ground.phase }, { on := 6, ground := Ground.phase }, { on := 7, ground := Ground.phase }, { on := 8, ground := Ground.phase }, { on := 9, ground := Ground.phase }, { on := 10, ground := Ground.phase }, { on := 11, ground := Ground.phase }], guard := none }) rfl (fun K hK => ?_) AllReadyH.nil)
      go_simp
      refine hK.out _ _ ?_ (fun hHeld => ?_)
      · exact ES.move HE9.out (fun k hk => Below.heap_setCell _ _ _ _ (by show k ≠ gm + 1; have h2 := HG2.out; omega))
      clear hK K
      (try simp only [Act.put, List.setIfInBounds_toArray, List.set_cons_zero, List.set_cons_succ])
      refine wpAnyH_done (by kernel_rfl) ?_ _
      obtain ⟨S9, hz⟩ := HZ9.out
      have hkk : KeepsOthers Wq (w9.setCell ⟨gm + 1, 0, none⟩ (.slice A9 n9 c9)) := ((KeepsOthers.of_grownBy (row := none) ⟨HKF8.out.os, HKF8.out.tape, HKF8.out.output, HKF8.out.size, fun k hk _ => HKF8.out.block k hk⟩ (fun j o e => by cases e)).trans (KeepsOthers.of_grownBy HG9.out (fun j o e ho => by obtain ⟨cells, hc⟩ := Kd.N_typed HZ8.out.row j e; rw [hc] at ho; injection ho with ho; rw [← ho]; rfl))).trans (KeepsOthers.setCell _ _ _)
      refine ⟨hkk.from _, fun j hj => ?_, ⟨_, S9, by rw [bRow_snoc, HPX.out, ← HNQ.out]; exact hz⟩⟩
      have hj3 : j < W5.heap.size ∧ j ≠ gm + 1 := by have := HS5.out; omega
      rw [Below.heap_setCell _ _ _ _ hj3.2, HG9.out.block j (by have := HZ.out.chg.kept.1; have := HKF8.out.size; omega) (fun e => by have := Kd.N_base HZ8.out.row j e.symm; omega)]
      exact HKF8.out.block j (by have := HZ.out.chg.kept.1; omega)
    · go_simp
      refine hK.out _ _ ?_ (fun hHeld => ?_)
      · exact hHeld
      clear hK K
      (try simp only [Act.put, List.setIfInBounds_toArray, List.set_cons_zero, List.set_cons_succ])
      refine wpAnyH_take (i := 3) (oi := { dst := some 54, op := Op.call { callee := Callee.builtin Builtin.len, args := #[Operand.tmp 53], argTypes := #[28] }, type := 3, pos := "ckpt.go:81", after := #[{ on := 2, ground := Ground.data }], guard := none }) (v := ?_) rfl (by kernel_rfl) (by kernel_rfl) (by kernel_rfl) (fun _ _ _ h => h) (Or.inl ⟨by rfl, ?_⟩) (by assumption) ?_
      rotate_left
      · (intro w hSw; (try dsimp only at hSw); go_simp; (try with_reducible rfl))
      (try simp only [Act.put, List.setIfInBounds_toArray, List.set_cons_zero, List.set_cons_succ])
      refine wpAnyH_take (i := 7) (oi := { dst := some 58, op := Op.build 82 #[(0, Operand.tmp 54), (1, Operand.tmp 55), (2, Operand.tmp 57)], type := 82, pos := "ckpt.go:81", after := #[{ on := 3, ground := Ground.data }, { on := 4, ground := Ground.data }, { on := 6, ground := Ground.data }], guard := none }) (v := ?_) rfl (by kernel_rfl) (by kernel_rfl) (by kernel_rfl) (fun _ _ _ h => h) (Or.inl ⟨by rfl, ?_⟩) (by assumption) ?_
      rotate_left
      · (intro w hSw; (try dsimp only at hSw); go_simp; (try with_reducible rfl))
      (try simp only [Act.put, List.setIfInBounds_toArray, List.set_cons_zero, List.set_cons_succ])
      refine wpAnyH_ready (rs := [0, 9]) (by kernel_rfl) (by simp) ?_
      refine (AllReadyH.cons (o := { dst := some 51, op := Op.load 28 (Operand.tmp 8), type := 28, pos := "ckpt.go:81", after := #[], guard := none }) rfl (fun K hK => ?_) (AllReadyH.cons (o := { dst := some 60, op := Op.call { callee := Callee.value (Operand.func 37), args := #[Operand.tmp 52, Operand.tmp 58, Operand.tmp 59], argTypes := #[23, 82, 25] }, type := 39, pos := "ckpt.go:81", after := #[{ on := 1, ground := Ground.data }, { on := 7, ground := Ground.data }, { on := 8, ground := Ground.data }], guard := none }) rfl (fun K hK => ?_) AllReadyH.nil))
      · go_simp
        refine hK.out _ _ ?_ (fun hHeld => ?_)
        · exact hHeld
        clear hK K
        (try simp only [Act.put, List.setIfInBounds_toArray, List.set_cons_zero, List.set_cons_succ])
        refine wpAnyH_ready (rs := [9]) (by kernel_rfl) (by simp) ?_
        refine (AllReadyH.cons (o := { dst := some 60, op := Op.call { callee := Callee.value (Operand.func 37), args := #[Operand.tmp 52, Operand.tmp 58, Operand.tmp 59], argTypes := #[23, 82, 25] }, type := 39, pos := "ckpt.go:81", after := #[{ on := 1, ground := Ground.data }, { on := 7, ground := Ground.data }, { on := 8, ground := Ground.data }], guard := none }) rfl (fun K hK => ?_) AllReadyH.nil)
        go_simp
        refine (block_calls z zb r bn nq many q Ax nx nx px _ (Kd.C_below HPC.out (below_drew (Below.refl _ _))) (by omega) r2 (by omega) (by have := HMB2.out; omega) hq HPF.out).mono ?_
        rintro e w8 ⟨v8, rfl, hO8, hw8⟩
        obtain ⟨A8, n8, c8, rfl, -, hC8⟩ := Base.Own.reads hO8
        have HO8 := Aside0.mk hO8
        have hb8 : Below Wq.heap.size Wq w8 := Below.trans (below_drew (Below.refl _ _)) hw8
        have HZ8 := Aside0.mk (HZ.out.below hgl hb8)
        have HKF8 := Aside0.mk hb8
        have z0 := pw_cell_below hb8 HZ0.out
        have HE8 := Aside0.mk (ES.below HES.out hb8)
        clear hO8 hw8 hC8 hb8
        refine hK.out _ _ ?_ (fun hHeld => ?_)
        · exact HE8.out
        clear hK K
        (try simp only [Act.put, List.setIfInBounds_toArray, List.set_cons_zero, List.set_cons_succ])
        refine wpAnyH_ready (rs := [10]) (by kernel_rfl) (by simp) ?_
        refine (AllReadyH.cons (o := { dst := some 61, op := Op.buildSlice 28 1 #[(0, Operand.tmp 60)], type := 28, pos := "ckpt.go:81", after := #[{ on := 9, ground := Ground.data }], guard := none }) rfl (fun K hK => ?_) AllReadyH.nil)
        go_simp
        refine hK.out _ _ ?_ (fun hHeld => ?_)
        · exact ES.below HE8.out (alloc_below _ _)
        clear hK K
        (try simp only [Act.put, List.setIfInBounds_toArray, List.set_cons_zero, List.set_cons_succ])
        refine wpAnyH_ready (rs := [11]) (by kernel_rfl) (by simp) ?_
        refine (AllReadyH.cons (o := { dst := some 62, op := Op.call { callee := Callee.builtin Builtin.append, args := #[Operand.tmp 51, Operand.tmp 61], argTypes := #[28, 28] }, type := 28, pos := "ckpt.go:81", after := #[{ on := 0, ground := Ground.data }, { on := 10, ground := Ground.data }, { on := 9, ground := Ground.chain }], guard := none }) rfl (fun K hK => ?_) AllReadyH.nil)
        refine Dv.T.app_blk_step W5.heap.size S (fun j => some j = (Value.slice A8 n8 c8).ownBlock) (.tmp 51) (.tmp 61) (by rfl) rfl (.slice Aq nq cq) (bRow many q bn rm0 l pre) (cblk nq many q px bn) A8 n8 c8 (Dv.T.own_FK HO8.out) (fun j hj e => by have h1 := Kd.N_lt HZ.out.row j e.symm; have h2 := Kd.R_base HO8.out j hj.symm; have h3 : Wq.drew.heap.size = Wq.heap.size := rfl; omega) rfl (by simp [Act.eval]) HZ8.out.row (Nat.le_trans HZ.out.chg.kept.1 HKF8.out.size) HNL.out ?_
        intro v9 w9 hN9 hg9
        obtain ⟨A9, n9, c9, rfl, -, -⟩ := N_open hN9
        have HZ9 := Aside0.mk (HZ8.out.add (Wq := Wq) hgl HZ.out.chg.kept.1 hN9 hg9 (fun j hj => Kd.R_base HO8.out j hj.symm) (Nat.le_trans HZ.out.chg.kept.1 HKF8.out.size))
        have hz9 : w9.heap[gm + 1]? = some (.cells #[.slice Aq nq cq] 28 (0, 0)) := (hg9.block _ HZ8.out.blkEq (fun e => by have := Kd.N_base HZ8.out.row _ e.symm; omega)).trans HZ8.out.blk
        have z9 : w9.cell? ⟨gm + 1, 0, none⟩ = some (.slice Aq nq cq) := by simp [World.cell?, hz9]
        have zf9 : w9.frozen? ⟨gm + 1, 0, none⟩ = false := by simp [World.frozen?, hz9]
        have HG9 := Aside0.mk hg9
        have HE9 := Aside0.mk (ES.move HE8.out (fun k hk => hg9.block k (by have h1 := HS5.out; have h2 := HG2.out; have h3 := HZ.out.chg.kept.1; have h4 := HKF8.out.size; omega) (fun e => by have h5 := Kd.N_base HZ8.out.row k e.symm; have h1 := HS5.out; have h2 := HG2.out; omega)))
        clear hz9 hN9 hg9
        refine hK.out _ _ ?_ (fun hHeld => ?_)
        · exact HE9.out
        clear hK K
        (try simp only [Act.put, List.setIfInBounds_toArray, List.set_cons_zero, List.set_cons_succ])
        refine wpAnyH_ready (rs := [12]) (by kernel_rfl) (by simp) ?_
        refine (AllReadyH.cons (o := { dst := none, op := Op.store 28 (Operand.tmp 8) (Operand.tmp 62), type := 0, pos := "ckpt.go:81", after := #[{ on := 11, ground := Ground.data }, { on := 11, ground := Ground.chain }, { on := 0, ground := Ground.phase }, { on := 1, ground := Ground.phase }, { on := 2, ground := Ground.phase }, { on := 3, ground := Ground.phase }, { on := 4, ground := Ground.phase }, { on := 5, ground := Ground.phase }, { on := 6, ground := Ground.phase }, { on := 7, ground := Ground.phase }, { on := 8, ground := Ground.phase }, { on := 9, ground := Ground.phase }, { on := 10, ground := Ground.phase }, { on := 11, ground := Ground.phase }], guard := none }) rfl (fun K hK => ?_) AllReadyH.nil)
        go_simp
        refine hK.out _ _ ?_ (fun hHeld => ?_)
        · exact ES.move HE9.out (fun k hk => Below.heap_setCell _ _ _ _ (by show k ≠ gm + 1; have h2 := HG2.out; omega))
        clear hK K
        (try simp only [Act.put, List.setIfInBounds_toArray, List.set_cons_zero, List.set_cons_succ])
        refine wpAnyH_done (by kernel_rfl) ?_ _
        obtain ⟨S9, hz⟩ := HZ9.out
        have hkk : KeepsOthers Wq (w9.setCell ⟨gm + 1, 0, none⟩ (.slice A9 n9 c9)) := ((KeepsOthers.of_grownBy (row := none) ⟨HKF8.out.os, HKF8.out.tape, HKF8.out.output, HKF8.out.size, fun k hk _ => HKF8.out.block k hk⟩ (fun j o e => by cases e)).trans (KeepsOthers.of_grownBy HG9.out (fun j o e ho => by obtain ⟨cells, hc⟩ := Kd.N_typed HZ8.out.row j e; rw [hc] at ho; injection ho with ho; rw [← ho]; rfl))).trans (KeepsOthers.setCell _ _ _)
        refine ⟨hkk.from _, fun j hj => ?_, ⟨_, S9, by rw [bRow_snoc, HPX.out, ← HNQ.out]; exact hz⟩⟩
        have hj3 : j < W5.heap.size ∧ j ≠ gm + 1 := by have := HS5.out; omega
        rw [Below.heap_setCell _ _ _ _ hj3.2, HG9.out.block j (by have := HZ.out.chg.kept.1; have := HKF8.out.size; omega) (fun e => by have := Kd.N_base HZ8.out.row j e.symm; omega)]
        exact HKF8.out.block j (by have := HZ.out.chg.kept.1; omega)
      · go_simp
        refine (block_calls z zb r bn nq many q Ax nx nx px _ (Kd.C_below HPC.out (below_drew (Below.refl _ _))) (by omega) r2 (by omega) (by have := HMB2.out; omega) hq HPF.out).mono ?_
        rintro e w8 ⟨v8, rfl, hO8, hw8⟩
        obtain ⟨A8, n8, c8, rfl, -, hC8⟩ := Base.Own.reads hO8
        have HO8 := Aside0.mk hO8
        have hb8 : Below Wq.heap.size Wq w8 := Below.trans (below_drew (Below.refl _ _)) hw8
        have HZ8 := Aside0.mk (HZ.out.below hgl hb8)
        have HKF8 := Aside0.mk hb8
        have z0 := pw_cell_below hb8 HZ0.out
        have HE8 := Aside0.mk (ES.below HES.out hb8)
        clear hO8 hw8 hC8 hb8
        refine hK.out _ _ ?_ (fun hHeld => ?_)
        · exact HE8.out
        clear hK K
        (try simp only [Act.put, List.setIfInBounds_toArray, List.set_cons_zero, List.set_cons_succ])
        refine wpAnyH_ready (rs := [0, 10]) (by kernel_rfl) (by simp) ?_
        refine (AllReadyH.cons (o := { dst := some 51, op := Op.load 28 (Operand.tmp 8), type := 28, pos := "ckpt.go:81", after := #[], guard := none }) rfl (fun K hK => ?_) (AllReadyH.cons (o := { dst := some 61, op := Op.buildSlice 28 1 #[(0, Operand.tmp 60)], type := 28, pos := "ckpt.go:81", after := #[{ on := 9, ground := Ground.data }], guard := none }) rfl (fun K hK => ?_) AllReadyH.nil))
        · go_simp
          refine hK.out _ _ ?_ (fun hHeld => ?_)
          · exact hHeld
          clear hK K
          (try simp only [Act.put, List.setIfInBounds_toArray, List.set_cons_zero, List.set_cons_succ])
          refine wpAnyH_ready (rs := [10]) (by kernel_rfl) (by simp) ?_
          refine (AllReadyH.cons (o := { dst := some 61, op := Op.buildSlice 28 1 #[(0, Operand.tmp 60)], type := 28, pos := "ckpt.go:81", after := #[{ on := 9, ground := Ground.data }], guard := none }) rfl (fun K hK => ?_) AllReadyH.nil)
          go_simp
          refine hK.out _ _ ?_ (fun hHeld => ?_)
          · exact ES.below HE8.out (alloc_below _ _)
          clear hK K
          (try simp only [Act.put, List.setIfInBounds_toArray, List.set_cons_zero, List.set_cons_succ])
          refine wpAnyH_ready (rs := [11]) (by kernel_rfl) (by simp) ?_
          refine (AllReadyH.cons (o := { dst := some 62, op := Op.call { callee := Callee.builtin Builtin.append, args := #[Operand.tmp 51, Operand.tmp 61], argTypes := #[28, 28] }, type := 28, pos := "ckpt.go:81", after := #[{ on := 0, ground := Ground.data }, { on := 10, ground := Ground.data }, { on := 9, ground := Ground.chain }], guard := none }) rfl (fun K hK => ?_) AllReadyH.nil)
          refine Dv.T.app_blk_step W5.heap.size S (fun j => some j = (Value.slice A8 n8 c8).ownBlock) (.tmp 51) (.tmp 61) (by rfl) rfl (.slice Aq nq cq) (bRow many q bn rm0 l pre) (cblk nq many q px bn) A8 n8 c8 (Dv.T.own_FK HO8.out) (fun j hj e => by have h1 := Kd.N_lt HZ.out.row j e.symm; have h2 := Kd.R_base HO8.out j hj.symm; have h3 : Wq.drew.heap.size = Wq.heap.size := rfl; omega) rfl (by simp [Act.eval]) HZ8.out.row (Nat.le_trans HZ.out.chg.kept.1 HKF8.out.size) HNL.out ?_
          intro v9 w9 hN9 hg9
          obtain ⟨A9, n9, c9, rfl, -, -⟩ := N_open hN9
          have HZ9 := Aside0.mk (HZ8.out.add (Wq := Wq) hgl HZ.out.chg.kept.1 hN9 hg9 (fun j hj => Kd.R_base HO8.out j hj.symm) (Nat.le_trans HZ.out.chg.kept.1 HKF8.out.size))
          have hz9 : w9.heap[gm + 1]? = some (.cells #[.slice Aq nq cq] 28 (0, 0)) := (hg9.block _ HZ8.out.blkEq (fun e => by have := Kd.N_base HZ8.out.row _ e.symm; omega)).trans HZ8.out.blk
          have z9 : w9.cell? ⟨gm + 1, 0, none⟩ = some (.slice Aq nq cq) := by simp [World.cell?, hz9]
          have zf9 : w9.frozen? ⟨gm + 1, 0, none⟩ = false := by simp [World.frozen?, hz9]
          have HG9 := Aside0.mk hg9
          have HE9 := Aside0.mk (ES.move HE8.out (fun k hk => hg9.block k (by have h1 := HS5.out; have h2 := HG2.out; have h3 := HZ.out.chg.kept.1; have h4 := HKF8.out.size; omega) (fun e => by have h5 := Kd.N_base HZ8.out.row k e.symm; have h1 := HS5.out; have h2 := HG2.out; omega)))
          clear hz9 hN9 hg9
          refine hK.out _ _ ?_ (fun hHeld => ?_)
          · exact HE9.out
          clear hK K
          (try simp only [Act.put, List.setIfInBounds_toArray, List.set_cons_zero, List.set_cons_succ])
          refine wpAnyH_ready (rs := [12]) (by kernel_rfl) (by simp) ?_
          refine (AllReadyH.cons (o := { dst := none, op := Op.store 28 (Operand.tmp 8) (Operand.tmp 62), type := 0, pos := "ckpt.go:81", after := #[{ on := 11, ground := Ground.data }, { on := 11, ground := Ground.chain }, { on := 0, ground := Ground.phase }, { on := 1, ground := Ground.phase }, { on := 2, ground := Ground.phase }, { on := 3, ground := Ground.phase }, { on := 4, ground := Ground.phase }, { on := 5, ground := Ground.phase }, { on := 6, ground := Ground.phase }, { on := 7, ground := Ground.phase }, { on := 8, ground := Ground.phase }, { on := 9, ground := Ground.phase }, { on := 10, ground := Ground.phase }, { on := 11, ground := Ground.phase }], guard := none }) rfl (fun K hK => ?_) AllReadyH.nil)
          go_simp
          refine hK.out _ _ ?_ (fun hHeld => ?_)
          · exact ES.move HE9.out (fun k hk => Below.heap_setCell _ _ _ _ (by show k ≠ gm + 1; have h2 := HG2.out; omega))
          clear hK K
          (try simp only [Act.put, List.setIfInBounds_toArray, List.set_cons_zero, List.set_cons_succ])
          refine wpAnyH_done (by kernel_rfl) ?_ _
          obtain ⟨S9, hz⟩ := HZ9.out
          have hkk : KeepsOthers Wq (w9.setCell ⟨gm + 1, 0, none⟩ (.slice A9 n9 c9)) := ((KeepsOthers.of_grownBy (row := none) ⟨HKF8.out.os, HKF8.out.tape, HKF8.out.output, HKF8.out.size, fun k hk _ => HKF8.out.block k hk⟩ (fun j o e => by cases e)).trans (KeepsOthers.of_grownBy HG9.out (fun j o e ho => by obtain ⟨cells, hc⟩ := Kd.N_typed HZ8.out.row j e; rw [hc] at ho; injection ho with ho; rw [← ho]; rfl))).trans (KeepsOthers.setCell _ _ _)
          refine ⟨hkk.from _, fun j hj => ?_, ⟨_, S9, by rw [bRow_snoc, HPX.out, ← HNQ.out]; exact hz⟩⟩
          have hj3 : j < W5.heap.size ∧ j ≠ gm + 1 := by have := HS5.out; omega
          rw [Below.heap_setCell _ _ _ _ hj3.2, HG9.out.block j (by have := HZ.out.chg.kept.1; have := HKF8.out.size; omega) (fun e => by have := Kd.N_base HZ8.out.row j e.symm; omega)]
          exact HKF8.out.block j (by have := HZ.out.chg.kept.1; omega)
        · go_simp
          refine hK.out _ _ ?_ (fun hHeld => ?_)
          · exact ES.below HE8.out (alloc_below _ _)
          clear hK K
          (try simp only [Act.put, List.setIfInBounds_toArray, List.set_cons_zero, List.set_cons_succ])
          have z0 := pw_cell_below (alloc_below w8 (.cells #[.slice A8 n8 c8] 39)) z0
          refine wpAnyH_ready (rs := [0]) (by kernel_rfl) (by simp) ?_
          refine (AllReadyH.cons (o := { dst := some 51, op := Op.load 28 (Operand.tmp 8), type := 28, pos := "ckpt.go:81", after := #[], guard := none }) rfl (fun K hK => ?_) AllReadyH.nil)
          go_simp
          refine hK.out _ _ ?_ (fun hHeld => ?_)
          · exact hHeld
          clear hK K
          (try simp only [Act.put, List.setIfInBounds_toArray, List.set_cons_zero, List.set_cons_succ])
          refine wpAnyH_ready (rs := [11]) (by kernel_rfl) (by simp) ?_
          refine (AllReadyH.cons (o := { dst := some 62, op := Op.call { callee := Callee.builtin Builtin.append, args := #[Operand.tmp 51, Operand.tmp 61], argTypes := #[28, 28] }, type := 28, pos := "ckpt.go:81", after := #[{ on := 0, ground := Ground.data }, { on := 10, ground := Ground.data }, { on := 9, ground := Ground.chain }], guard := none }) rfl (fun K hK => ?_) AllReadyH.nil)
          refine Dv.T.app_blk_step W5.heap.size S (fun j => some j = (Value.slice A8 n8 c8).ownBlock) (.tmp 51) (.tmp 61) (by rfl) rfl (.slice Aq nq cq) (bRow many q bn rm0 l pre) (cblk nq many q px bn) A8 n8 c8 (Dv.T.own_FK HO8.out) (fun j hj e => by have h1 := Kd.N_lt HZ.out.row j e.symm; have h2 := Kd.R_base HO8.out j hj.symm; have h3 : Wq.drew.heap.size = Wq.heap.size := rfl; omega) rfl (by simp [Act.eval]) HZ8.out.row (Nat.le_trans HZ.out.chg.kept.1 HKF8.out.size) HNL.out ?_
          intro v9 w9 hN9 hg9
          obtain ⟨A9, n9, c9, rfl, -, -⟩ := N_open hN9
          have HZ9 := Aside0.mk (HZ8.out.add (Wq := Wq) hgl HZ.out.chg.kept.1 hN9 hg9 (fun j hj => Kd.R_base HO8.out j hj.symm) (Nat.le_trans HZ.out.chg.kept.1 HKF8.out.size))
          have hz9 : w9.heap[gm + 1]? = some (.cells #[.slice Aq nq cq] 28 (0, 0)) := (hg9.block _ HZ8.out.blkEq (fun e => by have := Kd.N_base HZ8.out.row _ e.symm; omega)).trans HZ8.out.blk
          have z9 : w9.cell? ⟨gm + 1, 0, none⟩ = some (.slice Aq nq cq) := by simp [World.cell?, hz9]
          have zf9 : w9.frozen? ⟨gm + 1, 0, none⟩ = false := by simp [World.frozen?, hz9]
          have HG9 := Aside0.mk hg9
          have HE9 := Aside0.mk (ES.move HE8.out (fun k hk => hg9.block k (by have h1 := HS5.out; have h2 := HG2.out; have h3 := HZ.out.chg.kept.1; have h4 := HKF8.out.size; omega) (fun e => by have h5 := Kd.N_base HZ8.out.row k e.symm; have h1 := HS5.out; have h2 := HG2.out; omega)))
          clear hz9 hN9 hg9
          refine hK.out _ _ ?_ (fun hHeld => ?_)
          · exact HE9.out
          clear hK K
          (try simp only [Act.put, List.setIfInBounds_toArray, List.set_cons_zero, List.set_cons_succ])
          refine wpAnyH_ready (rs := [12]) (by kernel_rfl) (by simp) ?_
          refine (AllReadyH.cons (o := { dst := none, op := Op.store 28 (Operand.tmp 8) (Operand.tmp 62), type := 0, pos := "ckpt.go:81", after := #[{ on := 11, ground := Ground.data }, { on := 11, ground := Ground.chain }, { on := 0, ground := Ground.phase }, { on := 1, ground := Ground.phase }, { on := 2, ground := Ground.phase }, { on := 3, ground := Ground.phase }, { on := 4, ground := Ground.phase }, { on := 5, ground := Ground.phase }, { on := 6, ground := Ground.phase }, { on := 7, ground := Ground.phase }, { on := 8, ground := Ground.phase }, { on := 9, ground := Ground.phase }, { on := 10, ground := Ground.phase }, { on := 11, ground := Ground.phase }], guard := none }) rfl (fun K hK => ?_) AllReadyH.nil)
          go_simp
          refine hK.out _ _ ?_ (fun hHeld => ?_)
          · exact ES.move HE9.out (fun k hk => Below.heap_setCell _ _ _ _ (by show k ≠ gm + 1; have h2 := HG2.out; omega))
          clear hK K
          (try simp only [Act.put, List.setIfInBounds_toArray, List.set_cons_zero, List.set_cons_succ])
          refine wpAnyH_done (by kernel_rfl) ?_ _
          obtain ⟨S9, hz⟩ := HZ9.out
          have hkk : KeepsOthers Wq (w9.setCell ⟨gm + 1, 0, none⟩ (.slice A9 n9 c9)) := ((KeepsOthers.of_grownBy (row := none) ⟨HKF8.out.os, HKF8.out.tape, HKF8.out.output, HKF8.out.size, fun k hk _ => HKF8.out.block k hk⟩ (fun j o e => by cases e)).trans (KeepsOthers.of_grownBy HG9.out (fun j o e ho => by obtain ⟨cells, hc⟩ := Kd.N_typed HZ8.out.row j e; rw [hc] at ho; injection ho with ho; rw [← ho]; rfl))).trans (KeepsOthers.setCell _ _ _)
          refine ⟨hkk.from _, fun j hj => ?_, ⟨_, S9, by rw [bRow_snoc, HPX.out, ← HNQ.out]; exact hz⟩⟩
          have hj3 : j < W5.heap.size ∧ j ≠ gm + 1 := by have := HS5.out; omega
          rw [Below.heap_setCell _ _ _ _ hj3.2, HG9.out.block j (by have := HZ.out.chg.kept.1; have := HKF8.out.size; omega) (fun e => by have := Kd.N_base HZ8.out.row j e.symm; omega)]
          exact HKF8.out.block j (by have := HZ.out.chg.kept.1; omega)
  case done =>
    rintro D xs Wd hD rfl ⟨vz, S, hz⟩ hK
    have hzr := hz.row
    rw [bRow_all (by rw [HL.out]; exact HMANY.out) HRM.out] at hzr
    obtain ⟨Az, nz, cz, rfl, hcz, -⟩ := N_open hzr
    have hzb := hz.blk
    have z0 : Wd.cell? ⟨gm + 1, 0, none⟩ = some (.slice Az nz cz) := by simp [World.cell?, hzb]
    have HZ := Aside0.mk hz
    have HZR := Aside0.mk hzr
    have HK := Aside0.mk hK
    clear hz hzb hzr hK
    go_wp2
    have hDl := (Array.getElem?_eq_some_iff.1 HK.out).1
    refine Dv.leaves_marks (B := w.heap.size) _ Wd ⟨⟨D, rfl, Nat.le_trans HBW5.out.size hD, HK.out, fun d hd => by cases hd⟩, trivial⟩ (fun W' hs ho ht hou hk => ?_)
    refine ⟨_, results_tmp2 Try.results10 _ _ _, ?_⟩
    have hne : ∀ k, k ≠ D → ∀ d ∈ [({ target := .collected D, args := #[] } : Deferred)], d.target ≠ .collected k := fun k hkD d hd e => by
      rw [List.mem_singleton.1 hd] at e
      injection e with e
      exact hkD e.symm
    have hBWd : Below w.heap.size w Wd := by
      have h1 : Below w.heap.size W5 Wd := HZ.out.chg.to_below HBW5.out.size (fun k e => by have h3 := HB2.out.size; have h4 := HS5.out; have h5 := HB5.out; have h6 := HGM.out; omega)
      exact Below.trans HBW5.out h1
    have hSD : ∀ j, S j → j ≠ D := fun j hj e => by
      subst e
      obtain ⟨o, h5, h6⟩ := (HZ.out.ft _ hj).2.2
      have := HK.out
      rw [this] at h5
      injection h5 with h5
      rw [← h5] at h6
      cases h6
    refine ⟨⟨ho.trans hBWd.os, ht.trans hBWd.tape, hou.trans hBWd.output, Nat.le_trans hBWd.size hs, fun k hlt => ?_⟩, .inl ⟨_, _, HE.out, rfl, ?_⟩⟩
    · have hlD : k < D := by have := HBW5.out.size; omega
      exact (hk k (Nat.lt_of_lt_of_le hlt hBWd.size) (hne k (by omega))).trans (hBWd.block k hlt)
    · exact Kd.N_mono (Kd.N_lower (Kd.N_step HZR.out (fun j hj hlt => hk j hlt (hne j (hSD j hj)))) HBW5.out.size) (fun j hj => ⟨Nat.le_trans HBW5.out.size (HZ.out.ft j hj).1, Nat.lt_of_lt_of_le (HZ.out.ft j hj).2.1 hs⟩)
  case stop =>
    rintro D c pre Wx _ _ h _
    exact h.elim
end Go.Proofs.Ytkmeipblgdahoaa.Ck

/- Kit for the document's checkpoint: Pack of literals, append with the row's form told, four bytes put. -/
namespace Go.Proofs.Ytkmeipblgdahoaa.Rc
open Go.RowKit Go.Proofs.YtkmeipblgdahoaaW.PrintWords Go.Proofs.YtkmeipblgdahoaaW.PrintMore Go.Proofs.Ytkmeipblgdahoaa.Base
set_option linter.unusedVariables false
set_option linter.unusedSimpArgs false
/-- Pack of literals. -/
theorem rpack_lits (w W : World) (ws : List Int) (vs : List Nat) (wv vv : Array Value) (B : World) (hB : B = (W.alloc (.cells wv 3)).alloc (.cells vv 24)) (g1 g2 n1 n2 : Nat) (h1 : g1 = W.heap.size) (h2 : g2 = W.heap.size + 1) (e1 : n1 = ws.length) (e2 : n2 = vs.length)
    (hwv : wv.toList = ws.map fun x => .int .i64 x) (hw : ∀ x ∈ ws, (Lit.int .i64 x).wf = true) (hvv : vv.toList = vs.map fun (x : Nat) => .int .u64 (x : Int)) (hv : ∀ x ∈ vs, x < 18446744073709551616) (hwl : ws.length ≤ 1000) (hvl : vs.length ≤ 1000) (hb : Below w.heap.size w W) :
    Calls Try.prog 41 #[.slice (some ⟨g1, 0, none⟩) n1 n1, .slice (some ⟨g2, 0, none⟩) n2 n2] B fun e w' => ∃ v, e = .returned v ∧ Base.Own w' W.heap.size v (pack ws vs) ∧ Below w.heap.size w w' ∧ Below W.heap.size W w' := by
  subst hB h1 h2 e1 e2
  have c1 := Kd.C_below (wid_lit W ws wv hwv hw hwl) (alloc_below (W.alloc (.cells wv 3)) (.cells vv 24))
  have c2 := val_lit (W.alloc (.cells wv 3)) vs vv hvv hv hvl
  have hz : (W.alloc (.cells wv 3)).heap.size = W.heap.size + 1 := by simp
  rw [hz] at c2
  refine (rpack_calls _ _ _ ws _ _ _ vs _ c1 c2 hwl hvl).mono ?_
  rintro e w' ⟨v, rfl, hO, hb'⟩
  have hbW : Below W.heap.size W w' := below_go (below_alloc (alloc_below W _) _) hb'
  exact ⟨v, rfl, Kd.R_lower hO (by simp; omega), below_go hb hbW, hbW⟩
section
variable {ops : Array Oper} {rest : List Oper} {o : Oper} {a : Act} {Q : Exit → Act → World → Prop}
/-- append(v, ys...), the new slice's form told. -/
theorem app_row2 {w0 W : World} (base : Nat) (s x : Operand) (hgd : o.guard = none) (ho : o.op = .call { callee := .builtin .append, args := #[s, x], argTypes := #[39, 39] })
    (v : Value) (xs ys : List UInt8) (A : Option Addr) (m c : Nat) (hs : a.eval s = v) (hx : a.eval x = .slice A m c)
    (HO : Base.Own W base v xs) (HR : byte.C W A m ys) (HB : Below base w0 W) (hbase : base ≤ W.heap.size) (hl : xs.length + m ≤ 140737488355328) (k : Nat) (hk : xs.length + m = k) (hk0 : 0 < k)
    (h : ∀ g c1 w1, Base.Own w1 base (.slice (some ⟨g, 0, none⟩) k c1) (xs ++ ys) → Below base w0 w1 → base ≤ g → k ≤ c1 → wpList Try.prog ops Q rest (a.put o.dst (.slice (some ⟨g, 0, none⟩) k c1)) w1) : wpList Try.prog ops Q (o :: rest) a W := by
  refine app_row (w0 := w0) base s x hgd ho v xs ys A m c hs hx HO HR HB hbase hl (fun v1 w1 h1 h2 _ => ?_)
  have hm : ys.length = m := HR.1
  obtain ⟨g, c1, rfl, hg, -, hc, -⟩ := own_form h1 (by rw [List.length_append]; omega)
  have e : (xs ++ ys).length = k := by rw [List.length_append]; omega
  rw [e] at h1 hc ⊢
  exact h g c1 w1 h1 h2 hg hc
end
theorem put_step (P bs : List UInt8) (k : Nat) (z : UInt8) (hk : k < 4) (hb : bs.length = 4) (hP : 8 ≤ P.length) (hz : bs.getD k 0 = z) :
    (P.take 4 ++ (bs.take k ++ P.drop (4 + k))).set (4 + k) z = P.take 4 ++ (bs.take (k + 1) ++ P.drop (4 + (k + 1))) := by
  have h1 : (P.take 4).length = 4 := by rw [List.length_take]; omega
  have h2 : (bs.take k).length = k := by rw [List.length_take]; omega
  rw [List.set_append, if_neg (by omega), h1, Nat.add_sub_cancel_left, List.set_append, if_neg (by omega), h2, Nat.sub_self, List.drop_eq_getElem_cons (show 4 + k < P.length by omega), List.set_cons_zero, take_snocD bs 0 k (by omega), hz]
  simp [Nat.add_assoc]
theorem _root_.Go.World.grownBy_set1 (W : World) (p : Addr) (v : Value) : W.grownBy (W.setCell p v) (some p.block) := ⟨rfl, rfl, rfl, (KeepsWalks.setCell W _ v).size, fun k _ hk => Below.heap_setCell _ _ _ k (fun e => hk (by rw [e]))⟩
end Go.Proofs.Ytkmeipblgdahoaa.Rc

/- coamingref14.rises: does each place stand above the one ahead? -/
namespace Go.Proofs.Ytkmeipblgdahoaa.Ck
open Go.RowKit Go.Proofs.YtkmeipblgdahoaaW.PrintWords Go.Proofs.YtkmeipblgdahoaaW.PrintMore Go.Proofs.Ytkmeipblgdahoaa.Base
set_option maxRecDepth 100000
set_option linter.unusedVariables false
set_option linter.unusedSimpArgs false
set_option maxHeartbeats 4000000 in
theorem rises_calls (A : Option Addr) (n c : Nat) (l : List Plc) (w : World) (h : plK.C w A n l) :
    Calls Try.prog 40 #[.slice A n c] w fun e w' => e = .returned (.bool (decide (Rises l))) ∧ Below w.heap.size w w' := by
  obtain ⟨hl, hm⟩ := C_len h
  have HL := Aside0.mk hl
  have HC := Aside0.mk h
  clear h hl
  go_enter Try.func40, Try.ntmps40
  go_wp2
  go_loopg [3] n (fun g1 v3 wr => ∃ i : Nat, v3 = .int .i64 (i : Int) ∧ 1 ≤ i ∧ i ≤ n + 1 ∧ Aside0 (g1 + i = n + 1) ∧ Aside0 (∀ j, j + 1 < i → j + 1 < n → Below2 (l.getD j plc0) (l.getD (j + 1) plc0)) ∧ Aside0 (Below w.heap.size w wr))
  case atStart => exact ⟨1, rfl, by omega, by omega, ⟨rfl⟩, ⟨fun j h1 h2 => by omega⟩, ⟨Below.refl _ _⟩⟩
  case round =>
    obtain ⟨i, rfl, hi1, hi, HK, HS, HB⟩ := hrel
    by_cases hlt : i < n
    · have hd0 : decide ((i : Int) < (n : Int)) = true := decide_eq_true (by omega)
      have hd0' : decide (i < n) = true := decide_eq_true hlt
      obtain ⟨j, hj⟩ : ∃ j : Nat, (i : Int) - 1 = (j : Int) := ⟨i - 1, by omega⟩
      obtain ⟨x, hx⟩ : ∃ x, l.getD j plc0 = x := ⟨_, rfl⟩
      obtain ⟨y, hy⟩ : ∃ y, l.getD i plc0 = y := ⟨_, rfl⟩
      obtain ⟨pa, rfl, -, -, -, e0, e1, e2, e3⟩ := pl_at (Kd.C_below HC.out HB.out) j (by omega) hx
      obtain ⟨pb, hpb, -, -, -, b0, b1, b2, b3⟩ := pl_at (Kd.C_below HC.out (below_alloc HB.out (.cells (plV x) 88))) i hlt hy
      injection hpb with hpb
      subst hpb
      have HXY := Aside0.mk (And.intro hx hy)
      have HIJ := Aside0.mk (show i = j + 1 by omega)
      obtain ⟨x1, x2, x3, x4⟩ := x
      obtain ⟨y1, y2, y3, y4⟩ := y
      dsimp only at e0 e1 e2 e3 b0 b1 b2 b3
      unfold plV at b0 b1 b2 b3
      dsimp only at b0 b1 b2 b3
      have hj0 : (0 : Int) ≤ (j : Int) := by omega
      have hj1 : (j : Int) < (n : Int) := by omega
      have hi0 : (0 : Int) ≤ (i : Int) := by omega
      have hin : (i : Int) < (n : Int) := by omega
      have HB2 := Aside0.mk (below_alloc (below_alloc HB.out (.cells #[.int .u32 (x1 : Int), .int .u64 (x2 : Int), .int .i64 x3, .int .i64 x4] 88)) (.cells #[.int .u32 (y1 : Int), .int .u64 (y2 : Int), .int .i64 y3, .int .i64 y4] 88))
      clear hx hy
      by_cases h1 : y1 < x1
      · have hg : decide ((y1 : Int) < (x1 : Int)) = true := decide_eq_true (by omega)
        have hg' : decide (y1 < x1) = true := decide_eq_true h1
        have HN := Aside0.mk (show ¬ Rises l from fun hr => by
          have := (rises_iff l).1 hr j (by rw [HL.out]; have := HIJ.out; omega)
          rw [← HIJ.out, HXY.out.1, HXY.out.2] at this
          unfold Below2 at this
          dsimp only at this
          omega)
        clear h1
        go_wp2
        go_ret
        exact ⟨by rw [decide_eq_false HN.out]; rfl, HB2.out⟩
      have hg : decide ((y1 : Int) < (x1 : Int)) = false := decide_eq_false (by omega)
      have hg' : decide (y1 < x1) = false := decide_eq_false h1
      by_cases h2 : x1 = y1
      · have he : ((x1 : Int) == (y1 : Int)) = true := by rw [beq_iff_eq]; omega
        have he' : decide ((x1 : Int) = (y1 : Int)) = true := decide_eq_true (by omega)
        by_cases h3 : y2 ≤ x2
        · have hq : decide ((y2 : Int) ≤ (x2 : Int)) = true := decide_eq_true (by omega)
          have hq' : decide (y2 ≤ x2) = true := decide_eq_true h3
          have HN := Aside0.mk (show ¬ Rises l from fun hr => by
            have := (rises_iff l).1 hr j (by rw [HL.out]; have := HIJ.out; omega)
            rw [← HIJ.out, HXY.out.1, HXY.out.2] at this
            unfold Below2 at this
            dsimp only at this
            omega)
          clear h1 h2 h3
          go_wp2
          go_ret
          exact ⟨by rw [decide_eq_false HN.out]; rfl, HB2.out⟩
        · have hq : decide ((y2 : Int) ≤ (x2 : Int)) = false := decide_eq_false (by omega)
          have hq' : decide (y2 ≤ x2) = false := decide_eq_false h3
          have HY := Aside0.mk (show Below2 (x1, x2, x3, x4) (y1, y2, y3, y4) from .inr ⟨h2, by dsimp only; omega⟩)
          clear h1 h2 h3
          go_wp2
          go_roundg (gk - 1)
          case measure => have := HK.out; omega
          case rel =>
            refine ⟨i + 1, by congr 1, by omega, by omega, ⟨by have := HK.out; omega⟩, ⟨fun k hk1 hk2 => ?_⟩, HB2⟩
            by_cases hk : k + 1 < i
            · exact HS.out k hk hk2
            · obtain rfl : k = j := by have := HIJ.out; omega
              rw [← HIJ.out, HXY.out.1, HXY.out.2]
              exact HY.out
      · have he : ((x1 : Int) == (y1 : Int)) = false := by rw [beq_eq_false_iff_ne]; omega
        have he' : decide ((x1 : Int) = (y1 : Int)) = false := decide_eq_false (by omega)
        have HY := Aside0.mk (show Below2 (x1, x2, x3, x4) (y1, y2, y3, y4) from .inl (by dsimp only; omega))
        clear h1 h2
        go_wp2
        go_roundg (gk - 1)
        case measure => have := HK.out; omega
        case rel =>
          refine ⟨i + 1, by congr 1, by omega, by omega, ⟨by have := HK.out; omega⟩, ⟨fun k hk1 hk2 => ?_⟩, HB2⟩
          by_cases hk : k + 1 < i
          · exact HS.out k hk hk2
          · obtain rfl : k = j := by have := HIJ.out; omega
            rw [← HIJ.out, HXY.out.1, HXY.out.2]
            exact HY.out
    · have hd0 : decide ((i : Int) < (n : Int)) = false := decide_eq_false (by omega)
      have hd0' : decide (i < n) = false := decide_eq_false hlt
      have HR := Aside0.mk (show Rises l from (rises_iff l).2 fun k hk => HS.out k (by have := HL.out; omega) (by have := HL.out; omega))
      clear hlt
      go_wp2
      go_ret
      exact ⟨by rw [decide_eq_true HR.out]; rfl, HB.out⟩
end Go.Proofs.Ytkmeipblgdahoaa.Ck

/- The document's checkpoint: coamingref14.Encode. -/
namespace Go.Proofs.Ytkmeipblgdahoaa.Ck
open Go.RowKit Go.Proofs.YtkmeipblgdahoaaW.PrintWords Go.Proofs.YtkmeipblgdahoaaW.PrintMore Go.Proofs.Ytkmeipblgdahoaa.Base Go.Proofs.Ytkmeipblgdahoaa.Rc Go.Proofs.Ytkmeipblgdahoaa.Shp
set_option maxRecDepth 100000
set_option linter.unusedVariables false
set_option linter.unusedSimpArgs false
def REncP (w : World) (z zb b r : Int) (q : Nat) (l : List Plc) (e : Ending) (w' : World) : Prop :=
  Below w.heap.size w w' ∧ ((∃ bs v, encC (decide (Rt z zb b r)) z zb b.toNat q l = .ok bs ∧ e = .returned (.tuple #[v, .int .i64 0]) ∧ Kd.N Dv.bytesK 39 w' w.heap.size (fun k => w.heap.size ≤ k ∧ k < w'.heap.size) v bs) ∨
    (∃ x : Int, encC (decide (Rt z zb b r)) z zb b.toNat q l = .error x ∧ (x = 140 ∨ x = 141) ∧ e = .returned (.tuple #[.slice none 0 0, .int .i64 x])))
/-- The shape's and the state's boxes. -/
def RB (w : World) (g : Nat) (z zb b r : Int) (q : Nat) (A : Option Addr) (n c : Nat) : Prop :=
  w.heap[g]? = some (.cells #[.int .i64 z, .int .i64 zb, .int .i64 b, .int .i64 r] 23 (0, 0)) ∧ w.heap[g + 1]? = some (.cells #[.int .u64 (q : Int), .slice A n c] 27 (0, 0))
theorem RB.below {w w' : World} {g : Nat} {z zb b r : Int} {q : Nat} {A : Option Addr} {n c : Nat} (h : RB w g z zb b r q A n c) (hb : Below w.heap.size w w') : RB w' g z zb b r q A n c := ⟨blk_old hb h.1, blk_old hb h.2⟩
theorem RB.cells {w : World} {g : Nat} {z zb b r : Int} {q : Nat} {A : Option Addr} {n c : Nat} (h : RB w g z zb b r q A n c) :
    w.cell? ⟨g, 0, none⟩ = some (.int .i64 z) ∧ w.cell? ⟨g, 1, none⟩ = some (.int .i64 zb) ∧ w.cell? ⟨g, 2, none⟩ = some (.int .i64 b) ∧ w.cell? ⟨g, 3, none⟩ = some (.int .i64 r) ∧ w.cell? ⟨g + 1, 0, none⟩ = some (.int .u64 (q : Int)) ∧ w.cell? ⟨g + 1, 1, none⟩ = some (.slice A n c) := by
  obtain ⟨h1, h2⟩ := h
  exact ⟨by simp [World.cell?, h1], by simp [World.cell?, h1], by simp [World.cell?, h1], by simp [World.cell?, h1], by simp [World.cell?, h2], by simp [World.cell?, h2]⟩
theorem plB_pack (x1 x2 a3 a4 : Nat) : pack [4, 8, 2, 2] [x1, x2, a3, a4] = plB (x1, x2, (a3 : Int), (a4 : Int)) := by
  unfold plB
  simp [pack, wd]
theorem blks_snoc {q : Nat} {l : List Plc} {n i : Nat} (hi : i < manyN l.length n) : (blks q l n).take (i + 1) = (blks q l n).take i ++ [cblk i (manyN l.length n) q ((l.drop (i * rmC n)).take (rmC n)) n] := by
  rw [Rc.take_snocD _ [] i (by rw [blks_len]; exact hi)]
  congr 2
  unfold blks
  rw [List.getD_eq_getElem?_getD, List.getElem?_map, List.getElem?_range hi]
  rfl
attribute [local go_sem] min2_mn min_two
set_option maxHeartbeats 4000000 in
theorem rcenc_calls (z zb b r : Int) (hz : IsI z) (hzb : IsI zb) (hb : IsI b) (hr : IsI r) (q : Nat) (hq : q < 18446744073709551616) (A : Option Addr) (n c : Nat) (l : List Plc) (hn : n ≤ 10000000) (hnc : n ≤ c) (w : World) (h : plK.C w A n l) (hok : ∀ x ∈ l, PlcOk x) :
    Calls Try.prog 11 #[.agg #[.int .i64 z, .int .i64 zb, .int .i64 b, .int .i64 r], .agg #[.int .u64 (q : Int), .slice A n c]] w (REncP w z zb b r q l) := by
  obtain ⟨hl, hm⟩ := C_len h
  have HL := Aside0.mk hl
  have HC := Aside0.mk h
  have HOK := Aside0.mk hok
  have HA := Aside0.mk (below_alloc (alloc_below w (.cells #[.int .i64 z, .int .i64 zb, .int .i64 b, .int .i64 r] 23)) (.cells #[.int .u64 (q : Int), .slice A n c] 27))
  have HB0 := Aside0.mk (show RB ((w.alloc (.cells #[.int .i64 z, .int .i64 zb, .int .i64 b, .int .i64 r] 23)).alloc (.cells #[.int .u64 (q : Int), .slice A n c] 27)) w.heap.size z zb b r q A n c from ⟨blk_past (blk_here rfl), blk_here (by simp)⟩)
  have HI := Aside0.mk (And.intro hz (And.intro hzb (And.intro hb hr)))
  obtain ⟨rt, hrt⟩ : ∃ rt, decide (Rt z zb b r) = rt := ⟨_, rfl⟩
  have HRT := Aside0.mk hrt
  clear h hl hok hz hzb hb hr hrt
  go_enter Try.func11, Try.ntmps11
  go_wp2_with fail
  obtain ⟨g, hg⟩ : ∃ g, w.heap.size = g := ⟨_, rfl⟩
  obtain ⟨W, hW⟩ : ∃ W, (w.alloc (.cells #[.int .i64 z, .int .i64 zb, .int .i64 b, .int .i64 r] 23)).alloc (.cells #[.int .u64 (q : Int), .slice A n c] 27) = W := ⟨_, rfl⟩
  rw [hW] at HA HB0 ⊢
  rw [hg] at HB0 ⊢
  have HG := Aside0.mk (Nat.le_of_eq hg)
  clear hW hg
  refine (ref_right_calls z zb b r HI.out.1 HI.out.2.1 HI.out.2.2.1 HI.out.2.2.2 _).mono ?_
  rintro e w1 ⟨rfl, hb1⟩
  rw [HRT.out]
  have HB1 := Aside0.mk hb1
  clear hb1
  cases rt with
  | false =>
    have HW1 := Aside0.mk (below_go HA.out HB1.out)
    go_wp2
    go_ret2
    exact ⟨HW1.out, .inr ⟨141, by unfold encC; rw [HRT.out, if_neg (fun h => by cases h.1)], .inr rfl, rfl⟩⟩
  | true =>
  obtain ⟨c0, c1, c2, c3, s0, s1⟩ := (HB0.out.below HB1.out).cells
  obtain ⟨mb, hmb⟩ : ∃ mb, decide (Rises l) = mb := ⟨_, rfl⟩
  have HMB := Aside0.mk hmb
  clear hmb
  go_wp2_with fail
  refine (rises_calls A n c l _ (Kd.C_below HC.out (below_go HA.out HB1.out))).mono ?_
  rintro e w2 ⟨rfl, hb2⟩
  rw [HMB.out]
  have HB2 := Aside0.mk (below_go HB1.out hb2)
  clear hb2 c0 c1 c2 c3 s0 s1
  cases mb with
  | false =>
    have HW2 := Aside0.mk (below_go HA.out HB2.out)
    go_wp2
    go_ret2
    exact ⟨HW2.out, .inr ⟨141, by unfold encC; rw [if_neg (fun h => by have := h.2.2; rw [decide_eq_false_iff_not] at HMB; exact HMB.out this)], .inr rfl, rfl⟩⟩
  | true =>
  have HRS := Aside0.mk (of_decide_eq_true HMB.out)
  have HRT2 := Aside0.mk (of_decide_eq_true HRT.out)
  go_wp2
  go_loopg [7] n (fun g1 v7 wr => ∃ i : Nat, v7 = .int .i64 (i : Int) ∧ i ≤ n ∧ Aside0 (g1 + i = n) ∧ Aside0 (∀ x ∈ l.take i, InIt z zb x) ∧ Aside0 (Below W.heap.size W wr))
  case atStart => exact ⟨0, rfl, Nat.zero_le _, ⟨rfl⟩, ⟨fun x hx => by simp at hx⟩, HB2⟩
  case round =>
    obtain ⟨i, rfl, hi, HK, HIN, HBW⟩ := hrel
    obtain ⟨c0, c1, c2, c3, s0, s1⟩ := (HB0.out.below HBW.out).cells
    by_cases hlt : i < n
    · have hd0 : decide ((i : Int) < (n : Int)) = true := decide_eq_true (by omega)
      have hd0' : decide (i < n) = true := decide_eq_true hlt
      obtain ⟨x, hx⟩ : ∃ x, l.getD i plc0 = x := ⟨_, rfl⟩
      obtain ⟨pa, rfl, -, -, -, e0, e1, e2, e3⟩ := pl_at (Kd.C_below HC.out (below_go HA.out HBW.out)) i hlt hx
      have HTK := Aside0.mk (show l.take (i + 1) = l.take i ++ [x] by rw [Rc.take_snocD l plc0 i (by rw [HL.out]; exact hlt), hx])
      have HXM := Aside0.mk (show x ∈ l by rw [← hx, List.getD_eq_getElem?_getD, List.getElem?_eq_getElem (by rw [HL.out]; exact hlt)]; exact List.getElem_mem _)
      obtain ⟨x1, x2, x3, x4⟩ := x
      dsimp only at e0 e1 e2 e3
      have e3' : wr.cell? ⟨(pa.add (i * 4)).block, (pa.add (i * 4)).off + 2 + 1, none⟩ = some (.int .i64 x4) := e3
      have hi0 : (0 : Int) ≤ (i : Int) := by omega
      have hin : (i : Int) < (n : Int) := by omega
      have c0a := pw_cell_below (alloc_below wr (.cells #[.int .i64 x3, .int .i64 x4] 59)) c0
      have c1a := pw_cell_below (alloc_below wr (.cells #[.int .i64 x3, .int .i64 x4] 59)) c1
      have HB3 := Aside0.mk (below_alloc HBW.out (.cells #[.int .i64 x3, .int .i64 x4] 59))
      clear hx
      by_cases hit : InIt z zb (x1, x2, x3, x4)
      case neg =>
        have HE := Aside0.mk (show encC (decide (Rt z zb b r)) z zb b.toNat q l = .error 141 by unfold encC; rw [if_neg (fun h => hit (h.2.1 _ HXM.out))])
        have HW3 := Aside0.mk (below_go HA.out HB3.out)
        by_cases a1 : x3 < 2
        · have d1 : decide (x3 < 2) = true := decide_eq_true a1
          clear hit a1
          go_wp2
          go_ret2
          exact ⟨HW3.out, .inr ⟨141, HE.out, .inr rfl, rfl⟩⟩
        have d1 : decide (x3 < 2) = false := decide_eq_false a1
        by_cases a2 : z ≤ x3
        · have d2 : decide (z ≤ x3) = true := decide_eq_true a2
          clear hit a1 a2
          go_wp2
          go_ret2
          exact ⟨HW3.out, .inr ⟨141, HE.out, .inr rfl, rfl⟩⟩
        have d2 : decide (z ≤ x3) = false := decide_eq_false a2
        by_cases a3 : x4 < 0
        · have d3 : decide (x4 < 0) = true := decide_eq_true a3
          clear hit a1 a2 a3
          go_wp2
          go_ret2
          exact ⟨HW3.out, .inr ⟨141, HE.out, .inr rfl, rfl⟩⟩
        have d3 : decide (x4 < 0) = false := decide_eq_false a3
        have a4 : zb ≤ x4 := by
          have h1 : ¬ (2 ≤ x3 ∧ x3 < z ∧ 0 ≤ x4 ∧ x4 < zb) := hit
          omega
        have d4 : decide (zb ≤ x4) = true := decide_eq_true a4
        clear hit a1 a2 a3 a4
        go_wp2
        go_ret2
        exact ⟨HW3.out, .inr ⟨141, HE.out, .inr rfl, rfl⟩⟩
      have hit' : 2 ≤ x3 ∧ x3 < z ∧ 0 ≤ x4 ∧ x4 < zb := hit
      have d1 : decide (x3 < 2) = false := decide_eq_false (by omega)
      have d2 : decide (z ≤ x3) = false := decide_eq_false (by omega)
      have d3 : decide (x4 < 0) = false := decide_eq_false (by omega)
      have d4 : decide (zb ≤ x4) = false := decide_eq_false (by omega)
      have HIT := Aside0.mk hit
      clear hit hit'
      go_wp2
      go_roundg (gk - 1)
      case measure => have := HK.out; omega
      case rel =>
        refine ⟨i + 1, by congr 1, by omega, ⟨by have := HK.out; omega⟩, ⟨fun y hy => ?_⟩, HB3⟩
        rw [HTK.out] at hy
        rcases List.mem_append.1 hy with hy | hy
        · exact HIN.out y hy
        · rw [List.mem_singleton.1 hy]; exact HIT.out
    · obtain rfl : n = i := by omega
      have hd0 : decide ((n : Int) < (n : Int)) = false := decide_eq_false (by omega)
      have hd0' : decide (n < n) = false := decide_eq_false (by omega)
      have HMP := Aside0.mk (show MayP z zb l from ⟨by have := HIN.out; rw [List.take_of_length_le (by rw [HL.out]; omega)] at this; exact this, HRS.out⟩)
      have hpw := HRT2.out.2.2.2.2.1
      obtain ⟨bn, rfl⟩ : ∃ bn : Nat, b = (bn : Int) := ⟨b.toNat, by have := pow_range hpw; omega⟩
      obtain ⟨rm0, hrm0⟩ : ∃ rm0 : Nat, rmC bn = rm0 := ⟨_, rfl⟩
      have hrm : rm (bn : Int) = (rm0 : Int) := by rw [rm_rmC, hrm0]
      have hrp : 0 < rm0 := by
        rw [← hrm0]
        unfold rmC
        unfold Shp.Pow at hpw
        rw [if_pos (by omega)]
        omega
      obtain ⟨r1, r2, r3, r4, r5⟩ := rmC_le bn (by rw [hrm0]; exact hrp)
      rw [hrm0] at r3 r4 r5
      have HRM := Aside0.mk hrm0
      have hw1 : IntKind.i64.wrap ((n : Int) + (rm0 : Int)) = (n : Int) + (rm0 : Int) := IntWalk.i64_in _ (by omega)
      have hw2 : IntKind.i64.wrap ((n : Int) + (rm0 : Int) - 1) = (n : Int) + (rm0 : Int) - 1 := IntWalk.i64_in _ (by omega)
      obtain ⟨mq, hmq⟩ : ∃ mq, (n + rm0 - 1) / rm0 = mq := ⟨_, rfl⟩
      have hmq2 : mq ≤ n + rm0 - 1 := by rw [← hmq]; exact Nat.div_le_self _ _
      have htd : ((n : Int) + (rm0 : Int) - 1).tdiv (rm0 : Int) = (mq : Int) := by
        rw [show (n : Int) + (rm0 : Int) - 1 = ((n + rm0 - 1 : Nat) : Int) by omega, Int.tdiv_eq_ediv_of_nonneg (by omega), ← hmq]
        exact (Int.natCast_ediv _ _).symm
      have hw3 : IntKind.i64.wrap (mq : Int) = (mq : Int) := IntWalk.i64_in _ (by omega)
      obtain ⟨many, hmany⟩ : ∃ many, manyN n bn = many := ⟨_, rfl⟩
      have hmm : many = max mq 1 := by rw [← hmany]; unfold manyN; rw [hrm0, hmq]
      have hrn : ¬ (rm0 : Int) = 0 := by omega
      have HMANY := Aside0.mk hmany
      have HMM := Aside0.mk hmm
      have HQM := Aside0.mk hmq
      have HFIT := Aside0.mk (HMP.out.fit HRT2.out.2.1 HRT2.out.2.2.2.1 HOK.out)
      clear hmany hmq hrm0 hmm hpw
      go_wp2_with fail
      refine (ref_room_calls (bn : Int) HI.out.2.2.1 _).mono ?_
      rintro e w3 ⟨rfl, hww⟩
      rw [← hww, hrm]
      clear hrm hww w3
      go_upto_if 77 with fail
      go_cut [10] from 20 (fun v10 wx => v10 = .int .i64 (many : Int) ∧ wx = wr)
      case first =>
        by_cases h0 : mq = 0
        · have hb0 : ((mq : Int) == 0) = true := by rw [h0]; rfl
          have HE := Aside0.mk (show many = 1 by rw [HMM.out, h0]; rfl)
          clear h0
          go_wp2_with fail
          go_meet
          exact ⟨by rw [HE.out]; rfl, rfl⟩
        · have hb0 : ((mq : Int) == 0) = false := by rw [beq_eq_false_iff_ne]; omega
          have HE := Aside0.mk (show many = mq by rw [HMM.out]; omega)
          clear h0
          go_wp2_with fail
          go_meet
          exact ⟨by rw [HE.out], rfl⟩
      obtain ⟨rfl, rfl⟩ := hcut
      clear htd hw1 hw2 hw3 hrn
      by_cases hlong : zb < (many : Int)
      · have hd1 : decide (zb < (many : Int)) = true := decide_eq_true hlong
        have HE := Aside0.mk (show encC (decide (Rt z zb (bn : Int) r)) z zb (bn : Int).toNat q l = .error 140 by
          unfold encC
          rw [if_pos ⟨HRT.out, HMP.out⟩, Int.toNat_natCast, HL.out, HMANY.out, if_neg (by omega)])
        have HW3 := Aside0.mk (below_go HA.out HBW.out)
        clear hlong
        go_wp2
        go_ret2
        exact ⟨HW3.out, .inr ⟨140, HE.out, .inl rfl, rfl⟩⟩
      have hd1 : decide (zb < (many : Int)) = false := decide_eq_false hlong
      have HE := Aside0.mk (show encC (decide (Rt z zb (bn : Int) r)) z zb (bn : Int).toNat q l = .ok (blks q l bn) by
        unfold encC
        rw [if_pos ⟨HRT.out, HMP.out⟩, Int.toNat_natCast, HL.out, HMANY.out, if_pos (by omega)])
      have hm4 : many ≤ 4096 := by have := HRT2.out.2.2.2.1; omega
      clear hlong
      go_wp2
      clear hd1 c0 c1 c2 c3 s0 s1
      obtain ⟨wo, rfl⟩ : ∃ wo : World, wo = wc := ⟨_, rfl⟩
      go_loopg [11, 12] many (fun g1 v11 v12 wr => ∃ i : Nat, v12 = .int .i64 (i : Int) ∧ i ≤ many ∧ Aside0 (g1 + i = many) ∧ Aside0 (Kd.N Dv.bytesK 39 wr W.heap.size (fun k => W.heap.size ≤ k ∧ k < wr.heap.size) v11 ((blks q l bn).take i)) ∧ Aside0 (Below W.heap.size W wr))
      case atStart => exact ⟨0, rfl, Nat.zero_le _, ⟨rfl⟩, ⟨by rw [List.take_zero]; exact Kd.N_nil _ _ _ _ _⟩, HBW⟩
      case round =>
        obtain ⟨i, rfl, hi, HK2, HN, HBr⟩ := hrel
        obtain ⟨Wr, rfl⟩ : ∃ Wr : World, Wr = wr := ⟨_, rfl⟩
        by_cases hlt : i < many
        case neg =>
          obtain rfl : many = i := by omega
          have hd0 : decide ((many : Int) < (many : Int)) = false := decide_eq_false (by omega)
          have hd0' : decide (many < many) = false := decide_eq_false (by omega)
          have HW3 := Aside0.mk (below_go HA.out HBr.out)
          have hN := HN.out
          rw [List.take_of_length_le (by rw [blks_len, HL.out, HMANY.out]; exact Nat.le_refl _)] at hN
          have HN9 := Aside0.mk (show Kd.N Dv.bytesK 39 Wr w.heap.size (fun k => w.heap.size ≤ k ∧ k < Wr.heap.size) u11 (blks q l bn) from Kd.N_mono (Kd.N_lower hN HA.out.size) (fun k hk => ⟨Nat.le_trans HA.out.size hk.1, hk.2⟩))
          clear hN hlt
          go_wp2
          go_ret2
          exact ⟨HW3.out, .inl ⟨_, _, HE.out, rfl, HN9.out⟩⟩
        have hd0 : decide ((i : Int) < (many : Int)) = true := decide_eq_true (by omega)
        have hd0' : decide (i < many) = true := decide_eq_true hlt
        obtain ⟨fr, hfr⟩ : ∃ fr, i * rm0 = fr := ⟨_, rfl⟩
        have hfn : fr ≤ n := by
          rw [← hfr]
          rcases Nat.eq_zero_or_pos i with h0 | h0
          · rw [h0, Nat.zero_mul]; exact Nat.zero_le _
          · have h1 : i + 1 ≤ (n + rm0 - 1) / rm0 := by rw [HQM.out]; have := HMM.out; omega
            have h2 := (Nat.le_div_iff_mul_le hrp).1 h1
            rw [Nat.add_mul, Nat.one_mul] at h2
            omega
        obtain ⟨pc, hpc⟩ : ∃ pc, (l.drop fr).take rm0 = pc := ⟨_, rfl⟩
        obtain ⟨cnt, hcnt⟩ : ∃ cnt, pc.length = cnt := ⟨_, rfl⟩
        have hcn : cnt = min rm0 (n - fr) := by rw [← hcnt, ← hpc, List.length_take, List.length_drop, HL.out]
        obtain ⟨te, hto⟩ : ∃ te, fr + cnt = te := ⟨_, rfl⟩
        have t1 : (i : Int) * (rm0 : Int) = (fr : Int) := by rw [← hfr]; exact (Int.natCast_mul _ _).symm
        have t2 : mn ((fr : Int) + (rm0 : Int)) (n : Int) = (te : Int) := by unfold mn; split <;> omega
        have t3 : (te : Int) - (fr : Int) = (cnt : Int) := by omega
        have HPC := Aside0.mk hpc
        have HCN := Aside0.mk hcnt
        have HFR := Aside0.mk hfr
        have hit2 : i < many := hlt
        obtain ⟨c0, c1, c2, c3, s0, s1⟩ := (HB0.out.below HBr.out).cells
        have s0a := pw_cell_below (alloc_below Wr (.cells #[.int .i64 4, .int .i64 4, .int .i64 4, .int .i64 4, .int .i64 8, .int .i64 2] 3)) s0
        have h16 : cnt ≤ rm0 ∧ te ≤ n := by omega
        clear hpc hcnt hfr hlt hcn
        go_wp2_with fail
        refine (rpack_lits Wr Wr [4, 4, 4, 4, 8, 2] [cmagic, 0, i, many, q, cnt] _ _ _ rfl _ _ _ _ rfl rfl rfl rfl rfl (by decide) rfl ?hv (by decide) (by simp) (Below.refl _ _)).mono ?_
        case hv =>
          intro x hx
          simp only [List.mem_cons, List.not_mem_nil, or_false] at hx
          rcases hx with rfl | rfl | rfl | rfl | rfl | rfl
          · decide
          · decide
          · omega
          · omega
          · exact hq
          · omega
        rintro e w4 ⟨v4, rfl, hO4, hb4, -⟩
        obtain ⟨hd, hhd⟩ : ∃ hd, pack [4, 4, 4, 4, 8, 2] [cmagic, 0, i, many, q, cnt] = hd := ⟨_, rfl⟩
        rw [hhd] at hO4
        have HHD := Aside0.mk (show hd = be 4 cmagic ++ (be 4 0 ++ (be 4 i ++ (be 4 many ++ (be 8 q ++ be 2 cnt)))) by rw [← hhd]; simp [pack, wd])
        have HHL := Aside0.mk (show hd.length = 26 by rw [HHD.out]; simp [be_len])
        have HO4 := Aside0.mk hO4
        have HB4 := Aside0.mk hb4
        have hkt : fr ≤ te := by omega
        clear hO4 hb4 hhd c0 c1 c2 c3 s0 s1 s0a t1 t2 t3 hd0 hd0'
        go_wp2
        go_loopg [15, 16] cnt (fun g1 v15 v16 wr => ∃ k : Nat, v16 = .int .i64 (k : Int) ∧ fr ≤ k ∧ k ≤ te ∧ Aside0 (g1 + k = te) ∧ Aside0 (Base.Own wr Wr.heap.size v15 (hd ++ plsB (pc.take (k - fr)))) ∧ Aside0 (Below Wr.heap.size Wr wr))
        case atStart => exact ⟨fr, rfl, Nat.le_refl _, hkt, ⟨by omega⟩, ⟨by rw [Nat.sub_self, List.take_zero]; simpa [plsB] using HO4.out⟩, HB4⟩
        case round =>
          obtain ⟨k, rfl, hkf, hkt2, HK3, HO, HBk⟩ := hrel
          obtain ⟨Wk, rfl⟩ : ∃ Wk : World, Wk = wr := ⟨_, rfl⟩
          by_cases hlt : k < te
          · have hd0 : decide ((k : Int) < (te : Int)) = true := decide_eq_true (by omega)
            have hd0' : decide (k < te) = true := decide_eq_true hlt
            obtain ⟨c0, c1, c2, c3, s0, s1⟩ := (HB0.out.below (below_go HBr.out HBk.out)).cells
            obtain ⟨x, hx⟩ : ∃ x, l.getD k plc0 = x := ⟨_, rfl⟩
            have hkn : k < n := by omega
            obtain ⟨pa, rfl, -, -, -, e0, e1, e2, e3⟩ := pl_at (Kd.C_below HC.out (below_go HA.out (below_go HBr.out HBk.out))) k hkn hx
            have hxm : x ∈ l := by rw [← hx, List.getD_eq_getElem?_getD, List.getElem?_eq_getElem (by rw [HL.out]; exact hkn)]; exact List.getElem_mem _
            have HTK := Aside0.mk (show pc.take (k + 1 - fr) = pc.take (k - fr) ++ [x] by
              rw [show k + 1 - fr = (k - fr) + 1 by omega, Rc.take_snocD pc plc0 (k - fr) (by rw [HCN.out]; omega)]
              congr 2
              rw [← HPC.out, ← hx, List.getD_eq_getElem?_getD, List.getD_eq_getElem?_getD, List.getElem?_take_of_lt (by omega), List.getElem?_drop, show fr + (k - fr) = k by omega])
            have hfit := HFIT.out x hxm
            have hin := HMP.out.1 x hxm
            obtain ⟨x1, x2, x3, x4⟩ := x
            obtain ⟨⟨k1, k2⟩, k3, k4, k5, k6⟩ := hfit
            dsimp only at e0 e1 e2 e3 k1 k2 k3 k4 k5 k6
            obtain ⟨a3, rfl⟩ : ∃ a : Nat, x3 = (a : Int) := ⟨x3.toNat, by omega⟩
            obtain ⟨a4, rfl⟩ : ∃ a : Nat, x4 = (a : Int) := ⟨x4.toNat, by omega⟩
            have k1' : (x1 : Int) < 4294967296 := by omega
            have k2' : (x2 : Int) < 18446744073709551616 := by omega
            have hi0 : (0 : Int) ≤ (k : Int) := by omega
            have hin' : (k : Int) < (n : Int) := by omega
            have HLT := Aside0.mk hlt
            clear hx hxm hin hlt
            go_wp2_with fail
            refine (rpack_lits Wr (Wk.alloc (.cells #[.int .u32 (x1 : Int), .int .u64 (x2 : Int), .int .i64 (a3 : Int), .int .i64 (a4 : Int)] 88)) [4, 8, 2, 2] [x1, x2, a3, a4] _ _ _ rfl _ _ _ _ (by simp) (by simp) rfl rfl rfl (by decide) rfl ?hv (by decide) (by simp) (below_alloc HBk.out _)).mono ?_
            case hv =>
              intro y hy
              simp only [List.mem_cons, List.not_mem_nil, or_false] at hy
              rcases hy with rfl | rfl | rfl | rfl <;> omega
            rintro e w5 ⟨v5, rfl, hO5, hb5', hb25⟩
            rw [plB_pack] at hO5
            have HO5 := Aside0.mk hO5
            have HB5 := Aside0.mk hb5'
            have hbw5 := below_go (alloc_below Wk (.cells #[.int .u32 (x1 : Int), .int .u64 (x2 : Int), .int .i64 (a3 : Int), .int .i64 (a4 : Int)] 88)) hb25
            obtain ⟨A5, n5, c5, rfl, -, hC5⟩ := HO5.out.reads
            have HC5 := Aside0.mk hC5
            have HOW := Aside0.mk (HO.out.below hbw5)
            have HPL := Aside0.mk (show (hd ++ plsB (pc.take (k - fr))).length + n5 ≤ 140737488355328 by
              have h1 := (C_len HC5.out).1
              rw [plB_len] at h1
              rw [List.length_append, HHL.out, plsB_len, List.length_take]
              omega)
            clear hC5 hO5 hb5' hb25 hbw5 e0 e1 e2 e3 c0 c1 c2 c3 s0 s1
            go_wp2_with (at_builtin; (refine app_row (w0 := Wr) Wr.heap.size (.tmp 121) (.tmp 137) rfl rfl _ (hd ++ plsB (pc.take (k - fr))) (plB (x1, x2, (a3 : Int), (a4 : Int))) A5 n5 c5 rfl rfl HOW.out HC5.out HB5.out HB5.out.size HPL.out ?_); intro v6 w6 hO6 hB6 _; (have HO6 := Aside0.mk hO6; have HB6 := Aside0.mk hB6; clear hO6 hB6))
            go_wp2
            go_roundg (te - (k + 1))
            case measure => have := HK3.out; have := HLT.out; omega
            case rel =>
              refine ⟨k + 1, by congr 1, by omega, by have := HLT.out; omega, ⟨by have := HK3.out; have := HLT.out; omega⟩, ⟨?_⟩, HB6⟩
              rw [HTK.out, plsB_snoc, ← List.append_assoc]
              exact HO6.out
          · obtain rfl : te = k := by omega
            have hd0 : decide ((te : Int) < (te : Int)) = false := decide_eq_false (by omega)
            have hd0' : decide (te < te) = false := decide_eq_false (by omega)
            obtain ⟨p, hp⟩ : ∃ p, hd ++ plsB pc = p := ⟨_, rfl⟩
            have HOp := Aside0.mk (show Base.Own Wk Wr.heap.size u15 p by have := HO.out; rw [List.take_of_length_le (by rw [HCN.out]; omega), hp] at this; exact this)
            have HP := Aside0.mk hp
            obtain ⟨lo, hlo⟩ : ∃ lo, 26 + 16 * cnt = lo := ⟨_, rfl⟩
            have HPL := Aside0.mk (show p.length = lo by rw [← hp, List.length_append, HHL.out, plsB_len, HCN.out, hlo])
            have hlb : lo + 1 ≤ bn := by omega
            have HLO := Aside0.mk hlo
            clear hp hlo hlt
            go_wp2
            clear hd0 hd0'
            go_loopg [15] (bn - 1 - lo) (fun g1 v15 wr => ∃ j : Nat, lo + j ≤ bn - 1 ∧ Aside0 (g1 + j = bn - 1 - lo) ∧ Aside0 (Base.Own wr Wr.heap.size v15 (p ++ List.replicate j 0)) ∧ Aside0 (Below Wr.heap.size Wr wr))
            case atStart => exact ⟨0, by omega, ⟨rfl⟩, ⟨by simpa using HOp.out⟩, HBk⟩
            case round =>
              obtain ⟨j, hj, HK4, HO2, HB2'⟩ := hrel
              obtain ⟨Wj, rfl⟩ : ∃ Wj : World, Wj = wr := ⟨_, rfl⟩
              obtain ⟨A7, n7, c7, rfl, -, hC7⟩ := HO2.out.reads
              have hn7 : n7 = lo + j := by have := (C_len hC7).1; rw [List.length_append, List.length_replicate, HPL.out] at this; omega
              subst hn7
              obtain ⟨c0, c1, c2, c3, s0, s1⟩ := (HB0.out.below (below_go HBr.out HB2'.out)).cells
              have HPJ := Aside0.mk (show (p ++ List.replicate j (0 : UInt8)).length + 1 ≤ 140737488355328 by rw [List.length_append, List.length_replicate, HPL.out]; omega)
              by_cases hjl : lo + j < bn - 1
              · have hd1 : decide (((lo + j : Nat) : Int) < (bn : Int) - 1) = true := decide_eq_true (by omega)
                have hd1' : decide ((lo : Int) + (j : Int) < (bn : Int) - 1) = true := decide_eq_true (by omega)
                have HLB := Aside0.mk (show byte.C (Wj.alloc (.cells #[.int .u8 0] 5)) (some ⟨Wj.heap.size, 0, none⟩) 1 [0] from C_lit rfl (by exact ⟨rfl, trivial⟩) rfl rfl (by simp))
                clear hC7
                go_wp2_with (at_builtin; (refine app_row (w0 := Wr) Wr.heap.size (.tmp 145) (.tmp 146) rfl rfl _ (p ++ List.replicate j 0) [0] _ _ _ rfl rfl (HO2.out.below (alloc_below _ _)) HLB.out (below_alloc HB2'.out _) (below_alloc HB2'.out _).size HPJ.out ?_); intro v2 w2 hO9 hB9 _; (have HO9 := Aside0.mk hO9; have HB9 := Aside0.mk hB9; clear hO9 hB9))
                go_wp2
                go_roundg (bn - 1 - lo - (j + 1))
                case measure => have := HK4.out; omega
                case rel => exact ⟨j + 1, by omega, ⟨by have := HK4.out; omega⟩, ⟨by rw [List.replicate_succ', ← List.append_assoc]; exact HO9.out⟩, HB9⟩
              · have hd1 : decide (((lo + j : Nat) : Int) < (bn : Int) - 1) = false := decide_eq_false (by omega)
                have hd1' : decide ((lo : Int) + (j : Int) < (bn : Int) - 1) = false := decide_eq_false (by omega)
                have HLB := Aside0.mk (show byte.C (Wj.alloc (.cells #[.int .u8 231] 5)) (some ⟨Wj.heap.size, 0, none⟩) 1 [231] from C_lit rfl (by exact ⟨rfl, trivial⟩) rfl rfl (by simp))
                obtain ⟨pr, hpr⟩ : ∃ pr, cpre i many q pc bn = pr := ⟨_, rfl⟩
                have HPQ := Aside0.mk (show (p ++ List.replicate j (0 : UInt8)) ++ [231] = pr by
                  have hk2 : bn - 27 - 16 * pc.length = j := by rw [HCN.out]; have := HLO.out; omega
                  rw [← hpr]
                  unfold cpre
                  rw [hk2, ← HP.out, HHD.out, HCN.out]
                  simp)
                have HPRE := Aside0.mk hpr
                have HPR := Aside0.mk (show pr.length = bn by rw [← hpr]; exact cpre_len _ _ _ _ _ (by rw [HCN.out]; have := HLO.out; omega))
                clear hC7 hpr
                go_wp2_with (at_builtin; (refine app_row2 (w0 := Wr) Wr.heap.size (.tmp 148) (.tmp 149) rfl rfl _ (p ++ List.replicate j 0) [231] _ _ _ rfl rfl (HO2.out.below (alloc_below _ _)) HLB.out (below_alloc HB2'.out _) (below_alloc HB2'.out _).size HPJ.out bn (by rw [List.length_append, List.length_replicate, HPL.out]; omega) (by omega) ?_); intro g7 k7 w2 hO9 hB9 hg7 hk7; (rw [HPQ.out] at hO9; have HO9 := Aside0.mk hO9; have HB9 := Aside0.mk hB9; have HG7 := Aside0.mk hg7; have HK7 := Aside0.mk hk7; clear hO9 hB9 hg7 hk7))
                clear hd1 hd1' c0 c1 c2 c3 s0 s1
                go_wp2_with fail
                refine (Crc.ref_sum_calls _ bn k7 pr _ (Kd.C_below (own_C HO9.out) (alloc_below _ _))).mono ?_
                rintro e w4' ⟨rfl, hww⟩
                rw [← hww]
                clear hww w4'
                obtain ⟨sm, hsm⟩ : ∃ sm, Crc.sum (Crc.nat pr) = sm := ⟨_, rfl⟩
                have hsml : (sm : Int) < 4294967296 := by
                  have : Crc.sum (Crc.nat pr) < 4294967296 := sum_lt _
                  omega
                rw [hsm]
                have HSM := Aside0.mk hsm
                have hwr : IntKind.u64.wrap (sm : Int) = (sm : Int) := wrap_u64_in (by omega) (by omega)
                clear hsm
                go_wp2_with fail
                refine (rpack_lits Wr w2 [4] [sm] _ _ _ rfl _ _ _ _ rfl (by simp) rfl rfl rfl (by decide) rfl ?hv (by decide) (by simp) HB9.out).mono ?_
                case hv =>
                  intro y hy
                  rw [List.mem_singleton.1 hy]
                  omega
                rintro e w5 ⟨v5, rfl, hO5, hb5, hb25⟩
                obtain ⟨bs, hbs⟩ : ∃ bs, pack [4] [sm] = bs := ⟨_, rfl⟩
                rw [hbs] at hO5
                have HBS := Aside0.mk (show bs = be 4 sm by rw [← hbs]; simp [pack, wd])
                have HBL := Aside0.mk (show bs.length = 4 by rw [HBS.out, be_len])
                obtain ⟨ga, ka, rfl, hga, hga2, hka, -⟩ := own_form hO5 (by rw [HBL.out]; omega)
                rw [HBL.out] at hO5 hka ⊢
                have HO5 := Aside0.mk hO5
                have HB5 := Aside0.mk hb5
                have HOP := Aside0.mk (HO9.out.below hb25)
                have HGA := Aside0.mk (show g7 < w2.heap.size ∧ w2.heap.size ≤ ga from ⟨Kd.R_lt HO9.out g7 rfl, hga⟩)
                clear hO5 hb5 hb25 hbs hga hga2 hwr
                go_wp2
                go_loopg [19] 4 (fun g1 v19 wr => ∃ k : Nat, v19 = .int .i64 (k : Int) ∧ k ≤ 4 ∧ Aside0 (g1 + k = 4) ∧ Aside0 (Base.Own wr Wr.heap.size (.slice (some ⟨g7, 0, none⟩) bn k7) (pr.take 4 ++ (bs.take k ++ pr.drop (4 + k)))) ∧ Aside0 (Base.Own wr w2.heap.size (.slice (some ⟨ga, 0, none⟩) 4 ka) bs) ∧ Aside0 (Below Wr.heap.size Wr wr))
                case atStart => exact ⟨0, rfl, by omega, ⟨rfl⟩, ⟨by simpa using HOP.out⟩, HO5, HB5⟩
                case round =>
                  obtain ⟨k, rfl, hk, HK5, HO6, HO7, HB6⟩ := hrel
                  obtain ⟨Ws, rfl⟩ : ∃ Ws : World, Ws = wr := ⟨_, rfl⟩
                  by_cases hk4 : k < 4
                  · have hd1 : decide ((k : Int) < 4) = true := decide_eq_true (by omega)
                    have hd1' : decide (k < 4) = true := decide_eq_true hk4
                    obtain ⟨z', hz'⟩ : ∃ z, bs.getD k 0 = z := ⟨_, rfl⟩
                    have f0 : Ws.cell? ⟨ga, k, none⟩ = some (.int .u8 (z'.toNat : Int)) := by
                      obtain ⟨ad, hA, hcl⟩ := byte_at (own_C HO7.out) k hk4
                      injection hA with hA
                      subst hA
                      rw [add_plain, hz'] at hcl
                      exact hcl
                    obtain ⟨g', n', c', he, -, -, e0, z0, hO8⟩ := HO6.out.store (4 + k) (by have := HPR.out; have := HBL.out; simp only [List.length_append, List.length_take, List.length_drop]; omega) z'
                    simp only [Value.slice.injEq, Option.some.injEq, Addr.mk.injEq, and_true] at he
                    obtain ⟨rfl, -, -⟩ := he
                    have HO8 := Aside0.mk hO8
                    have HO78 := Aside0.mk (show Base.Own (Ws.setCell ⟨g7, 4 + k, none⟩ (.int .u8 (z'.toNat : Int))) w2.heap.size (.slice (some ⟨ga, 0, none⟩) 4 ka) bs from Kd.R_grown1 HO7.out rfl (World.grownBy_set1 Ws ⟨g7, 4 + k, none⟩ _) (by simp [Value.ownBlock]; have := HGA.out; omega))
                    have HST := Aside0.mk (put_step pr bs k z' hk4 HBL.out (by rw [HPR.out]; omega) hz')
                    have i1 : (0 : Int) ≤ 4 + (k : Int) := by omega
                    have i2 : 4 + (k : Int) < (bn : Int) := by omega
                    clear hz' hO8
                    go_wp2
                    go_roundg (4 - (k + 1))
                    case measure => have := HK5.out; omega
                    case rel => exact ⟨k + 1, by congr 1, by omega, ⟨by have := HK5.out; omega⟩, ⟨by rw [← HST.out]; exact HO8.out⟩, HO78, ⟨HB6.out.setCell (show Wr.heap.size ≤ g7 from HG7.out) _⟩⟩
                  · obtain rfl : k = 4 := by omega
                    have hd1 : decide (((4 : Nat) : Int) < 4) = false := decide_eq_false (by omega)
                    have HFIN := Aside0.mk (show Base.Own Ws Wr.heap.size (.slice (some ⟨g7, 0, none⟩) bn k7) (cblk i many q pc bn) by
                      have h9 := HO6.out
                      rw [List.take_of_length_le (l := bs) (by rw [HBL.out]; omega), HBS.out] at h9
                      unfold cblk put4
                      rw [HPRE.out, HSM.out]
                      exact h9)
                    have HNs := Aside0.mk (Kd.N_below HN.out HB6.out)
                    have HNl := Aside0.mk (show ((blks q l bn).take i).length ≤ 100000 by rw [List.length_take, blks_len, HL.out, HMANY.out]; omega)
                    clear hk hk4
                    go_wp2_with (at_builtin; (refine Dv.app_blk W.heap.size _ (fun k => some k = (Value.slice (some ⟨g7, 0, none⟩) bn k7).ownBlock) (.tmp 169) (.tmp 171) rfl rfl _ ((blks q l bn).take i) (cblk i many q pc bn) _ bn k7 (Dv.own_FK HFIN.out) (fun k hk e => (by have h1 := Kd.N_lt HN.out k e.symm; have h2 := Kd.R_base HFIN.out k hk.symm; omega)) rfl (by simp [Act.eval]) HNs.out (Nat.le_trans HBr.out.size HB6.out.size) HNl.out ?_); intro v9 w9 hN9 hg9)
                    have HN9 := Aside0.mk hN9
                    have HG9 := Aside0.mk hg9
                    clear hN9 hg9
                    go_wp2
                    have hba : Below W.heap.size W Ws := below_go HBr.out HB6.out
                    have hb9 : Below W.heap.size W w9 := ⟨HG9.out.os.trans hba.os, HG9.out.tape.trans hba.tape, HG9.out.output.trans hba.output, Nat.le_trans hba.size HG9.out.size, fun k hk => (HG9.out.block k (Nat.lt_of_lt_of_le hk hba.size) (fun e => by have := Kd.N_base HN.out k e.symm; omega)).trans (hba.block k hk)⟩
                    have hN10 : Kd.N Dv.bytesK 39 w9 W.heap.size (fun k => W.heap.size ≤ k ∧ k < w9.heap.size) v9 ((blks q l bn).take (i + 1)) := by
                      rw [blks_snoc (by rw [HL.out, HMANY.out]; exact hit2), HL.out, HMANY.out, HRM.out, HFR.out, HPC.out]
                      refine Kd.N_mono (Kd.N_bound HN9.out) (fun k hk => ⟨?_, hk.2⟩)
                      rcases hk.1 with h1 | h1 | h1
                      · exact h1.1
                      · exact Nat.le_trans HBr.out.size (Kd.R_base HFIN.out k h1.symm)
                      · exact Nat.le_trans HBr.out.size (Nat.le_trans HB6.out.size h1)
                    have HN10 := Aside0.mk hN10
                    have HB10 := Aside0.mk hb9
                    clear hN10 hb9 hba
                    go_roundg (many - (i + 1))
                    case measure => have := HK2.out; omega
                    case rel => exact ⟨i + 1, by congr 1, by omega, ⟨by have := HK2.out; omega⟩, HN10, HB10⟩
end Go.Proofs.Ytkmeipblgdahoaa.Ck

/- ckpt.places: what one block says; it panics, if that can't be read. -/
namespace Go.Proofs.Ytkmeipblgdahoaa.Ck
open Go.RowKit Go.Proofs.YtkmeipblgdahoaaW.PrintWords Go.Proofs.YtkmeipblgdahoaaW.PrintMore Go.Proofs.Ytkmeipblgdahoaa.Base Go.Proofs.Ytkmeipblgdahoaa.Rc
set_option maxRecDepth 100000
set_option linter.unusedVariables false
set_option linter.unusedSimpArgs false
theorem must_yes (w : World) : Calls Try.prog 45 #[.bool true] w fun e w' => e = .returned (.tuple #[]) ∧ w = w' := by
  go_enter Try.func45, Try.ntmps45
  go_wp2
  go_end0
  exact ⟨rfl, rfl⟩
theorem must_no (w : World) : Calls Try.prog 45 #[.bool false] w fun e w' => (∃ u pv, e = .panicked [{ v := .iface u pv, recovered := false }]) ∧ w = w' := by
  go_enter Try.func45, Try.ntmps45
  go_wp2
  exact ⟨rfl, ⟨_, _, rfl⟩, rfl⟩
theorem take_headC (b : List UInt8) (h : 26 ≤ b.length) : take b [4, 4, 4, 4, 8, 2] = some ([un (b.take 4), un ((b.drop 4).take 4), un ((b.drop 8).take 4), un ((b.drop 12).take 4), seqC b, ctC b], b.drop 26) := by
  have w4 : wd 4 = 4 := rfl
  have w8 : wd 8 = 8 := rfl
  have w2 : wd 2 = 2 := rfl
  simp only [take, w4, w8, w2, List.length_drop, List.drop_drop]
  rw [if_neg (by omega), if_neg (by omega), if_neg (by omega), if_neg (by omega), if_neg (by omega), if_neg (by omega)]
  rfl
theorem take_plc (r : List UInt8) (h : 16 ≤ r.length) : take r [4, 8, 2, 2] = some ([un (r.take 4), un ((r.drop 4).take 8), un ((r.drop 12).take 2), un ((r.drop 14).take 2)], r.drop 16) := by
  have w4 : wd 4 = 4 := rfl
  have w8 : wd 8 = 8 := rfl
  have w2 : wd 2 = 2 := rfl
  simp only [take, w4, w8, w2, List.length_drop, List.drop_drop]
  rw [if_neg (by omega), if_neg (by omega), if_neg (by omega), if_neg (by omega)]
  rfl
theorem un2_lt (l : List UInt8) : un (l.take 2) < 65536 := by
  have h : un (l.take 2) < 256 ^ 2 := Nat.lt_of_lt_of_le (un_lt _) (Nat.pow_le_pow_right (by omega) (by rw [List.length_take]; omega))
  exact h
theorem un4_lt (l : List UInt8) : un (l.take 4) < 4294967296 := by
  have h : un (l.take 4) < 256 ^ 4 := Nat.lt_of_lt_of_le (un_lt _) (Nat.pow_le_pow_right (by omega) (by rw [List.length_take]; omega))
  exact h
theorem un8_lt (l : List UInt8) : un (l.take 8) < 18446744073709551616 := by
  have h : un (l.take 8) < 256 ^ 8 := Nat.lt_of_lt_of_le (un_lt _) (Nat.pow_le_pow_right (by omega) (by rw [List.length_take]; omega))
  exact h
/-- A row of places of the call's own. -/
def OwnP (w : World) (base : Nat) (v : Value) (xs : List Plc) : Prop := plK.R 88 w base anyB v xs
theorem info_plcs : (Try.prog.info? 88).map (fun i => (i.zero, i.size, i.bytes)) = some (some (.agg #[.int .u32 0, .int .u64 0, .int .i64 0, .int .i64 0]), 4, 32) := by kernel_rfl
theorem plK_M {w : World} {base : Nat} {ok : Nat → Prop} {x : Plc} (h : PlcOk x) (h3 : I64 x.2.2.1) (h4 : I64 x.2.2.2) : plK.M w base ok x (plV x).toList := plK_mk (w := w) h h3 h4
section
variable {ops : Array Oper} {o : Oper} {a : Act} {Q : Exit → Act → World → Prop} {Kc : Act → World → Prop}
/-- append(v, x) in a region that draws: a place. -/
theorem app_plc_step {W : World} (base : Nat) (s x : Operand) (hw : Region.wanted o (yielded ops a.tmps) = true) (ho : o.op = .call { callee := .builtin .append, args := #[s, x], argTypes := #[25, 25] })
    (v : Value) (xs : List Plc) (p : Plc) (hp : PlcOk p) (h3 : I64 p.2.2.1) (h4 : I64 p.2.2.2) (hs : a.eval s = v) (hx : a.eval x = .slice (some ⟨W.heap.size, 0, none⟩) 1 1)
    (HO : OwnP W base v xs) (hbase : base ≤ W.heap.size) (hl : xs.length ≤ 100000)
    (h : ∀ v1 w1, OwnP w1 base v1 (xs ++ [p]) → W.grownBy w1 v.ownBlock → Kc (a.put o.dst v1) w1) :
    if Region.wanted o (yielded ops a.tmps) = true then Oper.wp Try.prog o a (W.alloc (.cells (plV p) 88)) Kc Q else Kc (a.put o.dst undef) (W.alloc (.cells (plV p) 88)) :=
  Kd.R_append_step plK (w0 := W) base hw s x 25 88 _ 32 ho Try.underlying25 info_plcs (by decide) (by decide) (by decide) v xs p (plV p).toList anyB (fun _ => False) hs hx (plK_M hp h3 h4) (fun _ h => h.elim) (fun _ _ => trivial) HO (Below.refl _ _) hbase (by omega) (fun v1 w1 h1 _ h3 _ => h v1 w1 h1 h3)
end
theorem grown_cell {w w1 : World} {row : Option Nat} {p : Addr} {u : Value} (hg : w.grownBy w1 row) (hne : some p.block ≠ row) (h : w.cell? p = some u) : w1.cell? p = some u :=
  (World.cell?_of_block (hg.block p.block (World.block_lt_of_cell? w p h) hne)).trans h
def PlcsP (w : World) (b : List UInt8) (e : Ending) (w' : World) : Prop :=
  Below w.heap.size w w' ∧ ((∃ q l v, places b = some (q, l) ∧ e = .returned (.tuple #[.int .u64 (q : Int), v]) ∧ OwnP w' w.heap.size v l) ∨ (places b = none ∧ ∃ u pv, e = .panicked [{ v := .iface u pv, recovered := false }]))
theorem plcs_no {w w' : World} {b : List UInt8} (hb : Below w.heap.size w w') (hn : places b = none) (u : TypeId) (pv : Value) : PlcsP w b (.panicked [{ v := .iface u pv, recovered := false }]) w' := ⟨hb, .inr ⟨hn, u, pv, rfl⟩⟩
set_option maxHeartbeats 4000000 in
theorem places_calls (A : Option Addr) (n c : Nat) (b : List UInt8) (w : World) (h : byte.C w A n b) (hnc : n ≤ c) (hn : n ≤ 100000) :
    Calls Try.prog 44 #[.slice A n c] w (PlcsP w b) := by
  obtain ⟨hl, hm⟩ := C_len h
  have HL := Aside0.mk hl
  have HC := Aside0.mk h
  clear h hl
  go_enter Try.func44, Try.ntmps44
  go_wp2_with fail
  refine (take_callsU A n c b _ 6 6 [4, 4, 4, 4, 8, 2] _ (Kd.C_below HC.out (alloc_below _ _)) hnc (by omega) (wid_lit w [4, 4, 4, 4, 8, 2] _ rfl (by decide) (by decide)) (by omega)).mono ?_
  by_cases h26 : n < 26
  · rw [take_none (by rw [HL.out]; exact h26)]
    rintro e w3 ⟨hb3, rfl⟩
    have HB3 := Aside0.mk (below_go (alloc_below w _) hb3)
    have HNO := Aside0.mk (show places b = none by unfold places; rw [if_pos (.inr (by rw [HL.out]; exact h26))])
    clear hb3 h26
    go_wp2_with fail
    refine (must_no _).mono ?_
    rintro e w2 ⟨⟨u, pv, rfl⟩, rfl⟩
    exact ⟨rfl, plcs_no HB3.out HNO.out u pv⟩
  rw [take_headC b (by rw [HL.out]; omega)]
  rintro e w3 ⟨hb3, vl, vr, rfl, hU, hO⟩
  have HB3 := Aside0.mk (below_go (alloc_below w _) hb3)
  obtain ⟨gl, cl, rfl, hgl, hglt, hcell⟩ := ownU_cells hU (by simp)
  have l4 := hcell 4 (by simp)
  have l5 := hcell 5 (by simp)
  simp only [List.getD_cons_zero, List.getD_cons_succ, List.length_cons, List.length_nil] at l4 l5 ⊢
  obtain ⟨sq, hsq⟩ : ∃ x, seqC b = x := ⟨_, rfl⟩
  obtain ⟨ct, hct⟩ : ∃ x, ctC b = x := ⟨_, rfl⟩
  rw [hsq] at l4
  rw [hct] at l5
  have hct16 : ct < 65536 := by rw [← hct]; exact un2_lt _
  have HSQ := Aside0.mk hsq
  have HCT := Aside0.mk hct
  have HO3 := Aside0.mk (show Base.Own w3 w.heap.size vr (b.drop 26) from Kd.R_lower hO (alloc_below w _).size)
  have HL4 := Aside0.mk l4
  clear hb3 hU hO hgl hglt hcell hsq hct
  go_wp2_with fail
  refine (must_yes _).mono ?_
  rintro e w4 ⟨rfl, rfl⟩
  go_wp2
  clear l4 l5
  go_loopg [5, 7, 23] ct (fun g1 v5 v7 v23 wr => ∃ i : Nat, v23 = .int .u64 (i : Int) ∧ i ≤ ct ∧ Aside0 (g1 + i = ct) ∧ Aside0 (26 + 16 * i ≤ n) ∧ Aside0 (Base.Own wr w.heap.size v5 (b.drop (26 + 16 * i))) ∧ Aside0 (OwnP wr w3.heap.size v7 (plsOf i (b.drop 26))) ∧ Aside0 (Below w.heap.size w wr) ∧ Aside0 (Below w3.heap.size w3 wr))
  case atStart => exact ⟨0, rfl, Nat.zero_le _, ⟨rfl⟩, ⟨by omega⟩, HO3, ⟨Kd.R_nil _ _ _ _ _⟩, HB3, ⟨Below.refl _ _⟩⟩
  case round =>
    obtain ⟨i, rfl, hi, HK, HI, HR, HP, HB, HB0⟩ := hrel
    by_cases hlt : i < ct
    · obtain ⟨Ao, co, rfl⟩ := Kd.R_slice HP.out
      obtain ⟨no, hno⟩ : ∃ no, (plsOf i (b.drop 26)).length = no := ⟨_, rfl⟩
      rw [hno] at HP ⊢
      have HNO0 := Aside0.mk hno
      clear hno
      have hd0 : decide ((i : Int) < (ct : Int)) = true := decide_eq_true (by omega)
      have hd0' : decide (i < ct) = true := decide_eq_true hlt
      obtain ⟨rr, hrr⟩ : ∃ rr, b.drop (26 + 16 * i) = rr := ⟨_, rfl⟩
      rw [hrr] at HR
      have HRR := Aside0.mk hrr
      obtain ⟨nr, hnr⟩ : ∃ nr, rr.length = nr := ⟨_, rfl⟩
      have hnr2 : nr = n - (26 + 16 * i) := by rw [← hnr, ← hrr, List.length_drop, HL.out]
      obtain ⟨Ar, nr', cr, rfl, hcr, hCr⟩ := HR.out.reads
      obtain rfl : nr' = nr := by rw [← hnr]; exact (C_len hCr).1.symm
      have HCR := Aside0.mk hCr
      have HNR := Aside0.mk hnr
      have HN2 := Aside0.mk hnr2
      clear hrr hCr hnr hnr2
      go_wp2_with fail
      refine (take_callsU Ar nr' cr rr _ 4 4 [4, 8, 2, 2] _ (Kd.C_below HCR.out (alloc_below _ _)) hcr (by have := HN2.out; omega) (wid_lit wr [4, 8, 2, 2] _ rfl (by decide) (by decide)) (by omega)).mono ?_
      by_cases h16 : nr' < 16
      · rw [take_none (by rw [HNR.out]; exact h16)]
        rintro e w5 ⟨hb5, rfl⟩
        have HB5 := Aside0.mk (below_go HB.out (below_go (alloc_below _ _) hb5))
        have HNO := Aside0.mk (show places b = none by
          have h1 := HN2.out
          have h2 := HI.out
          unfold places
          rw [if_pos (.inl (by rw [HL.out, HCT.out]; omega))])
        clear hb5 h16
        go_wp2_with fail
        refine (must_no _).mono ?_
        rintro e w6 ⟨⟨u, pv, rfl⟩, rfl⟩
        exact ⟨rfl, plcs_no HB5.out HNO.out u pv⟩
      rw [take_plc rr (by rw [HNR.out]; omega)]
      rintro e w5 ⟨hb5, vl5, vr5, rfl, hU5, hO5⟩
      have hb5w := below_go (alloc_below wr _) hb5
      have HB5 := Aside0.mk (below_go HB.out hb5w)
      have HB05 := Aside0.mk (below_go HB0.out hb5w)
      have HP5 := Aside0.mk (show OwnP w5 w3.heap.size (.slice Ao no co) (plsOf i (b.drop 26)) from Kd.R_below HP.out hb5w)
      have HO5 := Aside0.mk (show Base.Own w5 w.heap.size vr5 (rr.drop 16) from Kd.R_lower hO5 (below_alloc HB.out _).size)
      obtain ⟨gv, cv, rfl, hgv, hgvt, hcell⟩ := ownU_cells hU5 (by simp)
      have l0 := hcell 0 (by simp)
      have l1 := hcell 1 (by simp)
      have l2 := hcell 2 (by simp)
      have l3 := hcell 3 (by simp)
      simp only [List.getD_cons_zero, List.getD_cons_succ, List.length_cons, List.length_nil] at l0 l1 l2 l3 ⊢
      obtain ⟨x1, hx1⟩ : ∃ x, un (rr.take 4) = x := ⟨_, rfl⟩
      obtain ⟨x2, hx2⟩ : ∃ x, un ((rr.drop 4).take 8) = x := ⟨_, rfl⟩
      obtain ⟨x3, hx3⟩ : ∃ x, un ((rr.drop 12).take 2) = x := ⟨_, rfl⟩
      obtain ⟨x4, hx4⟩ : ∃ x, un ((rr.drop 14).take 2) = x := ⟨_, rfl⟩
      rw [hx1] at l0
      rw [hx2] at l1
      rw [hx3] at l2
      rw [hx4] at l3
      have b1 : x1 < 4294967296 := by rw [← hx1]; exact un4_lt _
      have b2 : x2 < 18446744073709551616 := by rw [← hx2]; exact un8_lt _
      have b3 : x3 < 65536 := by rw [← hx3]; exact un2_lt _
      have b4 : x4 < 65536 := by rw [← hx4]; exact un2_lt _
      have HPL := Aside0.mk (show plAt rr = (x1, x2, (x3 : Int), (x4 : Int)) by unfold plAt; rw [hx1, hx2, hx3, hx4])
      have hw1 : IntKind.u32.wrap (x1 : Int) = (x1 : Int) := wrap_u32_in (by omega) (by omega)
      have hw3 : IntKind.i64.wrap (x3 : Int) = (x3 : Int) := IntWalk.i64_in _ (by omega)
      have hw4 : IntKind.i64.wrap (x4 : Int) = (x4 : Int) := IntWalk.i64_in _ (by omega)
      have HNE := Aside0.mk (show some gv ≠ (Value.slice Ao no co).ownBlock by
        obtain ⟨cells, hcs⟩ := Kd.R_typed hU5 gv rfl
        exact Kd.R_ne HP5.out hcs (by decide))
      have H16 := Aside0.mk h16
      clear hb5 hb5w hU5 hO5 hcell hgv hx1 hx2 hx3 hx4 h16 hgvt
      go_wp2_with fail
      refine (must_yes _).mono ?_
      rintro e w6 ⟨rfl, rfl⟩
      go_wp2
      have HPD := Aside0.mk (show OwnP w5.drew w3.heap.size (.slice Ao no co) (plsOf i (b.drop 26)) from Kd.R_below HP5.out (below_drew (Below.refl _ _)))
      have HPN := Aside0.mk (show (plsOf i (b.drop 26)).length ≤ 100000 by rw [plsOf_len]; have := HI.out; omega)
      have HSZ := Aside0.mk (show w3.heap.size ≤ w5.drew.heap.size from HB05.out.size)
      go_region_held3 (fun w' => w'.cell? ⟨gv, 0, none⟩ = some (.int .u64 (x1 : Int)) ∧ w'.cell? ⟨gv, 1, none⟩ = some (.int .u64 (x2 : Int)) ∧ w'.cell? ⟨gv, 2, none⟩ = some (.int .u64 (x3 : Int)) ∧ w'.cell? ⟨gv, 3, none⟩ = some (.int .u64 (x4 : Int)))
        (first | exact ⟨l0, l1, l2, l3⟩ | exact ⟨pw_cell_below (alloc_below _ _) l0, pw_cell_below (alloc_below _ _) l1, pw_cell_below (alloc_below _ _) l2, pw_cell_below (alloc_below _ _) l3⟩ | exact ⟨grown_cell hg9 HNE.out l0, grown_cell hg9 HNE.out l1, grown_cell hg9 HNE.out l2, grown_cell hg9 HNE.out l3⟩)
        (first | (refine app_plc_step w3.heap.size (.tmp 34) (.tmp 52) (by rfl) rfl (.slice Ao no co) (plsOf i (b.drop 26)) (x1, x2, (x3 : Int), (x4 : Int)) ⟨b1, b2⟩ (by unfold I64; dsimp only; omega) (by unfold I64; dsimp only; omega) rfl (by simp [Act.eval]) HPD.out HSZ.out HPN.out ?_; intro v9 w9 hP9 hg9))
      have HB9 := Aside0.mk (show Below w3.heap.size w3 w9 from (below_drew HB05.out).grown hg9 HB05.out.size (fun k hk => Kd.R_base HPD.out k hk))
      have HO9 := Aside0.mk (show Base.Own w9 w.heap.size vr5 (rr.drop 16) from Kd.R_over (Kd.R_below HO5.out (below_drew (Below.refl _ _))) HPD.out (by intro q hq; rw [List.mem_singleton.1 hq]; decide) hg9)
      have HP9 := Aside0.mk hP9
      clear hP9 hg9 l0 l1 l2 l3 hw1 hw3 hw4
      go_wp2
      go_roundg (gk - 1)
      case measure => have := HK.out; omega
      case rel =>
        refine ⟨i + 1, by congr 1, by omega, ⟨by have := HK.out; omega⟩, ⟨?_⟩, ⟨?_⟩, ⟨?_⟩, ⟨below_go HB3.out HB9.out⟩, HB9⟩
        · have h1 := H16.out
          have h2 := HN2.out
          omega
        · rw [show 26 + 16 * (i + 1) = 26 + 16 * i + 16 from by omega, ← List.drop_drop, HRR.out]
          exact HO9.out
        · rw [plsOf_snoc, List.drop_drop, HRR.out, HPL.out]
          exact HP9.out
    · obtain rfl : i = ct := by omega
      have hd0 : decide ((i : Int) < (i : Int)) = false := decide_eq_false (by omega)
      have l4 := pw_cell_below HB0.out HL4.out
      have HE := Aside0.mk (show places b = some (sq, plsOf i (b.drop 26)) by
        have h1 := HI.out
        have h2 := HL.out
        unfold places
        rw [if_neg (by rw [HL.out, HCT.out]; omega), HSQ.out, HCT.out])
      obtain ⟨Ao, co, rfl⟩ := Kd.R_slice HP.out
      go_wp2
      go_ret2
      exact ⟨HB.out, .inl ⟨sq, _, _, HE.out, rfl, Kd.R_lower HP.out HB3.out.size⟩⟩
end Go.Proofs.Ytkmeipblgdahoaa.Ck

/- ckpt.Decode: the state that blocks are; bytes.Equal, slices.EqualFunc. -/
namespace Go.Proofs.Ytkmeipblgdahoaa.Ck
open Go.RowKit Go.Proofs.YtkmeipblgdahoaaW.PrintWords Go.Proofs.YtkmeipblgdahoaaW.PrintMore Go.Proofs.Ytkmeipblgdahoaa.Base Go.Proofs.Ytkmeipblgdahoaa.Rc Go.Proofs.Ytkmeipblgdahoaa.Shp
set_option maxRecDepth 100000
set_option linter.unusedVariables false
set_option linter.unusedSimpArgs false
theorem equal_calls (A B : Option Addr) (n k c d : Nat) (xs ys : List UInt8) (w : World) (h : byte.C w A n xs) (h2 : byte.C w B k ys) :
    Calls Try.prog 47 #[.slice A n c, .slice B k d] w fun e w' => e = .returned (.bool (decide (xs = ys))) ∧ w = w' := by
  have e1 := Dv.conv_bytes w A n c xs h
  have e2 := Dv.conv_bytes w B k d ys h2
  clear h h2
  go_enter Try.func47, Try.ntmps47
  go_wp2
  go_ret
  refine ⟨?_, rfl⟩
  show Ending.returned (.bool (xs == ys)) = _
  congr 2
  rw [Bool.eq_iff_iff, beq_iff_eq, decide_eq_true_eq]
set_option maxHeartbeats 1000000 in
theorem equals_calls (A B : Option Addr) (n m c d : Nat) (l1 l2 : List (List UInt8)) (w : World) (h : Dv.bytesK.C w A n l1) (g : Dv.bytesK.C w B m l2) :
    Calls Try.prog 46 #[.slice A n c, .slice B m d, .func (.func 47) #[] #[]] w fun e w' => e = .returned (.bool (decide (l1 = l2))) ∧ w = w' := by
  obtain ⟨hl, hm⟩ := C_len h
  obtain ⟨gl, gm⟩ := C_len g
  have HL := Aside0.mk hl
  have GL := Aside0.mk gl
  have HC := Aside0.mk h
  have GC := Aside0.mk g
  clear h g hl gl
  by_cases hn : n = m
  case neg =>
    have hnb : ((n : Int) != (m : Int)) = true := by rw [bne_iff_ne]; omega
    have HE := Aside0.mk (show decide (l1 = l2) = false from decide_eq_false (fun hh => hn (by rw [← HL.out, ← GL.out, hh])))
    rw [HE.out]
    clear hn
    go_enter Try.func46, Try.ntmps46
    go_wp2
    go_ret
    exact ⟨rfl, rfl⟩
  subst hn
  have hnb : ((n : Int) != (n : Int)) = false := by rw [bne_eq_false_iff_eq]
  go_enter Try.func46, Try.ntmps46
  go_wp2
  clear hnb
  go_loopg [17] n (fun g1 v17 wr => ∃ i : Nat, v17 = .int .i64 (i : Int) ∧ i ≤ n ∧ Aside0 (g1 + i = n) ∧ Aside0 (∀ j, j < i → l1.getD j [] = l2.getD j []) ∧ w = wr)
  case atStart => exact ⟨0, rfl, by omega, ⟨rfl⟩, ⟨fun j hj => by omega⟩, rfl⟩
  case round =>
    obtain ⟨i, rfl, hi, HK, HS, rfl⟩ := hrel
    by_cases hlt : i < n
    · have hd0 : decide ((i : Int) < (n : Int)) = true := decide_eq_true (by omega)
      have hd0' : decide (i < n) = true := decide_eq_true hlt
      have hi0 : (0 : Int) ≤ (i : Int) := by omega
      have hi1 : (i : Int) < (n : Int) := by omega
      obtain ⟨pa, A0, c0, rfl, e0, hk0, hC0⟩ := bytes_at HC.out i hlt
      obtain ⟨pb, B0, d0, rfl, f0, hg0, hD0⟩ := bytes_at GC.out i hlt
      obtain ⟨x, hx⟩ : ∃ x, l1.getD i [] = x := ⟨_, rfl⟩
      obtain ⟨y, hy⟩ : ∃ y, l2.getD i [] = y := ⟨_, rfl⟩
      rw [hx] at e0 hk0 hC0
      rw [hy] at f0 hg0 hD0
      have HX := Aside0.mk hx
      have HY := Aside0.mk hy
      have HC0 := Aside0.mk hC0
      have HD0 := Aside0.mk hD0
      clear hx hy hC0 hD0
      obtain ⟨bb, hbb⟩ : ∃ bb, decide (x = y) = bb := ⟨_, rfl⟩
      have HBB := Aside0.mk hbb
      clear hbb
      go_wp2_with fail
      refine (equal_calls A0 B0 x.length y.length c0 d0 x y _ HC0.out HD0.out).mono ?_
      rintro e w2 ⟨rfl, rfl⟩
      rw [HBB.out]
      cases bb with
      | true =>
        go_wp2
        go_roundg (gk - 1)
        case measure => have := HK.out; omega
        case rel =>
          refine ⟨i + 1, by congr 1, by omega, ⟨by have := HK.out; omega⟩, ⟨fun j hj => ?_⟩, rfl⟩
          by_cases hji : j < i
          · exact HS.out j hji
          · obtain rfl : j = i := by omega
            rw [HX.out, HY.out]
            exact of_decide_eq_true HBB.out
      | false =>
        have HNE := Aside0.mk (show ¬ l1 = l2 from fun hh => by
          have := of_decide_eq_false HBB.out
          apply this
          rw [← HX.out, ← HY.out, hh])
        go_wp2
        go_ret
        exact ⟨by rw [decide_eq_false HNE.out]; rfl, rfl⟩
    · obtain rfl : i = n := by omega
      have hd0 : decide ((i : Int) < (i : Int)) = false := decide_eq_false (by omega)
      have HEQ := Aside0.mk (show l1 = l2 by
        apply List.ext_getElem (by rw [HL.out, GL.out])
        intro j h1 h2
        have := HS.out j (by rw [HL.out] at h1; exact h1)
        rwa [List.getD_eq_getElem?_getD, List.getD_eq_getElem?_getD, List.getElem?_eq_getElem h1, List.getElem?_eq_getElem h2] at this)
      go_wp2
      go_ret
      exact ⟨by rw [decide_eq_true HEQ.out]; rfl, rfl⟩
/-! Decode. -/
theorem said_app : ∀ (a b : List (List UInt8)) (s : Nat × List Plc), said (a ++ b) s = (said a s).bind fun s' => said b s'
  | [], b, s => rfl
  | x :: a, b, s => by
    show (match places x with | none => none | some (q, sm) => said (a ++ b) (q, s.2 ++ sm)) = (match places x with | none => none | some (q, sm) => said a (q, s.2 ++ sm)).bind fun s' => said b s'
    cases places x with
    | none => rfl
    | some p =>
      obtain ⟨q, sm⟩ := p
      exact said_app a b _
theorem said_none {l : List (List UInt8)} {i : Nat} {x : List UInt8} {s s' : Nat × List Plc} (hi : i < l.length) (hx : l.getD i [] = x) (h : said (l.take i) s = some s') (hp : places x = none) : said l s = none := by
  have e : l = l.take i ++ (x :: l.drop (i + 1)) := by
    rw [← hx, ← drop_getD l i [] hi, List.take_append_drop]
  rw [e, said_app, h]
  show said (x :: l.drop (i + 1)) s' = none
  unfold said
  rw [hp]
theorem said_next {l : List (List UInt8)} {i : Nat} {x : List UInt8} {s s' : Nat × List Plc} {q : Nat} {sm : List Plc} (hi : i < l.length) (hx : l.getD i [] = x) (h : said (l.take i) s = some s') (hp : places x = some (q, sm)) : said (l.take (i + 1)) s = some (q, s'.2 ++ sm) := by
  rw [take_snocD l [] i hi, hx, said_app, h]
  show said [x] s' = _
  unfold said
  rw [hp]
  rfl
theorem places_len {b : List UInt8} {q : Nat} {sm : List Plc} (h : places b = some (q, sm)) : 16 * sm.length ≤ b.length := by
  unfold places at h
  split at h
  · cases h
  · rename_i hh
    injection h with h
    simp only [Prod.mk.injEq] at h
    rw [← h.2, plsOf_len]
    omega
theorem plc_ok {w : World} {A : Option Addr} {n : Nat} {xs : List Plc} (h : plK.C w A n xs) : ∀ x ∈ xs, PlcOk x := by
  intro x hx
  obtain ⟨i, hi, rfl⟩ := List.mem_iff_getElem.1 hx
  obtain ⟨ad, e, ho, -⟩ := pl_at h i (by rw [← h.1]; exact hi) (p := xs[i]) (by rw [List.getD_eq_getElem?_getD, List.getElem?_eq_getElem hi]; rfl)
  exact ho
/-- The deferred closure. -/
theorem dcatch_panicking (gr ge : Nat) (v0 v1 ve : Value) (u : TypeId) (pv : Value) (w : World) (h0 : w.heap[gr]? = some (.cells #[v0, v1] 27 (0, 0))) (h1 : Boxed w ge 30 ve) (hne : gr ≠ ge) :
    CallsD Try.prog 43 #[.pointer (some ⟨gr, 0, none⟩), .pointer (some ⟨ge, 0, none⟩)] (.panicking ({ v := .iface u pv, recovered := false } :: [])) w fun e u' w' =>
      e = .returned (.tuple #[]) ∧ u' = .panicking ({ v := .iface u pv, recovered := true } :: []) ∧ w' = ((w.setCell ⟨gr, 0, none⟩ (.int .u64 0)).setCell ⟨gr, 1, none⟩ (.slice none 0 0)).setCell ⟨ge, 0, none⟩ (.int .u16 141) := by
  have b1 := blk_set h0 0 (.int .u64 0)
  have c0 : w.cell? ⟨gr, 0, none⟩ = some v0 := by simp [World.cell?, h0]
  have z0 : w.frozen? ⟨gr, 0, none⟩ = false := by simp [World.frozen?, h0]
  have c1 : (w.setCell ⟨gr, 0, none⟩ (.int .u64 0)).cell? ⟨gr, 1, none⟩ = some v1 := by simp [World.cell?, b1]
  have z1 : (w.setCell ⟨gr, 0, none⟩ (.int .u64 0)).frozen? ⟨gr, 1, none⟩ = false := by simp [World.frozen?, b1]
  have be : ((w.setCell ⟨gr, 0, none⟩ (.int .u64 0)).setCell ⟨gr, 1, none⟩ (.slice none 0 0)).heap[ge]? = some (.cells #[ve] 30 (0, 0)) :=
    (Below.heap_setCell _ ⟨gr, 1, none⟩ _ ge hne.symm).trans ((Below.heap_setCell _ ⟨gr, 0, none⟩ _ ge hne.symm).trans h1)
  have c2 : ((w.setCell ⟨gr, 0, none⟩ (.int .u64 0)).setCell ⟨gr, 1, none⟩ (.slice none 0 0)).cell? ⟨ge, 0, none⟩ = some ve := by simp [World.cell?, be]
  have z2 : ((w.setCell ⟨gr, 0, none⟩ (.int .u64 0)).setCell ⟨gr, 1, none⟩ (.slice none 0 0)).frozen? ⟨ge, 0, none⟩ = false := by simp [World.frozen?, be]
  refine callsD_of_wpS Try.func43 rfl fun c₀ cs hu => ?_
  apply wpS_seq
  apply wpS_region
  simp [wpOpsS, go_sem, recoverD, hu, Try.ntmps43, Exit.thenS]
  apply wpS_seq
  apply wpS_region
  simp [wpOpsS, go_sem, Exit.thenS]
  refine wpS_cond (t := true) (by simp [Act.eval, Array.replicate]) ?_
  simp only [if_true]
  apply wpS_region
  simp [wpOpsS, go_sem, c0, z0, c1, z1, c2, z2, bodyPostS, results, Try.results43]
theorem dcatch_idle (gr ge : Nat) (w : World) :
    CallsD Try.prog 43 #[.pointer (some ⟨gr, 0, none⟩), .pointer (some ⟨ge, 0, none⟩)] .returning w fun e u' w' => e = .returned (.tuple #[]) ∧ u' = .returning ∧ w' = w := by
  refine callsD_of_wpS Try.func43 rfl fun c₀ cs hu => ?_
  apply wpS_seq
  apply wpS_region
  simp [wpOpsS, go_sem, recoverD, hu, Try.ntmps43, Exit.thenS]
  apply wpS_seq
  apply wpS_region
  simp [wpOpsS, go_sem, Exit.thenS]
  refine wpS_cond (t := false) (by simp [Act.eval, Array.replicate]) ?_
  simp only [Bool.false_eq_true, if_false]
  refine wpS_of_wp (wp_skip ?_)
  cases c₀
  simp_all [bodyPostS, results, Try.results43]
/-- What Decode answers. -/
def DecP (w : World) (r : Option (Nat × List Plc)) (e : Ending) (w' : World) : Prop :=
  Below w.heap.size w w' ∧ ((∃ q ps v, r = some (q, ps) ∧ e = .returned (.tuple #[.agg #[.int .u64 (q : Int), v], .int .u16 0]) ∧ OwnP w' w.heap.size v ps) ∨ (r = none ∧ e = .returned (.tuple #[.agg #[.int .u64 0, .slice none 0 0], .int .u16 141])))
theorem places_q {b : List UInt8} {q : Nat} {sm : List Plc} (h : places b = some (q, sm)) : q < 18446744073709551616 := by
  unfold places at h
  split at h
  · cases h
  · injection h with h
    simp only [Prod.mk.injEq] at h
    rw [← h.1]
    exact un8_lt _
/-- It fails. -/
theorem dec_fail {w W : World} {r : Option (Nat × List Plc)} {g : Nat} {v0 v1 ve : Value} (hb : Below w.heap.size w W) (h0 : W.heap[g + 1]? = some (.cells #[v0, v1] 27 (0, 0))) (h1 : Boxed W (g + 1 + 1) 30 ve) (hg : w.heap.size ≤ g) (hr : r = none) (T : Array Value) (u : TypeId) (pv : Value)
    (h4 : T[4]?.getD undef = .pointer (some ⟨g + 1, 0, none⟩)) (h5 : T[5]?.getD undef = .pointer (some ⟨g + 1 + 1, 0, none⟩)) :
    Leaves Try.prog Try.f17 T (DecP w r) [{ target := .fn (.func 43) #[.pointer (some ⟨g + 1, 0, none⟩), .pointer (some ⟨g + 1 + 1, 0, none⟩)], args := #[] }] (.panicking [{ v := .iface u pv, recovered := false }]) W := by
  subst hr
  refine leaves_cons (f := 43) (args := #[.pointer (some ⟨g + 1, 0, none⟩), .pointer (some ⟨g + 1 + 1, 0, none⟩)]) (by simp) (by simp [go_sem]) ?_
  refine (dcatch_panicking (g + 1) (g + 1 + 1) _ _ _ u pv W h0 h1 (by simp)).mono ?_
  rintro e u' w'' ⟨rfl, rfl, rfl⟩
  have b1 := blk_set h0 0 (.int .u64 0)
  have b2 := blk_set b1 1 (.slice none 0 0)
  have he2 : Boxed ((W.setCell ⟨g + 1, 0, none⟩ (.int .u64 0)).setCell ⟨g + 1, 1, none⟩ (.slice none 0 0)) (g + 1 + 1) 30 ve :=
    (Below.heap_setCell _ ⟨g + 1, 1, none⟩ _ (g + 1 + 1) (by simp)).trans ((Below.heap_setCell _ ⟨g + 1, 0, none⟩ _ (g + 1 + 1) (by simp)).trans h1)
  have hbr : (((W.setCell ⟨g + 1, 0, none⟩ (.int .u64 0)).setCell ⟨g + 1, 1, none⟩ (.slice none 0 0)).setCell ⟨g + 1 + 1, 0, none⟩ (.int .u16 141)).heap[g + 1]? = some (.cells #[.int .u64 0, .slice none 0 0] 27 (0, 0)) := (Below.heap_setCell _ ⟨g + 1 + 1, 0, none⟩ _ (g + 1) (by simp)).trans b2
  have hbe := he2.set (.int .u16 141)
  have hB := ((hb.setCell (p := ⟨g + 1, 0, none⟩) (by show w.heap.size ≤ g + 1; omega) (.int .u64 0)).setCell (p := ⟨g + 1, 1, none⟩) (by show w.heap.size ≤ g + 1; omega) (.slice none 0 0)).setCell (p := ⟨g + 1 + 1, 0, none⟩) (by show w.heap.size ≤ g + 1 + 1; omega) (.int .u16 141)
  clear b1 b2 he2
  generalize ((W.setCell ⟨g + 1, 0, none⟩ (.int .u64 0)).setCell ⟨g + 1, 1, none⟩ (.slice none 0 0)).setCell ⟨g + 1 + 1, 0, none⟩ (.int .u16 141) = W9 at *
  have q0 : W9.cell? ⟨g + 1, 0, none⟩ = some (.int .u64 0) := by simp [World.cell?, hbr]
  have q1 : W9.cell? ⟨g + 1, 1, none⟩ = some (.slice none 0 0) := by simp [World.cell?, hbr]
  have q2 : W9.cell? ⟨g + 1 + 1, 0, none⟩ = some (.int .u16 141) := hbe.cell
  refine ⟨.tuple #[.agg #[.int .u64 0, .slice none 0 0], .int .u16 141], ?_, hB, .inr ⟨rfl, rfl⟩⟩
  simp [results, Try.results17, go_sem, h4, h5, q0, q1, q2]
/-- What holds at a round's head. -/
structure DcR (w W : World) (g : Nat) (z zb b r : Int) (q : Nat) (vo : Value) (ps : List Plc) : Prop where
  bel : Below w.heap.size w W
  shp : W.heap[g]? = some (.cells #[.int .i64 z, .int .i64 zb, .int .i64 b, .int .i64 r] 23 (0, 0))
  st : W.heap[g + 1]? = some (.cells #[.int .u64 (q : Int), vo] 27 (0, 0))
  er : Boxed W (g + 1 + 1) 30 (.int .u16 0)
  row : OwnP W w.heap.size vo ps
section
variable {w W W' : World} {g : Nat} {z zb b r : Int} {q q' : Nat} {vo v1 : Value} {ps ps' : List Plc}
theorem DcR.below (h : DcR w W g z zb b r q vo ps) (hb : Below W.heap.size W W') : DcR w W' g z zb b r q vo ps :=
  ⟨below_go h.bel hb, blk_old hb h.shp, blk_old hb h.st, blk_old hb h.er, Kd.R_below h.row hb⟩
theorem DcR.cells (h : DcR w W g z zb b r q vo ps) : W.cell? ⟨g, 0, none⟩ = some (.int .i64 z) ∧ W.cell? ⟨g, 1, none⟩ = some (.int .i64 zb) ∧ W.cell? ⟨g, 2, none⟩ = some (.int .i64 b) ∧ W.cell? ⟨g, 3, none⟩ = some (.int .i64 r) ∧
    W.cell? ⟨g + 1, 0, none⟩ = some (.int .u64 (q : Int)) ∧ W.cell? ⟨g + 1, 1, none⟩ = some vo ∧ W.frozen? ⟨g + 1, 0, none⟩ = false ∧ W.frozen? ⟨g + 1, 1, none⟩ = false ∧ W.cell? ⟨g + 1 + 1, 0, none⟩ = some (.int .u16 0) ∧ W.frozen? ⟨g + 1 + 1, 0, none⟩ = false := by
  have h1 := h.shp
  have h2 := h.st
  exact ⟨by simp [World.cell?, h1], by simp [World.cell?, h1], by simp [World.cell?, h1], by simp [World.cell?, h1], by simp [World.cell?, h2], by simp [World.cell?, h2], by simp [World.frozen?, h2], by simp [World.frozen?, h2], h.er.cell, h.er.frozen⟩
theorem plE_ne : ∀ q, q ∈ 88 :: plK.E → q ≠ 27 := by intro q hq; rw [List.mem_singleton.1 hq]; decide
/-- The number is laid. -/
theorem DcR.num (h : DcR w W g z zb b r q vo ps) (hg : w.heap.size ≤ g) (q' : Nat) : DcR w (W.setCell ⟨g + 1, 0, none⟩ (.int .u64 (q' : Int))) g z zb b r q' vo ps :=
  ⟨h.bel.setCell (by show w.heap.size ≤ g + 1; omega) _, (Below.heap_setCell _ ⟨g + 1, 0, none⟩ _ g (by simp)).trans h.shp, blk_set h.st 0 _, (Below.heap_setCell _ ⟨g + 1, 0, none⟩ _ (g + 1 + 1) (by simp)).trans h.er, Kd.R_set h.row h.st plE_ne 0 _⟩
theorem plE_ne2 : ∀ q, q ∈ 88 :: plK.E → q ≠ 30 := by intro q hq; rw [List.mem_singleton.1 hq]; decide
theorem DcR.err (h : DcR w W g z zb b r q vo ps) (hg : w.heap.size ≤ g) : DcR w (W.setCell ⟨g + 1 + 1, 0, none⟩ (.int .u16 0)) g z zb b r q vo ps :=
  ⟨h.bel.setCell (by show w.heap.size ≤ g + 1 + 1; omega) _, (Below.heap_setCell _ ⟨g + 1 + 1, 0, none⟩ _ g (by simp; omega)).trans h.shp, (Below.heap_setCell _ ⟨g + 1 + 1, 0, none⟩ _ (g + 1) (by simp)).trans h.st, h.er.set _, Kd.R_set h.row h.er plE_ne2 0 _⟩
theorem DcR.erx (h : DcR w W g z zb b r q vo ps) (hg : w.heap.size ≤ g) (x : Int) : Below w.heap.size w (W.setCell ⟨g + 1 + 1, 0, none⟩ (.int .u16 x)) ∧ (W.setCell ⟨g + 1 + 1, 0, none⟩ (.int .u16 x)).heap[g + 1]? = some (.cells #[.int .u64 (q : Int), vo] 27 (0, 0)) ∧
    Boxed (W.setCell ⟨g + 1 + 1, 0, none⟩ (.int .u16 x)) (g + 1 + 1) 30 (.int .u16 x) :=
  ⟨h.bel.setCell (by show w.heap.size ≤ g + 1 + 1; omega) _, (Below.heap_setCell _ ⟨g + 1 + 1, 0, none⟩ _ (g + 1) (by simp)).trans h.st, h.er.set _⟩
theorem DcR.fin (h : DcR w W g z zb b r q vo ps) (hg : w.heap.size ≤ g) : DcR w (((W.setCell ⟨g + 1, 0, none⟩ (.int .u64 (q : Int))).setCell ⟨g + 1, 1, none⟩ vo).setCell ⟨g + 1 + 1, 0, none⟩ (.int .u16 0)) g z zb b r q vo ps := by
  have h1 := h.num hg q
  have h2 : DcR w ((W.setCell ⟨g + 1, 0, none⟩ (.int .u64 (q : Int))).setCell ⟨g + 1, 1, none⟩ vo) g z zb b r q vo ps :=
    ⟨h1.bel.setCell (by show w.heap.size ≤ g + 1; omega) _, (Below.heap_setCell _ ⟨g + 1, 1, none⟩ _ g (by simp)).trans h1.shp, blk_set h1.st 1 _, (Below.heap_setCell _ ⟨g + 1, 1, none⟩ _ (g + 1 + 1) (by simp)).trans h1.er, Kd.R_set h1.row h1.st plE_ne 1 _⟩
  exact h2.err hg
/-- The places are laid. -/
theorem DcR.pls (h : DcR w W g z zb b r q vo ps) (hg : w.heap.size ≤ g) (hr : OwnP W' w.heap.size v1 ps') (hgr : W.grownBy W' vo.ownBlock) : W'.cell? ⟨g + 1, 1, none⟩ = some vo ∧ W'.frozen? ⟨g + 1, 1, none⟩ = false ∧ DcR w (W'.setCell ⟨g + 1, 1, none⟩ v1) g z zb b r q v1 ps' := by
  have n0 := Kd.R_ne h.row h.shp (by decide)
  have n1 := Kd.R_ne h.row h.st (by decide)
  have n2 := Kd.R_ne h.row (show W.heap[g + 1 + 1]? = _ from h.er) (by decide)
  have b0 : W'.heap[g]? = _ := (hgr.block g (Array.getElem?_eq_some_iff.1 h.shp).1 n0).trans h.shp
  have b1 : W'.heap[g + 1]? = _ := (hgr.block (g + 1) (Array.getElem?_eq_some_iff.1 h.st).1 n1).trans h.st
  have b2 : W'.heap[g + 1 + 1]? = _ := (hgr.block (g + 1 + 1) (Array.getElem?_eq_some_iff.1 h.er).1 n2).trans h.er
  refine ⟨by simp [World.cell?, b1], by simp [World.frozen?, b1], ?_, ?_, ?_, ?_, ?_⟩
  · exact (h.bel.grown hgr h.bel.size (fun k hk => Kd.R_base h.row k hk)).setCell (by show w.heap.size ≤ g + 1; omega) _
  · exact (Below.heap_setCell W' ⟨g + 1, 1, none⟩ v1 g (by simp)).trans b0
  · exact blk_set b1 1 v1
  · exact (Below.heap_setCell W' ⟨g + 1, 1, none⟩ v1 (g + 1 + 1) (by simp)).trans b2
  · exact Kd.R_set hr b1 plE_ne 1 v1
end
section
variable {ops : Array Oper} {rest : List Oper} {o : Oper} {a : Act} {Q : Exit → Act → World → Prop}
/-- append(v, ys...): places. -/
theorem app_plcs {w0 W : World} (base : Nat) (s x : Operand) (hgd : o.guard = none) (ho : o.op = .call { callee := .builtin .append, args := #[s, x], argTypes := #[25, 25] })
    (v : Value) (xs ys : List Plc) (A : Option Addr) (m c : Nat) (hs : a.eval s = v) (hx : a.eval x = .slice A m c)
    (HO : OwnP W base v xs) (HR : plK.C W A m ys) (HB : Below base w0 W) (hbase : base ≤ W.heap.size) (hl : xs.length + m ≤ 100000000)
    (h : ∀ v1 w1, OwnP w1 base v1 (xs ++ ys) → W.grownBy w1 v.ownBlock → wpList Try.prog ops Q rest (a.put o.dst v1) w1) : wpList Try.prog ops Q (o :: rest) a W :=
  Kd.R_append_rows plK (w0 := w0) base hgd s x 25 88 _ 32 ho Try.underlying25 info_plcs (by decide) (by decide) (by decide) v xs ys A m c anyB (fun _ => False) hs hx HO HR (fun x cs hk => hk) (fun _ h => h.elim) (fun _ _ => trivial) HB hbase (by omega)
    (fun v1 w1 h1 _ h3 _ => h v1 w1 h1 h3)
end
set_option maxHeartbeats 4000000 in
theorem decode_calls (z zb b r : Int) (hz : IsI z) (hzb : IsI zb) (hb : IsI b) (hr : IsI r) (A : Option Addr) (n c : Nat) (l : List (List UInt8)) (w : World) (h : Dv.bytesK.C w A n l) (hn : n ≤ 1000) (hlen : ∀ x ∈ l, x.length ≤ 100000) :
    Calls Try.prog 17 #[.agg #[.int .i64 z, .int .i64 zb, .int .i64 b, .int .i64 r], .slice A n c] w (DecP w (decC (decide (Rt z zb b r)) z zb b.toNat l)) := by
  have hmf : ∀ (fn : Fn) (first cap : Array Value) (w : World), (Instr.makeFunc fn first cap).run Try.prog w = .ok (.func fn first cap) w := fun _ _ _ _ => rfl
  obtain ⟨hl, hm⟩ := C_len h
  have HL := Aside0.mk hl
  have HC := Aside0.mk h
  have HLN := Aside0.mk hlen
  have HI := Aside0.mk (And.intro hz (And.intro hzb (And.intro hb hr)))
  have HD0 : Aside0 (DcR w (((w.alloc (.cells #[.int .i64 z, .int .i64 zb, .int .i64 b, .int .i64 r] 23)).alloc (.cells #[.int .u64 0, .slice none 0 0] 27)).alloc (.cells #[.int .u16 0] 30)) w.heap.size z zb b r 0 (.slice none 0 0) []) :=
    ⟨⟨below_alloc (below_alloc (alloc_below _ _) _) _, blk_past (blk_past (blk_here rfl)), blk_past (blk_here (by simp)), blk_here (by simp), Kd.R_nil _ _ _ _ _⟩⟩
  clear h hl hlen hz hzb hb hr
  go_enter_defers Try.func17, Try.ntmps17
  go_wp2
  obtain ⟨g, hg⟩ : ∃ g, w.heap.size = g := ⟨_, rfl⟩
  obtain ⟨W, hW⟩ : ∃ W, (((w.alloc (.cells #[.int .i64 z, .int .i64 zb, .int .i64 b, .int .i64 r] 23)).alloc (.cells #[.int .u64 0, .slice none 0 0] 27)).alloc (.cells #[.int .u16 0] 30)) = W := ⟨_, rfl⟩
  rw [hW] at HD0 ⊢
  have HG := Aside0.mk (Nat.le_of_eq hg)
  rw [hg] at HD0 ⊢
  clear hW hg
  go_loopg [14] n (fun g1 v14 wr => ∃ (i q : Nat) (vo : Value) (ps : List Plc), v14 = .int .i64 (i : Int) ∧ i ≤ n ∧ Aside0 (g1 + i = n) ∧ Aside0 (said (l.take i) (0, []) = some (q, ps)) ∧ Aside0 (16 * ps.length ≤ i * 100000) ∧ Aside0 (q < 18446744073709551616) ∧ Aside0 (DcR w wr g z zb b r q vo ps))
  case atStart => exact ⟨0, 0, _, [], rfl, Nat.zero_le _, ⟨rfl⟩, ⟨rfl⟩, ⟨by simp⟩, ⟨by omega⟩, HD0⟩
  case round =>
    obtain ⟨i, q, vo, ps, rfl, hi, HK, HSD, HPL, HQ, HD⟩ := hrel
    by_cases hlt : i < n
    · have hd0 : decide ((i : Int) < (n : Int)) = true := decide_eq_true (by omega)
      have hd0' : decide (i < n) = true := decide_eq_true hlt
      have hi0 : (0 : Int) ≤ (i : Int) := by omega
      have hi1 : (i : Int) < (n : Int) := by omega
      obtain ⟨pa, A0, c0, rfl, e0, hk0, hC0⟩ := bytes_at (Kd.C_below HC.out HD.out.bel) i hlt
      obtain ⟨x, hx⟩ : ∃ x, l.getD i [] = x := ⟨_, rfl⟩
      rw [hx] at e0 hk0 hC0
      have HX := Aside0.mk hx
      have HC0 := Aside0.mk hC0
      have HK0 := Aside0.mk hk0
      have HXL := Aside0.mk (show x.length ≤ 100000 from HLN.out x (by rw [← hx, List.getD_eq_getElem?_getD, List.getElem?_eq_getElem (by rw [HL.out]; exact hlt)]; exact List.getElem_mem _))
      obtain ⟨nx, hnx⟩ : ∃ nx, x.length = nx := ⟨_, rfl⟩
      rw [hnx] at e0 HC0 HK0 HXL
      have HNX := Aside0.mk hnx
      clear hx hC0 hk0 hnx
      go_wp2_with fail
      refine (places_calls A0 nx c0 x _ HC0.out HK0.out HXL.out).mono ?_
      rintro e w5 ⟨hb5, ⟨q', sm, v', hpl, rfl, hP⟩ | ⟨hno, u, pv, rfl⟩⟩
      case inr =>
        have HD5 := Aside0.mk (HD.out.below hb5)
        have HNone := Aside0.mk (show decC (decide (Rt z zb b r)) z zb b.toNat l = none by
          unfold decC
          rw [said_none (by rw [HL.out]; exact hlt) HX.out HSD.out hno])
        exact dec_fail HD5.out.bel HD5.out.st HD5.out.er HG.out HNone.out _ u pv rfl rfl
      have HD5 := Aside0.mk (HD.out.below hb5)
      have HPLC := Aside0.mk hpl
      obtain ⟨Ap, np, cp, rfl⟩ : ∃ Ap np cp, v' = .slice Ap np cp := by obtain ⟨Ap, cp, hv⟩ := Kd.R_slice hP; exact ⟨Ap, _, cp, hv⟩
      have hpc := (Kd.R_reads' hP)
      have HNP := Aside0.mk hpc.1
      have HPC := Aside0.mk (show plK.C w5 Ap np sm by have := hpc.2.2; rwa [← hpc.1] at this)
      obtain ⟨-, -, -, -, s0, s1, z0, z1, -, -⟩ := HD5.out.cells
      have hpc6 := Kd.R_reads' (Kd.R_set hP HD5.out.st plE_ne 0 (.int .u64 (q' : Int)))
      have HPC6 := Aside0.mk (show plK.C (w5.setCell ⟨g + 1, 0, none⟩ (.int .u64 (q' : Int))) Ap np sm by have := hpc6.2.2; rwa [← hpc6.1] at this)
      clear hpc6
      have HD6 := Aside0.mk (HD5.out.num HG.out q')
      obtain ⟨-, -, -, -, t0, t1, y0, y1, -, -⟩ := HD6.out.cells
      clear hb5 hpl hP hpc e0
      have HQ' := Aside0.mk (show q' < 18446744073709551616 from places_q HPLC.out)
      go_wp2_with (at_builtin; (refine app_plcs (w0 := w) w.heap.size (.tmp 26) (.tmp 27) rfl rfl vo ps sm Ap np cp rfl rfl HD6.out.row HPC6.out HD6.out.bel HD6.out.bel.size (by have h1 := HPL.out; have h2 := places_len HPLC.out; have h3 := HNP.out; have h4 := HXL.out; have h5 := HNX.out; omega) ?_); intro v9 w9 hP9 hg9; (obtain ⟨f1, f2, hD9⟩ := HD6.out.pls HG.out hP9 hg9; have HD9 := Aside0.mk hD9; (obtain ⟨A9, n9, c9, rfl⟩ : ∃ A9 n9 c9, v9 = .slice A9 n9 c9 := by obtain ⟨A9, c9, hv⟩ := Kd.R_slice hP9; exact ⟨A9, _, c9, hv⟩); clear hP9 hg9 hD9))
      go_wp2
      go_roundg (gk - 1)
      case measure => have := HK.out; omega
      case rel =>
        refine ⟨i + 1, q', _, ps ++ sm, by congr 1, by omega, ⟨by have := HK.out; omega⟩, ⟨?_⟩, ⟨?_⟩, HQ', HD9⟩
        · exact said_next (by rw [HL.out]; exact hlt) HX.out HSD.out HPLC.out
        · have h1 := HPL.out
          have h2 := places_len HPLC.out
          have h4 := HXL.out
          have h5 := HNX.out
          rw [List.length_append]
          omega
    · obtain rfl : i = n := by omega
      have hd0 : decide ((i : Int) < (i : Int)) = false := decide_eq_false (by omega)
      have HSA := Aside0.mk (show said l (0, []) = some (q, ps) by have := HSD.out; rwa [List.take_of_length_le (by rw [HL.out]; omega)] at this)
      obtain ⟨c0, c1, c2, c3, s0, s1, -, -, r0, r1⟩ := HD.out.cells
      obtain ⟨Ao, no, co, rfl⟩ : ∃ Ao no co, vo = .slice Ao no co := by obtain ⟨Ap, cp, hv⟩ := Kd.R_slice HD.out.row; exact ⟨Ap, _, cp, hv⟩
      have hpc := Kd.R_reads' HD.out.row
      have HNO := Aside0.mk hpc
      clear hpc
      have HPO := Aside0.mk (show plK.C wr Ao no ps by have := HNO.out.2.2; rwa [← HNO.out.1] at this)
      have hnp : no ≤ 10000000 := by have h1 := HNO.out.1; have h2 := HPL.out; omega
      go_wp2_with fail
      refine (encode_calls z zb b r HI.out.1 HI.out.2.1 HI.out.2.2.1 HI.out.2.2.2 q HQ.out Ao no co ps hnp HNO.out.2.1 _ HPO.out (plc_ok HPO.out)).mono ?_
      rintro e w5 ⟨hb5, ⟨bs, v, hen, rfl, hN⟩ | ⟨er, hen, her, rfl⟩⟩
      · have HD5 := Aside0.mk (HD.out.below hb5)
        have HEN := Aside0.mk hen
        have hgl := (Array.getElem?_eq_some_iff.1 HD.out.er).1
        have HDS := Aside0.mk (show DcR w (w5.setCell ⟨g + 1 + 1, 0, none⟩ (.int .u16 0)) g z zb b r q (.slice Ao no co) ps from HD5.out.err HG.out)
        obtain ⟨Ab, nb, cb, rfl, hcb, hCb⟩ := N_open (Kd.N_far hN (p := ⟨g + 1 + 1, 0, none⟩) (fun k hk e => by have h1 := hk.1; have h2 : k = g + 1 + 1 := e; omega) (.int .u16 0))
        have HCB := Aside0.mk (Dv.T.C_plain hCb)
        have HC5 := Aside0.mk (Kd.C_below HC.out HDS.out.bel)
        obtain ⟨bb, hbb⟩ : ∃ bb, decide (bs = l) = bb := ⟨_, rfl⟩
        have HBB := Aside0.mk hbb
        obtain ⟨-, -, -, -, -, -, -, -, r0, r1⟩ := HD5.out.cells
        clear hb5 hen hN hCb hbb hgl
        go_wp2_with fail
        refine (equals_calls Ab A nb i cb c bs l _ HCB.out HC5.out).mono ?_
        rintro e w6 ⟨rfl, rfl⟩
        rw [HBB.out]
        cases bb with
        | true =>
          obtain ⟨Wx, hWx⟩ : ∃ Wx, w5.setCell ⟨g + 1 + 1, 0, none⟩ (.int .u16 0) = Wx := ⟨_, rfl⟩
          rw [hWx] at HDS ⊢
          clear hWx r0 r1 HCB HC5
          obtain ⟨-, -, -, -, s0, s1, z0, z1, r0, r1⟩ := HDS.out.cells
          have HRES := Aside0.mk (show decC (decide (Rt z zb b r)) z zb b.toNat l = some (q, ps) by
            have h1 := of_decide_eq_true HBB.out
            unfold decC
            rw [HSA.out]
            show (match encC (decide (Rt z zb b r)) z zb b.toNat q ps with | .ok l' => if l' = l then some (q, ps) else none | .error _ => none) = _
            rw [HEN.out]
            exact if_pos h1)
          go_wp2_with fail
          refine (must_yes _).mono ?_
          rintro e w7 ⟨rfl, rfl⟩
          have HFI := Aside0.mk (HDS.out.fin HG.out)
          go_wp2
          refine leaves_cons (f := 43) (args := #[.pointer (some ⟨g + 1, 0, none⟩), .pointer (some ⟨g + 1 + 1, 0, none⟩)]) (by simp) (by simp [go_sem]) ?_
          refine (dcatch_idle (g + 1) (g + 1 + 1) _).mono ?_
          rintro e u' w'' ⟨rfl, rfl, rfl⟩
          have hfi := HFI.out
          clear s0 s1 z0 z1 r0 r1 HFI
          generalize ((Wx.setCell ⟨g + 1, 0, none⟩ (.int .u64 (q : Int))).setCell ⟨g + 1, 1, none⟩ (.slice Ao no co)).setCell ⟨g + 1 + 1, 0, none⟩ (.int .u16 0) = W9 at *
          obtain ⟨-, -, -, -, q0, q1, -, -, q2, -⟩ := hfi.cells
          refine ⟨.tuple #[.agg #[.int .u64 (q : Int), .slice Ao no co], .int .u16 0], ?_, hfi.bel, .inl ⟨q, ps, .slice Ao no co, HRES.out, rfl, hfi.row⟩⟩
          simp [results, Try.results17, go_sem, q0, q1, q2]
        | false =>
          have HRES := Aside0.mk (show decC (decide (Rt z zb b r)) z zb b.toNat l = none by
            have h1 := of_decide_eq_false HBB.out
            unfold decC
            rw [HSA.out]
            show (match encC (decide (Rt z zb b r)) z zb b.toNat q ps with | .ok l' => if l' = l then some (q, ps) else none | .error _ => none) = _
            rw [HEN.out]
            exact if_neg h1)
          go_wp2_with fail
          refine (must_no _).mono ?_
          rintro e w7 ⟨⟨u, pv, rfl⟩, rfl⟩
          exact dec_fail HDS.out.bel HDS.out.st HDS.out.er HG.out HRES.out _ u pv rfl rfl
      · have HD5 := Aside0.mk (HD.out.below hb5)
        have HRES := Aside0.mk (show decC (decide (Rt z zb b r)) z zb b.toNat l = none by
          unfold decC
          rw [HSA.out]
          show (match encC (decide (Rt z zb b r)) z zb b.toNat q ps with | .ok l' => if l' = l then some (q, ps) else none | .error _ => none) = _
          rw [hen])
        have hgl := (Array.getElem?_eq_some_iff.1 HD.out.er).1
        obtain ⟨-, -, -, -, -, -, -, -, r0, r1⟩ := HD5.out.cells
        have he0 : (er == 0) = false := by rw [beq_eq_false_iff_ne]; rcases her with rfl | rfl <;> decide
        have HSE := Aside0.mk (HD5.out.erx HG.out er)
        clear hb5 hen her hgl
        go_wp2_with fail
        refine (must_no _).mono ?_
        rintro e w7 ⟨⟨u, pv, rfl⟩, rfl⟩
        exact dec_fail HSE.out.1 HSE.out.2.1 HSE.out.2.2 HG.out HRES.out _ u pv rfl rfl
end Go.Proofs.Ytkmeipblgdahoaa.Ck

/- The document's checkpoint, read: what holds at a round's head. -/
namespace Go.Proofs.Ytkmeipblgdahoaa.Ck
open Go.RowKit Go.Proofs.YtkmeipblgdahoaaW.PrintWords Go.Proofs.YtkmeipblgdahoaaW.PrintMore Go.Proofs.Ytkmeipblgdahoaa.Base Go.Proofs.Ytkmeipblgdahoaa.Rc Go.Proofs.Ytkmeipblgdahoaa.Shp
set_option maxRecDepth 100000
set_option linter.unusedVariables false
set_option linter.unusedSimpArgs false
/-- What the document's Decode answers. -/
def RDcP (w : World) (r : Option (Nat × List Plc)) (e : Ending) (w' : World) : Prop :=
  Below w.heap.size w w' ∧ ((∃ q ps v, r = some (q, ps) ∧ e = .returned (.tuple #[.agg #[.int .u64 (q : Int), v], .int .i64 0]) ∧ OwnP w' w.heap.size v ps) ∨ (r = none ∧ e = .returned (.tuple #[.agg #[.int .u64 0, .slice none 0 0], .int .i64 141])))
/-- The shape's box, the result's, the state's; the places' row. -/
structure RQ (w W : World) (g : Nat) (z zb b r : Int) (q : Nat) (vo : Value) (ps : List Plc) : Prop where
  bel : Below w.heap.size w W
  shp : W.heap[g]? = some (.cells #[.int .i64 z, .int .i64 zb, .int .i64 b, .int .i64 r] 23 (0, 0))
  res : W.heap[g + 1]? = some (.cells #[.int .u64 0, .slice none 0 0] 27 (0, 0))
  st : W.heap[g + 1 + 1]? = some (.cells #[.int .u64 (q : Int), vo] 27 (0, 0))
  row : OwnP W w.heap.size vo ps
section
variable {w W W' : World} {g : Nat} {z zb b r : Int} {q q' : Nat} {vo v1 vr vh : Value} {ps ps' : List Plc} {rr : List UInt8} {hs : List Nat}
theorem RQ.below (h : RQ w W g z zb b r q vo ps) (hb : Below W.heap.size W W') : RQ w W' g z zb b r q vo ps :=
  ⟨below_go h.bel hb, blk_old hb h.shp, blk_old hb h.res, blk_old hb h.st, Kd.R_below h.row hb⟩
theorem RQ.cells (h : RQ w W g z zb b r q vo ps) : W.cell? ⟨g, 0, none⟩ = some (.int .i64 z) ∧ W.cell? ⟨g, 1, none⟩ = some (.int .i64 zb) ∧ W.cell? ⟨g, 2, none⟩ = some (.int .i64 b) ∧ W.cell? ⟨g, 3, none⟩ = some (.int .i64 r) ∧
    W.cell? ⟨g + 1 + 1, 0, none⟩ = some (.int .u64 (q : Int)) ∧ W.cell? ⟨g + 1 + 1, 1, none⟩ = some vo ∧ W.frozen? ⟨g + 1 + 1, 0, none⟩ = false ∧ W.frozen? ⟨g + 1 + 1, 1, none⟩ = false := by
  have h1 := h.shp
  have h2 := h.st
  exact ⟨by simp [World.cell?, h1], by simp [World.cell?, h1], by simp [World.cell?, h1], by simp [World.cell?, h1], by simp [World.cell?, h2], by simp [World.cell?, h2], by simp [World.frozen?, h2], by simp [World.frozen?, h2]⟩
theorem RQ.rs (h : RQ w W g z zb b r q vo ps) : W.cell? ⟨g + 1, 0, none⟩ = some (.int .u64 0) ∧ W.cell? ⟨g + 1, 1, none⟩ = some (.slice none 0 0) ∧ W.frozen? ⟨g + 1, 0, none⟩ = false ∧ W.frozen? ⟨g + 1, 1, none⟩ = false := by
  have h1 := h.res
  exact ⟨by simp [World.cell?, h1], by simp [World.cell?, h1], by simp [World.frozen?, h1], by simp [World.frozen?, h1]⟩
/-- The number is laid. -/
theorem RQ.num (h : RQ w W g z zb b r q vo ps) (hg : w.heap.size ≤ g) (q' : Nat) : RQ w (W.setCell ⟨g + 1 + 1, 0, none⟩ (.int .u64 (q' : Int))) g z zb b r q' vo ps :=
  ⟨h.bel.setCell (by show w.heap.size ≤ g + 1 + 1; omega) _, (Below.heap_setCell _ ⟨g + 1 + 1, 0, none⟩ _ g (by simp; omega)).trans h.shp, (Below.heap_setCell _ ⟨g + 1 + 1, 0, none⟩ _ (g + 1) (by simp)).trans h.res, blk_set h.st 0 _, Kd.R_set h.row h.st plE_ne 0 _⟩
/-- The places are laid. -/
theorem RQ.pls (h : RQ w W g z zb b r q vo ps) (hg : w.heap.size ≤ g) (hr : OwnP W' w.heap.size v1 ps') (hgr : W.grownBy W' vo.ownBlock) : W'.cell? ⟨g + 1 + 1, 1, none⟩ = some vo ∧ W'.frozen? ⟨g + 1 + 1, 1, none⟩ = false ∧ RQ w (W'.setCell ⟨g + 1 + 1, 1, none⟩ v1) g z zb b r q v1 ps' := by
  have n0 := Kd.R_ne h.row h.shp (by decide)
  have n1 := Kd.R_ne h.row h.res (by decide)
  have n2 := Kd.R_ne h.row h.st (by decide)
  have b0 : W'.heap[g]? = _ := (hgr.block g (Array.getElem?_eq_some_iff.1 h.shp).1 n0).trans h.shp
  have b1 : W'.heap[g + 1]? = _ := (hgr.block (g + 1) (Array.getElem?_eq_some_iff.1 h.res).1 n1).trans h.res
  have b2 : W'.heap[g + 1 + 1]? = _ := (hgr.block (g + 1 + 1) (Array.getElem?_eq_some_iff.1 h.st).1 n2).trans h.st
  refine ⟨by simp [World.cell?, b2], by simp [World.frozen?, b2], ?_, ?_, ?_, ?_, ?_⟩
  · exact (h.bel.grown hgr h.bel.size (fun k hk => Kd.R_base h.row k hk)).setCell (by show w.heap.size ≤ g + 1 + 1; omega) _
  · exact (Below.heap_setCell W' ⟨g + 1 + 1, 1, none⟩ v1 g (by simp; omega)).trans b0
  · exact (Below.heap_setCell W' ⟨g + 1 + 1, 1, none⟩ v1 (g + 1) (by simp)).trans b1
  · exact blk_set b2 1 v1
  · exact Kd.R_set hr b2 plE_ne 1 v1
/-- Nothing is laid into the result. -/
theorem RQ.nil (h : RQ w W g z zb b r q vo ps) (hg : w.heap.size ≤ g) :
    Below w.heap.size w ((W.setCell ⟨g + 1, 0, none⟩ (.int .u64 0)).setCell ⟨g + 1, 1, none⟩ (.slice none 0 0)) ∧ ((W.setCell ⟨g + 1, 0, none⟩ (.int .u64 0)).setCell ⟨g + 1, 1, none⟩ (.slice none 0 0)).cell? ⟨g + 1, 0, none⟩ = some (.int .u64 0) ∧
      ((W.setCell ⟨g + 1, 0, none⟩ (.int .u64 0)).setCell ⟨g + 1, 1, none⟩ (.slice none 0 0)).cell? ⟨g + 1, 1, none⟩ = some (.slice none 0 0) := by
  have b1 := blk_set h.res 0 (.int .u64 0)
  have b2 := blk_set b1 1 (.slice none 0 0)
  exact ⟨(h.bel.setCell (by show w.heap.size ≤ g + 1; omega) _).setCell (by show w.heap.size ≤ g + 1; omega) _, by simp [World.cell?, b2], by simp [World.cell?, b2]⟩
/-- The state is laid into the result. -/
theorem RQ.fin (h : RQ w W g z zb b r q vo ps) (hg : w.heap.size ≤ g) : OwnP ((W.setCell ⟨g + 1, 0, none⟩ (.int .u64 (q : Int))).setCell ⟨g + 1, 1, none⟩ vo) w.heap.size vo ps ∧ Below w.heap.size w ((W.setCell ⟨g + 1, 0, none⟩ (.int .u64 (q : Int))).setCell ⟨g + 1, 1, none⟩ vo) ∧
    ((W.setCell ⟨g + 1, 0, none⟩ (.int .u64 (q : Int))).setCell ⟨g + 1, 1, none⟩ vo).cell? ⟨g + 1, 0, none⟩ = some (.int .u64 (q : Int)) ∧ ((W.setCell ⟨g + 1, 0, none⟩ (.int .u64 (q : Int))).setCell ⟨g + 1, 1, none⟩ vo).cell? ⟨g + 1, 1, none⟩ = some vo := by
  have b1 := blk_set h.res 0 (.int .u64 (q : Int))
  have b2 := blk_set b1 1 vo
  exact ⟨Kd.R_set (Kd.R_set h.row h.res plE_ne 0 _) b1 plE_ne 1 vo, (h.bel.setCell (by show w.heap.size ≤ g + 1; omega) _).setCell (by show w.heap.size ≤ g + 1; omega) _, by simp [World.cell?, b2], by simp [World.cell?, b2]⟩
end
/-- .. and the rest of a block, and its head's numbers. -/
structure RQ2 (w W : World) (g : Nat) (z zb b r : Int) (q : Nat) (vo : Value) (ps : List Plc) (vr : Value) (rr : List UInt8) (vh : Value) (hs : List Nat) : Prop where
  rq : RQ w W g z zb b r q vo ps
  rest : Base.Own W w.heap.size vr rr
  hdr : OwnU W w.heap.size vh hs
section
variable {w W W' : World} {g : Nat} {z zb b r : Int} {q q' : Nat} {vo v1 vr vr' vh : Value} {ps ps' : List Plc} {rr rr' : List UInt8} {hs : List Nat}
theorem RQ2.below (h : RQ2 w W g z zb b r q vo ps vr rr vh hs) (hb : Below W.heap.size W W') : RQ2 w W' g z zb b r q vo ps vr rr vh hs := ⟨h.rq.below hb, h.rest.below hb, Kd.R_below h.hdr hb⟩
theorem RQ2.cut (h : RQ2 w W g z zb b r q vo ps vr rr vh hs) (hr : Base.Own W w.heap.size vr' rr') : RQ2 w W g z zb b r q vo ps vr' rr' vh hs := ⟨h.rq, hr, h.hdr⟩
theorem RQ2.num (h : RQ2 w W g z zb b r q vo ps vr rr vh hs) (hg : w.heap.size ≤ g) (q' : Nat) : RQ2 w (W.setCell ⟨g + 1 + 1, 0, none⟩ (.int .u64 (q' : Int))) g z zb b r q' vo ps vr rr vh hs :=
  ⟨h.rq.num hg q', Kd.R_set h.rest h.rq.st (by intro q hq; rw [List.mem_singleton.1 hq]; decide) 0 _, Kd.R_set h.hdr h.rq.st (by intro q hq; rw [List.mem_singleton.1 hq]; decide) 0 _⟩
theorem RQ2.pls (h : RQ2 w W g z zb b r q vo ps vr rr vh hs) (hg : w.heap.size ≤ g) (hr : OwnP W' w.heap.size v1 ps') (hgr : W.grownBy W' vo.ownBlock) :
    W'.cell? ⟨g + 1 + 1, 1, none⟩ = some vo ∧ W'.frozen? ⟨g + 1 + 1, 1, none⟩ = false ∧ RQ2 w (W'.setCell ⟨g + 1 + 1, 1, none⟩ v1) g z zb b r q v1 ps' vr rr vh hs := by
  obtain ⟨h1, h2, h3⟩ := h.rq.pls hg hr hgr
  have n2 := Kd.R_ne h.rq.row h.rq.st (by decide)
  have b2 : W'.heap[g + 1 + 1]? = _ := (hgr.block (g + 1 + 1) (Array.getElem?_eq_some_iff.1 h.rq.st).1 n2).trans h.rq.st
  have hO : Base.Own W' w.heap.size vr rr := Kd.R_over h.rest h.rq.row (by intro q hq; rw [List.mem_singleton.1 hq]; decide) hgr
  have hU : OwnU W' w.heap.size vh hs := Kd.R_over h.hdr h.rq.row (by intro q hq; rw [List.mem_singleton.1 hq]; decide) hgr
  exact ⟨h1, h2, h3, Kd.R_set hO b2 (by intro q hq; rw [List.mem_singleton.1 hq]; decide) 1 v1, Kd.R_set hU b2 (by intro q hq; rw [List.mem_singleton.1 hq]; decide) 1 v1⟩
end
def C4 (w : World) (g x1 x2 x3 x4 : Nat) : Prop := w.cell? ⟨g, 0, none⟩ = some (.int .u64 (x1 : Int)) ∧ w.cell? ⟨g, 1, none⟩ = some (.int .u64 (x2 : Int)) ∧ w.cell? ⟨g, 2, none⟩ = some (.int .u64 (x3 : Int)) ∧ w.cell? ⟨g, 3, none⟩ = some (.int .u64 (x4 : Int))
theorem C4.below {w w1 : World} {g x1 x2 x3 x4 : Nat} (h : C4 w g x1 x2 x3 x4) (hb : Below w.heap.size w w1) : C4 w1 g x1 x2 x3 x4 := ⟨pw_cell_below hb h.1, pw_cell_below hb h.2.1, pw_cell_below hb h.2.2.1, pw_cell_below hb h.2.2.2⟩
theorem C4.grown {w w1 : World} {g x1 x2 x3 x4 : Nat} {row : Option Nat} (h : C4 w g x1 x2 x3 x4) (hb : w.grownBy w1 row) (hn : some g ≠ row) : C4 w1 g x1 x2 x3 x4 := ⟨grown_cell hb hn h.1, grown_cell hb hn h.2.1, grown_cell hb hn h.2.2.1, grown_cell hb hn h.2.2.2⟩
theorem C4.set {w : World} {g x1 x2 x3 x4 : Nat} {p : Addr} {u : Value} (h : C4 w g x1 x2 x3 x4) (hn : g ≠ p.block) : C4 (w.setCell p u) g x1 x2 x3 x4 := h.grown (World.grownBy_set1 w p u) (by simp; exact hn)
theorem take_head_none (b : List UInt8) (h : b.length < 26) : take b [4, 4, 4, 4, 8, 2] = none := take_none (by simpa [wd] using h)
theorem take_plc_none (b : List UInt8) (h : b.length < 16) : take b [4, 8, 2, 2] = none := take_none (by simpa [wd] using h)
theorem places_short {b : List UInt8} (h : b.length < 26 + 16 * ctC b ∨ b.length < 26) : places b = none := by unfold places; rw [if_pos h]
theorem places_long {b : List UInt8} (h : 26 + 16 * ctC b ≤ b.length) : places b = some (seqC b, plsOf (ctC b) (b.drop 26)) := by unfold places; rw [if_neg (by omega)]
end Go.Proofs.Ytkmeipblgdahoaa.Ck
