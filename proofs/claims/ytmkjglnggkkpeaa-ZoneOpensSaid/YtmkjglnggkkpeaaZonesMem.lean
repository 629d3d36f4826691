/- Zones of a device: the words of its walk: what a round of the range over a function keeps; marks. -/
import Derived.Test.YtmkjglnggkkpeaaChunk
namespace Go.Proofs.Ytmkjglnggkkpeaa.Dv
open Go.RowKit Go.Shelf Go.Proofs.YtmkjglnggkkpeaaW.PrintWords Go.Proofs.YtmkjglnggkkpeaaW.PrintMore Go.Proofs.Ytmkjglnggkkpeaa.Base Go.Proofs.Ytmkjglnggkkpeaa.Shp
set_option linter.unusedVariables false
set_option linter.unusedSimpArgs false
def CellsAt (W : World) (k : Nat) : Prop := ∃ o, W.heap[k]? = some o ∧ o.isCells = true
theorem CellsAt.grown {W W' : World} {k : Nat} (h : CellsAt W k) {row : Option Nat} (hg : W.grownBy W' row) (hr : row ≠ some k) : CellsAt W' k := by
  obtain ⟨o, h1, h2⟩ := h
  exact ⟨o, (hg.block k (Array.getElem?_eq_some_iff.1 h1).1 (fun e => hr e.symm)).trans h1, h2⟩
/-- A zone that is gathered: its box, its row of blocks. -/
structure ZI (w1 W : World) (gz : Nat) (du : Int) (v : Value) (xs : List (List UInt8)) (S : Nat → Prop) : Prop where
  blk : W.heap[gz]? = some (.cells #[v, .int .i64 du] 55 (0, 0))
  row : Kd.N bytesK 32 W w1.heap.size S v xs
  ft : ∀ k, S k → w1.heap.size ≤ k ∧ k < W.heap.size ∧ CellsAt W k
  chg : Chg w1 W (fun k => k = gz)
section
variable {w1 W W' : World} {gz : Nat} {du : Int} {v v1 : Value} {xs ys : List (List UInt8)} {S O : Nat → Prop}
theorem ZI.blkEq (h : ZI w1 W gz du v xs S) : gz < W.heap.size := (Array.getElem?_eq_some_iff.1 h.blk).1
theorem ZI.grown (h : ZI w1 W gz du v xs S) (hgz : gz < w1.heap.size) {row : Option Nat} (hg : W.grownBy W' row) (hr : ∀ r, row = some r → w1.heap.size ≤ r ∧ ∃ o : Obj, W.heap[r]? = some o ∧ o.isCells = false) : ZI w1 W' gz du v xs S := by
  have hne : ∀ k, S k → row ≠ some k := by
    intro k hk e
    obtain ⟨_, o, h1, h2⟩ := hr k e
    obtain ⟨_, _, o', h3, h4⟩ := h.ft k hk
    rw [h1] at h3
    injection h3 with h3
    subst h3
    rw [h2] at h4
    cases h4
  refine ⟨?_, Kd.N_grown h.row hg (fun k hk e => hne k hk e.symm), fun k hk => ⟨(h.ft k hk).1, Nat.lt_of_lt_of_le (h.ft k hk).2.1 hg.size, (h.ft k hk).2.2.grown hg (hne k hk)⟩, h.chg.grown hg (fun k e => .inr (hr k e).1)⟩
  rw [hg.block gz h.blkEq (fun e => by have := (hr gz e.symm).1; omega)]
  exact h.blk
theorem ZI.below (h : ZI w1 W gz du v xs S) (hgz : gz < w1.heap.size) (hb : Below W.heap.size W W') : ZI w1 W' gz du v xs S :=
  h.grown hgz (row := none) ⟨hb.os, hb.tape, hb.output, hb.size, fun k hk _ => hb.block k hk⟩ (fun r e => by cases e)
end
/-- The pieces of bytes. -/
def piece (b : Nat) (xs : List UInt8) (k : Nat) : List UInt8 := (xs.drop (k * b)).take b
def pieces (b cnt : Nat) (xs : List UInt8) : List (List UInt8) := (List.finRange cnt).map fun k => piece b xs k.1
def partZ (b : Nat) (p : Prt) : Zn := (pieces b (p.1.length / b) p.1, p.2)
/-- Marks of loops over functions that have ended. -/
def Marks (B : Nat) (W : World) : List Deferred → Prop
  | [] => True
  | d :: ds => (∃ D, d.target = .collected D ∧ B ≤ D ∧ W.heap[D]? = some (.deferred (some [])) ∧ ∀ d' ∈ ds, d'.target ≠ .collected D) ∧ Marks B W ds
theorem Marks.grown {B : Nat} {W W' : World} {row : Option Nat} (hg : W.grownBy W' row) : ∀ {ds : List Deferred}, Marks B W ds → (∀ r, row = some r → ∀ d ∈ ds, d.target ≠ .collected r) → Marks B W' ds
  | [], _, _ => trivial
  | d :: ds, h, hr => by
    obtain ⟨⟨D, h1, h2, h3, h4⟩, h5⟩ := h
    refine ⟨⟨D, h1, h2, ?_, h4⟩, Marks.grown hg h5 (fun r e d' hd' => hr r e d' (List.mem_cons_of_mem _ hd'))⟩
    rw [hg.block D (Array.getElem?_eq_some_iff.1 h3).1 (fun e => hr D e.symm d (List.mem_cons_self ..) h1)]
    exact h3
theorem Marks.below {B : Nat} {W W' : World} (hb : Below W.heap.size W W') {ds : List Deferred} (h : Marks B W ds) : Marks B W' ds :=
  h.grown (row := none) ⟨hb.os, hb.tape, hb.output, hb.size, fun k hk _ => hb.block k hk⟩ (fun r e => by cases e)
theorem Marks.lt {B : Nat} {W : World} : ∀ {ds : List Deferred}, Marks B W ds → ∀ d ∈ ds, ∀ r, d.target = .collected r → B ≤ r ∧ r < W.heap.size ∧ W.heap[r]? = some (.deferred (some []))
  | d :: ds, ⟨⟨D, h1, h2, h3, _⟩, h5⟩, d', hd', r, hr => by
    rcases List.mem_cons.1 hd' with rfl | hd'
    · rw [h1] at hr
      injection hr with hr
      subst hr
      exact ⟨h2, (Array.getElem?_eq_some_iff.1 h3).1, h3⟩
    · exact Marks.lt h5 d' hd' r hr
/-- A function leaves through its marks. -/
theorem leaves_marks {P : Program} {fn : Func} {tmps : Array Value} {R : Ending → World → Prop} {n B : Nat} : ∀ (ds : List Deferred) (W : World), Marks B W ds →
    (∀ W', W.heap.size ≤ W'.heap.size → W'.os = W.os → W'.tape = W.tape → W'.output = W.output → (∀ k, k < W.heap.size → (∀ d ∈ ds, d.target ≠ .collected k) → W'.heap[k]? = W.heap[k]?) → LeavesIn Fence.wide n P fn tmps R [] .returning W') → LeavesInM Fence.wide n P fn tmps R ds .returning W
  | [], W, _, h => h W (Nat.le_refl _) rfl rfl rfl (fun _ _ _ => rfl)
  | d :: ds, W, ⟨⟨D, h1, h2, h3, h4⟩, h5⟩, h => by
    refine ⟨by simp, .inl ⟨D, _, h1, run_takeDeferred h3, ?_⟩⟩
    have hg := grownBy_putObj' W D (.deferred none)
    refine leaves_marks ds _ (h5.grown hg (fun r e d' hd' => by cases e; exact h4 d' hd')) (fun W' hs ho ht hou hk => h W' (Nat.le_trans hg.size hs) (ho.trans hg.os) (ht.trans hg.tape) (hou.trans hg.output) (fun k hlt hno => ?_))
    rw [hk k (Nat.lt_of_lt_of_le hlt hg.size) (fun d' hd' => hno d' (List.mem_cons_of_mem _ hd'))]
    exact hg.block k hlt (fun e => by injection e with e; subst e; exact hno d (List.mem_cons_self ..) h1)
/-- append(v, x): a zone. -/
theorem app_zone {ops : Array Oper} {rest : List Oper} {o : Oper} {a : Act} {Q : Exit → Act → World → Prop} {W : World} (base : Nat) (E O : Nat → Prop) (s x : Operand) (hgd : o.guard = none) (ho : o.op = .call { callee := .builtin .append, args := #[s, x], argTypes := #[51, 51] })
    (v : Value) (xs : List Zn) (bs : List (List UInt8)) (d : Int) (A : Option Addr) (n c : Nat) (hp : Kd.FK zoneK W O (bs, d) [.slice A n c, .int .i64 d]) (hO : ∀ k, O k → some k ≠ v.ownBlock) (hs : a.eval s = v) (hx : a.eval x = .slice (some ⟨W.heap.size, 0, none⟩) 1 1)
    (HO : Kd.N zoneK 55 W base E v xs) (hbase : base ≤ W.heap.size) (hl : xs.length ≤ 100000)
    (h : ∀ v1 w1, Kd.N zoneK 55 w1 base (fun k => E k ∨ O k ∨ W.heap.size ≤ k) v1 (xs ++ [(bs, d)]) → W.grownBy w1 v.ownBlock → wpList Try.prog ops Q rest (a.put o.dst v1) w1) :
    wpList Try.prog ops Q (o :: rest) a (W.alloc (.cells #[.slice A n c, .int .i64 d] 55)) :=
  Kd.N_append zoneK (w0 := W) base hgd s x 51 55 _ 32 ho Try.underlying51 info_zone rfl (by decide) (by decide) v xs (bs, d) [.slice A n c, .int .i64 d] (fun k => E k ∨ O k ∨ W.heap.size ≤ k) O hs hx
    hp (fun k hk => ⟨.inr (.inl hk), hO k hk⟩) (fun k hk => .inr (.inr hk)) (Kd.N_mono HO (fun k hk => .inl hk)) (Below.refl _ _) hbase (by omega) (fun v1 w1 h1 h2 h3 _ => h v1 w1 h1 h3)
/-- A row of blocks leads to cells alone. -/
theorem N_cells {w : World} {base : Nat} {ok : Nat → Prop} {v : Value} {xs : List (List UInt8)} {e : Nat} (h : Kd.N bytesK e w base ok v xs) : Kd.N bytesK e w base (fun k => ok k ∧ CellsAt w k) v xs := by
  have hty := Kd.N_typed h
  obtain ⟨h0, rows, hl, hR, hf⟩ := h
  refine ⟨fun k hk => ⟨h0 k hk, ?_⟩, rows, hl, hR, fun j x c hx hc => ?_⟩
  · obtain ⟨cells, hcl⟩ := hty k hk
    exact ⟨_, hcl, rfl⟩
  · have hFK := hf j x c hx hc
    obtain ⟨A, cp, rfl, hcp, hF⟩ := Kd.FK_slice_open hFK
    intro W' hW
    refine ⟨A, cp, rfl, hcp, ?_⟩
    have hC := Kd.F_now hF
    rcases Nat.eq_zero_or_pos x.length with hz | hz
    · exact ⟨rfl, hC.2.1, fun hp => by omega⟩
    · obtain ⟨ad, c0, hA, _, _, hcc, hin⟩ := Kd.F_get hF 0 (0 : Int) (by omega) (by omega)
      subst hA
      have hokb := hin (by decide)
      have hlt0 : w.cell? (ad.add 0) ≠ none := by
        obtain ⟨ad', hA', hcell⟩ := byte_at hC 0 hz
        injection hA' with hA'
        subst hA'
        rw [hcell]; simp
      obtain ⟨vv, hvv⟩ := Option.ne_none_iff_exists'.1 hlt0
      have hblt := World.block_lt_of_cell? w _ hvv
      rw [add_block] at hblt
      have hcells : CellsAt w ad.block := by
        have hb := hvv
        unfold World.cell? at hb
        rw [add_block] at hb
        cases ho : w.heap[ad.block]? with
        | none => rw [ho] at hb; simp at hb
        | some o =>
          rw [ho] at hb
          cases o with
          | cells _ _ _ => exact ⟨_, ho, rfl⟩
          | _ => simp at hb
      have heq : W'.heap[ad.block]? = w.heap[ad.block]? := hW ad.block ⟨⟨hokb.1, hcells⟩, hokb.2⟩ hblt
      refine ⟨hC.1, hC.2.1, fun hp => ?_⟩
      obtain ⟨ad', hA', hall⟩ := hC.2.2 hp
      injection hA' with hA'
      subst hA'
      refine ⟨ad, rfl, fun i y hy => ?_⟩
      obtain ⟨cs, h1, h2, h3⟩ := hall i y hy
      refine ⟨cs, h1, h2, fun q u hu => ?_⟩
      rw [World.cell?_of_block (w := w) (by rw [add_block]; exact heq)]
      exact h3 q u hu
theorem CellsAt.far {W : World} {p : Addr} {u : Value} {k : Nat} (h : CellsAt W k) (hk : k ≠ p.block) : CellsAt (W.setCell p u) k := by
  obtain ⟨o, h1, h2⟩ := h
  exact ⟨o, (Below.heap_setCell W p u k hk).trans h1, h2⟩
/-- A zone that is gathered has one block more. -/
theorem ZI.add {w1 Wq w8 w9 : World} {gz : Nat} {du : Int} {v v9 : Value} {xs ys : List (List UInt8)} {S O : Nat → Prop} (h : ZI w1 w8 gz du v xs S) (hgz : gz < w1.heap.size) (hq : w1.heap.size ≤ Wq.heap.size) (hN : Kd.N bytesK 32 w9 w1.heap.size (fun k => S k ∨ O k ∨ w8.heap.size ≤ k) v9 ys) (hg : w8.grownBy w9 v.ownBlock)
    (hO : ∀ k, O k → Wq.heap.size ≤ k) (hs8 : w1.heap.size ≤ w8.heap.size) : ∃ S', ZI w1 (w9.setCell ⟨gz, 0, none⟩ v9) gz du v9 ys S' := by
  have hge : ∀ k, (S k ∨ O k ∨ w8.heap.size ≤ k) → w1.heap.size ≤ k := fun k hk => by
    rcases hk with h1 | h1 | h1
    · exact (h.ft k h1).1
    · exact Nat.le_trans hq (hO k h1)
    · exact Nat.le_trans hs8 h1
  have hb9 : w9.heap[gz]? = some (.cells #[v, .int .i64 du] 55 (0, 0)) := by
    rw [hg.block gz h.blkEq (fun e => by have := Kd.N_base h.row gz e.symm; omega)]
    exact h.blk
  have hN' := N_cells (Kd.N_bound hN)
  refine ⟨fun k => ((S k ∨ O k ∨ w8.heap.size ≤ k) ∧ k < w9.heap.size) ∧ CellsAt w9 k, blk_set hb9 0 v9, Kd.N_far hN' (fun k hk e => ?_) _, fun k hk => ⟨hge k hk.1.1, by simpa [World.setCell] using hk.1.2, hk.2.far (fun e => ?_)⟩, (h.chg.grown hg (fun k e => .inr (Kd.N_base h.row k e))).set (.inl rfl) _⟩
  · have := hge k hk.1.1
    have e' : k = gz := e
    omega
  · have := hge k hk.1.1
    have e' : k = gz := e
    omega
/-- append(v, x) in a region that draws: a block. -/
theorem app_blk_step {ops : Array Oper} {o : Oper} {a : Act} {Q : Exit → Act → World → Prop} {Kc : Act → World → Prop} {W : World} (base : Nat) (E O : Nat → Prop) (s x : Operand) (hw : Region.wanted o (yielded ops a.tmps) = true) (ho : o.op = .call { callee := .builtin .append, args := #[s, x], argTypes := #[31, 31] })
    (v : Value) (xs : List (List UInt8)) (ys : List UInt8) (A : Option Addr) (n c : Nat) (hp : Kd.FK bytesK W O ys [.slice A n c]) (hO : ∀ k, O k → some k ≠ v.ownBlock) (hs : a.eval s = v) (hx : a.eval x = .slice (some ⟨W.heap.size, 0, none⟩) 1 1)
    (HO : Kd.N bytesK 32 W base E v xs) (hbase : base ≤ W.heap.size) (hl : xs.length ≤ 100000)
    (h : ∀ v1 w1, Kd.N bytesK 32 w1 base (fun k => E k ∨ O k ∨ W.heap.size ≤ k) v1 (xs ++ [ys]) → W.grownBy w1 v.ownBlock → Kc (a.put o.dst v1) w1) :
    if Region.wanted o (yielded ops a.tmps) = true then Oper.wp Try.prog o a (W.alloc (.cells #[.slice A n c] 32)) Kc Q else Kc (a.put o.dst undef) (W.alloc (.cells #[.slice A n c] 32)) :=
  Kd.N_append_step bytesK (w0 := W) base hw s x 31 32 _ 24 ho Try.underlying31 info_bytes rfl (by decide) (by decide) v xs ys [.slice A n c] (fun k => E k ∨ O k ∨ W.heap.size ≤ k) O hs hx
    hp (fun k hk => ⟨.inr (.inl hk), hO k hk⟩) (fun k hk => .inr (.inr hk)) (Kd.N_mono HO (fun k hk => .inl hk)) (Below.refl _ _) hbase (by omega) (fun v1 w1 h1 h2 h3 _ => h v1 w1 h1 h3)
end Go.Proofs.Ytmkjglnggkkpeaa.Dv
