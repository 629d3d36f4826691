/- A device, a row of places and a row of blocks, apart from each other. -/
import Derived.Test.YtmkjglnggkkpeaaHeavy
import Derived.Test.YtmkjglnggkkpeaaReadsPure
namespace Go.Proofs.Ytmkjglnggkkpeaa.Dv
open Go.RowKit Go.Proofs.YtmkjglnggkkpeaaW.PrintWords Go.Proofs.YtmkjglnggkkpeaaW.PrintMore Go.Proofs.Ytmkjglnggkkpeaa.Base Go.Proofs.Ytmkjglnggkkpeaa.Shp
set_option linter.unusedVariables false
set_option linter.unusedSimpArgs false
def addrK : Kd (Int × Int) := Kd.pair (num .i64) (num .i64)
def bytesK : Kd (List UInt8) := Kd.slice 5 byte
theorem heap_addr : Kd.Heap addrK := Kd.heap_pair (heap_num _) (heap_num _)
theorem heap_bytes : Kd.Heap bytesK := Kd.heap_slice _ heap_byte
theorem info_addr : (Try.prog.info? 40).map (fun i => (i.zero, i.size, i.bytes)) = some (some (.agg #[.int .i64 0, .int .i64 0]), 2, 16) := by kernel_rfl
theorem info_bytes : (Try.prog.info? 32).map (fun i => (i.zero, i.size, i.bytes)) = some (some (.slice none 0 0), 1, 24) := by kernel_rfl
theorem addr_K {w : World} {z b : Int} (hz : IsI z) (hb : IsI b) : addrK.K w (z, b) [.int .i64 z, .int .i64 b] := by
  obtain ⟨z1, z2⟩ := hz
  obtain ⟨b1, b2⟩ := hb
  refine ⟨[_], [_], rfl, ⟨rfl, ?_⟩, ⟨rfl, ?_⟩⟩
  · simp [Lit.wf, IntKind.min, IntKind.max, IntKind.bits, IntKind.signed]; omega
  · simp [Lit.wf, IntKind.min, IntKind.max, IntKind.bits, IntKind.signed]; omega
section
variable {ops : Array Oper} {rest : List Oper} {o : Oper} {a : Act} {Q : Exit → Act → World → Prop}
/-- append(v, p): a place. -/
theorem app_addr {W : World} (base : Nat) (P : Nat → Prop) (s x : Operand) (hgd : o.guard = none) (ho : o.op = .call { callee := .builtin .append, args := #[s, x], argTypes := #[30, 30] })
    (v : Value) (xs : List (Int × Int)) (z b : Int) (hz : IsI z) (hb : IsI b) (hs : a.eval s = v) (hx : a.eval x = .slice (some ⟨W.heap.size, 0, none⟩) 1 1)
    (HO : Kd.N addrK 40 W base P v xs) (hbase : base ≤ W.heap.size) (hl : xs.length ≤ 1000)
    (h : ∀ v1 w1, Kd.N addrK 40 w1 base (fun k => P k ∨ W.heap.size ≤ k) v1 (xs ++ [(z, b)]) → W.grownBy w1 v.ownBlock → wpList Try.prog ops Q rest (a.put o.dst v1) w1) :
    wpList Try.prog ops Q (o :: rest) a (W.alloc (.cells #[.int .i64 z, .int .i64 b] 40)) :=
  Kd.N_append addrK (w0 := W) base hgd s x 30 40 _ 16 ho Try.underlying30 info_addr rfl (by decide) (by decide) v xs (z, b) [.int .i64 z, .int .i64 b] (fun k => P k ∨ W.heap.size ≤ k) (fun _ => False) hs hx
    (fun W' _ => addr_K hz hb) (fun _ h => h.elim) (fun k hk => .inr hk) (Kd.N_mono HO (fun k hk => .inl hk)) (Below.refl _ _) hbase (by omega) (fun v1 w1 h1 h2 h3 _ => h v1 w1 h1 h3)
/-- append(v, x): a block. -/
theorem app_blk {W : World} (base : Nat) (E O : Nat → Prop) (s x : Operand) (hgd : o.guard = none) (ho : o.op = .call { callee := .builtin .append, args := #[s, x], argTypes := #[31, 31] })
    (v : Value) (xs : List (List UInt8)) (ys : List UInt8) (A : Option Addr) (n c : Nat) (hp : Kd.FK bytesK W O ys [.slice A n c]) (hO : ∀ k, O k → some k ≠ v.ownBlock) (hs : a.eval s = v) (hx : a.eval x = .slice (some ⟨W.heap.size, 0, none⟩) 1 1)
    (HO : Kd.N bytesK 32 W base E v xs) (hbase : base ≤ W.heap.size) (hl : xs.length ≤ 100000)
    (h : ∀ v1 w1, Kd.N bytesK 32 w1 base (fun k => E k ∨ O k ∨ W.heap.size ≤ k) v1 (xs ++ [ys]) → W.grownBy w1 v.ownBlock → wpList Try.prog ops Q rest (a.put o.dst v1) w1) :
    wpList Try.prog ops Q (o :: rest) a (W.alloc (.cells #[.slice A n c] 32)) :=
  Kd.N_append bytesK (w0 := W) base hgd s x 31 32 _ 24 ho Try.underlying31 info_bytes rfl (by decide) (by decide) v xs ys [.slice A n c] (fun k => E k ∨ O k ∨ W.heap.size ≤ k) O hs hx
    hp (fun k hk => ⟨.inr (.inl hk), hO k hk⟩) (fun k hk => .inr (.inr hk)) (Kd.N_mono HO (fun k hk => .inl hk)) (Below.refl _ _) hbase (by omega) (fun v1 w1 h1 h2 h3 _ => h v1 w1 h1 h3)
end
/-- A device, places, blocks: no two share what is written. -/
structure RdM (w : World) (xb base : Nat) (z zb b r : Int) (ps : List Prt) (v vp vb : Value) (pa : List (Int × Int)) (ba : List (List UInt8)) (D P E : Nat → Prop) : Prop where
  dev : Dev w xb base D z zb b r ps v
  pls : Kd.N addrK 40 w base P vp pa
  bls : Kd.N bytesK 32 w base E vb ba
  dp : ∀ k, D k → ¬ P k
  de : ∀ k, D k → ¬ E k
  pe : ∀ k, P k → ¬ E k
  dl : ∀ k, D k → base ≤ k ∧ k < w.heap.size
  pl : ∀ k, P k → base ≤ k ∧ k < w.heap.size
  el : ∀ k, E k → base ≤ k ∧ k < w.heap.size
  xp : ¬ P xb
  xe : ¬ E xb
section
variable {w w1 : World} {xb base : Nat} {z zb b r : Int} {ps ps' : List Prt} {v vp vb vp1 vb1 : Value} {pa pa1 : List (Int × Int)} {ba ba1 : List (List UInt8)} {D P E P1 E1 : Nat → Prop}
theorem RdM.below (h : RdM w xb base z zb b r ps v vp vb pa ba D P E) (hb : Below w.heap.size w w1) : RdM w1 xb base z zb b r ps v vp vb pa ba D P E :=
  ⟨h.dev.below hb, Kd.N_below h.pls hb, Kd.N_below h.bls hb, h.dp, h.de, h.pe, fun k hk => ⟨(h.dl k hk).1, Nat.lt_of_lt_of_le (h.dl k hk).2 hb.size⟩, fun k hk => ⟨(h.pl k hk).1, Nat.lt_of_lt_of_le (h.pl k hk).2 hb.size⟩,
    fun k hk => ⟨(h.el k hk).1, Nat.lt_of_lt_of_le (h.el k hk).2 hb.size⟩, h.xp, h.xe⟩
theorem RdM.xlt (h : RdM w xb base z zb b r ps v vp vb pa ba D P E) : xb < w.heap.size := (Array.getElem?_eq_some_iff.1 h.dev.blk).1
/-- The device was written. -/
theorem RdM.devop (h : RdM w xb base z zb b r ps v vp vb pa ba D P E) (hbase : base ≤ w.heap.size) (hD : Dev w1 xb base (fun k => D k ∨ w.heap.size ≤ k) z zb b r ps' v) (hc : Chg w w1 (fun k => D k ∨ w.heap.size ≤ k)) :
    RdM w1 xb base z zb b r ps' v vp vb pa ba (fun k => (D k ∨ w.heap.size ≤ k) ∧ base ≤ k ∧ k < w1.heap.size) P E := by
  have hsz := hc.kept.1
  refine ⟨hD.tight (fun k hk h1 h2 => ⟨hk, h1, h2⟩), Kd.N_kept h.pls hc.kept (fun k hk hs => ?_), Kd.N_kept h.bls hc.kept (fun k hk hs => ?_), fun k hk hp => ?_, fun k hk he => ?_, h.pe, fun k hk => hk.2, fun k hk => ⟨(h.pl k hk).1, Nat.lt_of_lt_of_le (h.pl k hk).2 hsz⟩,
    fun k hk => ⟨(h.el k hk).1, Nat.lt_of_lt_of_le (h.el k hk).2 hsz⟩, h.xp, h.xe⟩
  · exact hs.elim (fun h1 => h.dp k h1 hk) (fun h1 => by have := (h.pl k hk).2; omega)
  · exact hs.elim (fun h1 => h.de k h1 hk) (fun h1 => by have := (h.el k hk).2; omega)
  · exact hk.1.elim (fun h1 => h.dp k h1 hp) (fun h1 => by have := (h.pl k hp).2; omega)
  · exact hk.1.elim (fun h1 => h.de k h1 he) (fun h1 => by have := (h.el k he).2; omega)
/-- The row of places is another one. -/
theorem RdM.addp (h : RdM w xb base z zb b r ps v vp vb pa ba D P E) (hN : Kd.N addrK 40 w1 base P1 vp1 pa1) {row : Option Nat} (hg : w.grownBy w1 row) (hr : ∀ k, row = some k → P k) (hP : ∀ k, P1 k → base ≤ k ∧ k < w1.heap.size ∧ (k < w.heap.size → ¬ D k ∧ ¬ E k ∧ k ≠ xb)) :
    RdM w1 xb base z zb b r ps v vp1 vb pa1 ba D P1 E := by
  have hsz := hg.size
  have hxl := h.xlt
  refine ⟨h.dev.chg (Chg.of_grown (S := fun k => row = some k) hg (fun k hk => hk)) (fun hx => h.xp (hr _ hx)) (fun k hk hx => h.dp k hk (hr k hx)), hN, Kd.N_grown h.bls hg (fun k hk e => h.pe k (hr k e.symm) hk), fun k hk hp => ?_, h.de, fun k hk he => ?_,
    fun k hk => ⟨(h.dl k hk).1, Nat.lt_of_lt_of_le (h.dl k hk).2 hsz⟩, fun k hk => ⟨(hP k hk).1, (hP k hk).2.1⟩, fun k hk => ⟨(h.el k hk).1, Nat.lt_of_lt_of_le (h.el k hk).2 hsz⟩, fun hx => ((hP xb hx).2.2 hxl).2.2 rfl, h.xe⟩
  · exact ((hP k hp).2.2 (h.dl k hk).2).1 hk
  · exact ((hP k hk).2.2 (h.el k he).2).2.1 he
/-- The row of blocks is another one. -/
theorem RdM.addb (h : RdM w xb base z zb b r ps v vp vb pa ba D P E) (hN : Kd.N bytesK 32 w1 base E1 vb1 ba1) {row : Option Nat} (hg : w.grownBy w1 row) (hr : ∀ k, row = some k → E k) (hE : ∀ k, E1 k → base ≤ k ∧ k < w1.heap.size ∧ (k < w.heap.size → ¬ D k ∧ ¬ P k ∧ k ≠ xb)) :
    RdM w1 xb base z zb b r ps v vp vb1 pa ba1 D P E1 := by
  have hsz := hg.size
  have hxl := h.xlt
  refine ⟨h.dev.chg (Chg.of_grown (S := fun k => row = some k) hg (fun k hk => hk)) (fun hx => h.xe (hr _ hx)) (fun k hk hx => h.de k hk (hr k hx)), Kd.N_grown h.pls hg (fun k hk e => h.pe k hk (hr k e.symm)), hN, h.dp, fun k hk he => ?_, fun k hk he => ?_,
    fun k hk => ⟨(h.dl k hk).1, Nat.lt_of_lt_of_le (h.dl k hk).2 hsz⟩, fun k hk => ⟨(h.pl k hk).1, Nat.lt_of_lt_of_le (h.pl k hk).2 hsz⟩, fun k hk => ⟨(hE k hk).1, (hE k hk).2.1⟩, h.xp, fun hx => ((hE xb hx).2.2 hxl).2.2 rfl⟩
  · exact ((hE k he).2.2 (h.dl k hk).2).1 hk
  · exact ((hE k he).2.2 (h.pl k hk).2).2.1 hk
end
theorem own_FK {w : World} {base : Nat} {A : Option Addr} {n c : Nat} {xs : List UInt8} (h : Own w base (.slice A n c) xs) : Kd.FK bytesK w (fun k => some k = (Value.slice A n c).ownBlock) xs [.slice A n c] := by
  have hN := Kd.R_N (Kd.R_tight rfl h)
  obtain ⟨hn, hc, _⟩ := Kd.N_reads' hN
  subst hn
  exact Kd.FK_slice_mk hc (Kd.N_F hN)
section
variable {w w1 : World} {xb base : Nat} {z zb b r : Int} {ps ps' : List Prt} {v vp vb vp1 vb1 : Value} {pa pa1 : List (Int × Int)} {ba ba1 : List (List UInt8)} {D P E O : Nat → Prop}
theorem RdM.addp' (h : RdM w xb base z zb b r ps v vp vb pa ba D P E) (hbase : base ≤ w.heap.size) (hN : Kd.N addrK 40 w1 base (fun k => P k ∨ w.heap.size ≤ k) vp1 pa1) (hg : w.grownBy w1 vp.ownBlock) :
    RdM w1 xb base z zb b r ps v vp1 vb pa1 ba D (fun k => (P k ∨ w.heap.size ≤ k) ∧ k < w1.heap.size) E := by
  have hxl := h.xlt
  refine h.addp (Kd.N_bound hN) hg (fun k hk => h.pls.1 k hk) (fun k hk => ⟨hk.1.elim (fun h1 => (h.pl k h1).1) (fun h1 => by omega), hk.2, fun hlt => ?_⟩)
  have hp : P k := hk.1.resolve_right (by omega)
  exact ⟨fun hd => h.dp k hd hp, h.pe k hp, fun e => h.xp (e ▸ hp)⟩
theorem RdM.addb' (h : RdM w xb base z zb b r ps v vp vb pa ba D P E) (hbase : base ≤ w.heap.size) (hN : Kd.N bytesK 32 w1 base (fun k => E k ∨ O k ∨ w.heap.size ≤ k) vb1 ba1) (hg : w.grownBy w1 vb.ownBlock) (hO : ∀ k, O k → base ≤ k ∧ ¬ D k ∧ ¬ P k ∧ k ≠ xb) :
    RdM w1 xb base z zb b r ps v vp vb1 pa ba1 D P (fun k => (E k ∨ O k ∨ w.heap.size ≤ k) ∧ k < w1.heap.size) := by
  have hxl := h.xlt
  refine h.addb (Kd.N_bound hN) hg (fun k hk => h.bls.1 k hk) (fun k hk => ⟨hk.1.elim (fun h1 => (h.el k h1).1) (fun h1 => h1.elim (fun h2 => (hO k h2).1) (fun h2 => by omega)), hk.2, fun hlt => ?_⟩)
  rcases hk.1 with he | ho | hge
  · exact ⟨fun hd => h.de k hd he, fun hp => h.pe k hp he, fun e => h.xe (e ▸ he)⟩
  · exact (hO k ho).2
  · omega
end
theorem fk_move {w4 w5 w7 : World} {ob : Obj} {row : Option Nat} {O S : Nat → Prop} {xs : List UInt8} {cs : List Value} (h : Kd.FK bytesK w4 O xs cs) (hc : Chg w4 w5 S) (hg : (w5.alloc ob).grownBy w7 row) (hS : ∀ k, O k → ¬ S k) (hr : ∀ k, O k → some k ≠ row) : Kd.FK bytesK w7 O xs cs :=
  Kd.FK_grown (Kd.FK_below (Kd.FK_step h (fun k hk hlt => hc.kept.2 k hlt (hS k hk))) (alloc_below _ _)) hg hr
theorem res_cases {zb b : Nat} {ps ps' : List Prt} {i : Int} {e : Ending} (h : ResR ps i e ps') (hw : Whole b zb ps) :
    ∃ er : Int, e = .returned (.int .u16 er) ∧ ps'.length = ps.length ∧ Whole b zb ps' ∧ ∀ q, Good b ps q → q.1.1 ≠ i → Good b ps' q := by
  rcases h with ⟨_, he, rfl⟩ | ⟨hh, he, rfl⟩
  · exact ⟨100, he, rfl, hw, fun q hq _ => hq⟩
  · exact ⟨0, he, by rw [List.length_set], hw.set _ ⟨0, by omega, by simp⟩, fun q hq hne => good_reset hq (hasB_mem hh).1 hne⟩
/-- A place of a row. -/
theorem place_at {w : World} {base : Nat} {P : Nat → Prop} {A : Option Addr} {n c : Nat} {pa : List (Int × Int)} (h : Kd.N addrK 40 w base P (.slice A n c) pa) (i : Nat) (hi : i < n) {p : Int × Int} (hp : pa.getD i (0, 0) = p) :
    ∃ ad, A = some ad ∧ w.cell? (ad.add (i * 2)) = some (.int .i64 p.1) ∧ w.cell? ⟨(ad.add (i * 2)).block, (ad.add (i * 2)).off + 1, none⟩ = some (.int .i64 p.2) ∧ IsI p.1 ∧ IsI p.2 := by
  obtain ⟨hn, hc, hC⟩ := Kd.N_reads' h
  subst hn
  obtain ⟨ad, h1, h2, h3, h4, h5⟩ := loss_at (xs := pa) hC i hi
  rw [hp] at h2 h3 h4 h5
  exact ⟨ad, h1, h2, h3, h4, h5⟩
/-- A block of a row. -/
theorem block_at {w : World} {base : Nat} {E : Nat → Prop} {A : Option Addr} {n c : Nat} {ba : List (List UInt8)} (h : Kd.N bytesK 32 w base E (.slice A n c) ba) (i : Nat) (hi : i < n) {x : List UInt8} (hx : ba.getD i [] = x) :
    ∃ ad B k, A = some ad ∧ w.cell? (ad.add i) = some (.slice B x.length k) ∧ x.length ≤ k ∧ byte.C w B x.length x ∧ Kd.FK bytesK w (fun k => E k ∧ some k ≠ (Value.slice A n c).ownBlock) x [.slice B x.length k] := by
  obtain ⟨hn, hc, hC⟩ := Kd.N_reads' h
  subst hn
  obtain ⟨ad, hA, _⟩ := hC.2.2 (by omega)
  subst hA
  obtain ⟨c0, hl, hF, hcc⟩ := Kd.N_get h [] (i : Int) (by omega) (by omega)
  rw [Int.toNat_natCast] at hF hcc
  rw [hx] at hF
  obtain ⟨B, k, rfl, hk, hB⟩ := Kd.FK_slice_open hF
  refine ⟨ad, B, k, rfl, ?_, hk, (Kd.FK_now hF).elim (fun B' h => by obtain ⟨k', e, _, hC'⟩ := h; simp only [List.cons.injEq, Value.slice.injEq, and_true] at e; obtain ⟨rfl, _, rfl⟩ := e; exact hC'), hF⟩
  have := hcc 0 _ rfl
  rwa [show i * bytesK.sz + 0 = i from by show i * 1 + 0 = i; omega] at this
/-- The places that are kept, so far. -/
def keepP (zi : Int) (k : Nat) (pl : List Pl) : List Pl := (pl.take k).filter fun q => decide (q.1.1 ≠ zi)
theorem keepP_no {zi : Int} {k : Nat} {pl : List Pl} (h : k < pl.length) (he : (pl.getD k ((0, 0), [])).1.1 = zi) : keepP zi (k + 1) pl = keepP zi k pl := by
  unfold keepP
  rw [List.getD_eq_getElem?_getD, List.getElem?_eq_getElem h] at he
  have he' : pl[k].1.1 = zi := he
  rw [List.take_succ_eq_append_getElem h, List.filter_append, List.filter_cons, if_neg (by rw [he']; simp), List.filter_nil, List.append_nil]
theorem keepP_yes {zi : Int} {k : Nat} {pl : List Pl} (h : k < pl.length) (he : (pl.getD k ((0, 0), [])).1.1 ≠ zi) : keepP zi (k + 1) pl = keepP zi k pl ++ [pl.getD k ((0, 0), [])] := by
  unfold keepP
  rw [List.getD_eq_getElem?_getD, List.getElem?_eq_getElem h] at he ⊢
  have he' : pl[k].1.1 ≠ zi := he
  rw [List.take_succ_eq_append_getElem h, List.filter_append, List.filter_cons, if_pos (by simpa using he'), List.filter_nil]
  rfl
theorem keepP_len {zi : Int} {k : Nat} {pl : List Pl} : (keepP zi k pl).length ≤ pl.length := by
  unfold keepP
  have h1 := List.length_filter_le (fun q : Pl => decide (q.1.1 ≠ zi)) (pl.take k)
  rw [List.length_take] at h1
  omega
theorem keepP_mem {zi : Int} {k : Nat} {pl : List Pl} {q : Pl} (h : q ∈ keepP zi k pl) : q ∈ pl ∧ q.1.1 ≠ zi := by
  unfold keepP at h
  rw [List.mem_filter] at h
  exact ⟨List.mem_of_mem_take h.1, by simpa using h.2⟩
/-- The new rows, while places are gone through. -/
structure KpM (w4 wq : World) (vp vb : Value) (pa : List (Int × Int)) (ba : List (List UInt8)) (E P2 E2 : Nat → Prop) : Prop where
  pls : Kd.N addrK 40 wq w4.heap.size P2 vp pa
  bls : Kd.N bytesK 32 wq w4.heap.size E2 vb ba
  pe : ∀ k, P2 k → ¬ E2 k
  pl : ∀ k, P2 k → w4.heap.size ≤ k ∧ k < wq.heap.size
  el : ∀ k, E2 k → (E k ∨ w4.heap.size ≤ k) ∧ k < wq.heap.size
  bel : Below w4.heap.size w4 wq
section
variable {w4 w w1 : World} {vp vb vp1 vb1 : Value} {pa pa1 : List (Int × Int)} {ba ba1 : List (List UInt8)} {E P2 E2 O : Nat → Prop}
theorem KpM.below (h : KpM w4 w vp vb pa ba E P2 E2) (hb : Below w.heap.size w w1) : KpM w4 w1 vp vb pa ba E P2 E2 :=
  ⟨Kd.N_below h.pls hb, Kd.N_below h.bls hb, h.pe, fun k hk => ⟨(h.pl k hk).1, Nat.lt_of_lt_of_le (h.pl k hk).2 hb.size⟩, fun k hk => ⟨(h.el k hk).1, Nat.lt_of_lt_of_le (h.el k hk).2 hb.size⟩, h.bel.trans (hb.mono h.bel.size)⟩
theorem KpM.addp (h : KpM w4 w vp vb pa ba E P2 E2) (hN : Kd.N addrK 40 w1 w4.heap.size (fun k => P2 k ∨ w.heap.size ≤ k) vp1 pa1) (hg : w.grownBy w1 vp.ownBlock) :
    KpM w4 w1 vp1 vb pa1 ba E (fun k => (P2 k ∨ w.heap.size ≤ k) ∧ k < w1.heap.size) E2 :=
  ⟨Kd.N_bound hN, Kd.N_grown h.bls hg (fun k hk e => h.pe k (h.pls.1 k e.symm) hk), fun k hk he => hk.1.elim (fun h1 => h.pe k h1 he) (fun h1 => by have := (h.el k he).2; omega),
    fun k hk => ⟨hk.1.elim (fun h1 => (h.pl k h1).1) (fun h1 => Nat.le_trans h.bel.size h1), hk.2⟩, fun k hk => ⟨(h.el k hk).1, Nat.lt_of_lt_of_le (h.el k hk).2 hg.size⟩,
    h.bel.grown hg h.bel.size (fun k hk => (h.pl k (h.pls.1 k hk)).1)⟩
theorem KpM.addb (h : KpM w4 w vp vb pa ba E P2 E2) (hN : Kd.N bytesK 32 w1 w4.heap.size (fun k => E2 k ∨ O k ∨ w.heap.size ≤ k) vb1 ba1) (hg : w.grownBy w1 vb.ownBlock) (hO : ∀ k, O k → E k ∧ k < w4.heap.size) :
    KpM w4 w1 vp vb1 pa ba1 E P2 (fun k => (E2 k ∨ O k ∨ w.heap.size ≤ k) ∧ k < w1.heap.size) := by
  refine ⟨Kd.N_grown h.pls hg (fun k hk e => h.pe k hk (h.bls.1 k e.symm)), Kd.N_bound hN, fun k hk he => ?_, fun k hk => ⟨(h.pl k hk).1, Nat.lt_of_lt_of_le (h.pl k hk).2 hg.size⟩,
    fun k hk => ⟨hk.1.elim (fun h1 => (h.el k h1).1) (fun h1 => h1.elim (fun h2 => .inl (hO k h2).1) (fun h2 => .inr (Nat.le_trans h.bel.size h2))), hk.2⟩, h.bel.grown hg h.bel.size (fun k hk => Kd.N_base h.bls k hk)⟩
  rcases he.1 with h1 | h1 | h1
  · exact h.pe k hk h1
  · have := (hO k h1).2; have := (h.pl k hk).1; omega
  · have := (h.pl k hk).2; omega
theorem RdM.turn {w4 wq : World} {xb base : Nat} {z zb b r : Int} {ps : List Prt} {v vp vb vp1 vb1 : Value} {pa pa1 : List (Int × Int)} {ba ba1 : List (List UInt8)} {D P E P2 E2 : Nat → Prop}
    (h : RdM w4 xb base z zb b r ps v vp vb pa ba D P E) (k : KpM w4 wq vp1 vb1 pa1 ba1 E P2 E2) (hbase : base ≤ w4.heap.size) : RdM wq xb base z zb b r ps v vp1 vb1 pa1 ba1 D P2 E2 := by
  have h1 := h.below k.bel
  have hxl := h.xlt
  refine ⟨h1.dev, Kd.N_lower k.pls hbase, Kd.N_lower k.bls hbase, fun j hd hp => ?_, fun j hd he => ?_, k.pe, h1.dl, fun j hj => ⟨Nat.le_trans hbase (k.pl j hj).1, (k.pl j hj).2⟩, fun j hj => ⟨(k.el j hj).1.elim (fun h2 => (h.el j h2).1) (fun h2 => Nat.le_trans hbase h2), (k.el j hj).2⟩, fun hx => ?_, fun hx => ?_⟩
  · have := (h.dl j hd).2; have := (k.pl j hp).1; omega
  · rcases (k.el j he).1 with h2 | h2
    · exact h.de j hd h2
    · have := (h.dl j hd).2; omega
  · have := (k.pl xb hx).1; omega
  · rcases (k.el xb hx).1 with h2 | h2
    · exact h.xe h2
    · omega
end
end Go.Proofs.Ytmkjglnggkkpeaa.Dv
