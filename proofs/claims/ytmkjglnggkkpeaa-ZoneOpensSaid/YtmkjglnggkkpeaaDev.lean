/- The device: its block, its row of parts, each part's bytes a row of its own. has, count, New. -/
import Derived.Test.YtmkjglnggkkpeaaWords2
import Derived.Test.YtmkjglnggkkpeaaRight
import Derived.Test.YtmkjglnggkkpeaaWKept
import Derived.Test.YtmkjglnggkkpeaaWMore
import Derived.WalkKit
import Derived.Deep.LoopGhost
import Derived.Deep.QuietTactic
import Derived.BigQuiet
import Derived.Deep.RegionHeld3
import Derived.Outline
namespace Go.Proofs.Ytmkjglnggkkpeaa.Dv
open Go.RowKit Go.Proofs.YtmkjglnggkkpeaaW.PrintWords Go.Proofs.YtmkjglnggkkpeaaW.PrintMore Go.Proofs.Ytmkjglnggkkpeaa.Base Go.Proofs.Ytmkjglnggkkpeaa.Shp
set_option linter.unusedVariables false
set_option linter.unusedSimpArgs false

/-- A part: its bytes, how many blocks are durable. -/
abbrev Prt := List UInt8 × Int
def partK : Kd Prt := Kd.pair (Kd.slice 5 byte) (num .i64)

/-- The world is as it was but for the blocks of S and what is new. -/
structure Chg (w w' : World) (S : Nat → Prop) : Prop where
  os : w'.os = w.os
  tape : w'.tape = w.tape
  output : w'.output = w.output
  kept : Kept w w' S
theorem Chg.refl (w : World) (S : Nat → Prop) : Chg w w S := ⟨rfl, rfl, rfl, Kept.refl _ _⟩
theorem Chg.of_below {w w' : World} (h : Below w.heap.size w w') (S : Nat → Prop) : Chg w w' S := ⟨h.os, h.tape, h.output, Kept.of_below h S⟩
theorem Chg.of_grown {w w' : World} {row : Option Nat} {S : Nat → Prop} (h : w.grownBy w' row) (hr : ∀ k, row = some k → S k) : Chg w w' S :=
  ⟨h.os, h.tape, h.output, Kept.of_grown h (Kept.refl _ _) (fun k hk => .inl (hr k hk))⟩
theorem Chg.trans {w w1 w2 : World} {S S2 : Nat → Prop} (h : Chg w w1 S) (k : Chg w1 w2 S2) (hs : ∀ j, S2 j → S j ∨ w.heap.size ≤ j) : Chg w w2 S :=
  ⟨k.os.trans h.os, k.tape.trans h.tape, k.output.trans h.output, h.kept.then_ k.kept hs⟩
theorem Chg.below {w w1 w2 : World} {S : Nat → Prop} (h : Chg w w1 S) (k : Below w1.heap.size w1 w2) : Chg w w2 S :=
  ⟨k.os.trans h.os, k.tape.trans h.tape, k.output.trans h.output, h.kept.below k⟩
theorem Chg.set {w w1 : World} {S : Nat → Prop} (h : Chg w w1 S) {p : Addr} (hp : S p.block ∨ w.heap.size ≤ p.block) (u : Value) : Chg w (w1.setCell p u) S :=
  ⟨h.os, h.tape, h.output, h.kept.setCell hp u⟩
theorem Chg.grown {w w1 w2 : World} {S : Nat → Prop} (h : Chg w w1 S) {row : Option Nat} (k : w1.grownBy w2 row) (hr : ∀ j, row = some j → S j ∨ w.heap.size ≤ j) : Chg w w2 S :=
  ⟨k.os.trans h.os, k.tape.trans h.tape, k.output.trans h.output, Kept.of_grown k h.kept hr⟩
theorem Chg.to_below {w w' : World} {S : Nat → Prop} (h : Chg w w' S) {B : Nat} (hB : B ≤ w.heap.size) (hs : ∀ k, S k → B ≤ k) : Below B w w' :=
  ⟨h.os, h.tape, h.output, h.kept.1, fun k hk => h.kept.2 k (by omega) (fun h2 => by have := hs k h2; omega)⟩

/-- A device: its block xb, its parts' blocks all in ok and from base on. -/
structure Dev (w : World) (xb base : Nat) (ok : Nat → Prop) (z zb b r : Int) (ps : List Prt) (v : Value) : Prop where
  blk : w.heap[xb]? = some (.cells #[.int .i64 z, .int .i64 zb, .int .i64 b, .int .i64 r, v] 70 (0, 0))
  row : Kd.S partK 73 w base ok v ps
section
variable {w w1 : World} {xb base : Nat} {ok : Nat → Prop} {z zb b r : Int} {ps : List Prt} {v : Value}
theorem Dev.chg (h : Dev w xb base ok z zb b r ps v) {S : Nat → Prop} (hc : Chg w w1 S) (hx : ¬ S xb) (hs : ∀ k, ok k → ¬ S k) : Dev w1 xb base ok z zb b r ps v :=
  ⟨blk_kept h.blk hc.kept hx, Kd.S_kept h.row hc.kept hs⟩
theorem Dev.below (h : Dev w xb base ok z zb b r ps v) (hb : Below w.heap.size w w1) : Dev w1 xb base ok z zb b r ps v :=
  h.chg (Chg.of_below hb (fun _ => False)) (fun h => h) (fun _ _ h => h)
theorem Dev.cells (h : Dev w xb base ok z zb b r ps v) : w.cell? ⟨xb, 0, none⟩ = some (.int .i64 z) ∧ w.cell? ⟨xb, 1, none⟩ = some (.int .i64 zb) ∧ w.cell? ⟨xb, 2, none⟩ = some (.int .i64 b) ∧ w.cell? ⟨xb, 3, none⟩ = some (.int .i64 r) ∧ w.cell? ⟨xb, 4, none⟩ = some v := by
  have := h.blk
  exact ⟨by simp [World.cell?, this], by simp [World.cell?, this], by simp [World.cell?, this], by simp [World.cell?, this], by simp [World.cell?, this]⟩
/-- The parts' slice. -/
theorem Dev.form (h : Dev w xb base ok z zb b r ps v) : ∃ A n c, v = .slice A n c ∧ n = ps.length ∧ n ≤ c ∧ partK.C w A n ps ∧ n ≤ 9223372036854775807 := by
  obtain ⟨A, c, rfl, h2, h3⟩ := Kd.R_reads (Kd.S_R h.row)
  exact ⟨A, _, c, rfl, rfl, h2, h3, (C_len h3).2⟩
end
theorem Dev.set {w : World} {xb base : Nat} {ok : Nat → Prop} {z zb b r : Int} {ps : List Prt} {v : Value} (h : Dev w xb base ok z zb b r ps v) {g t : Nat} {cells : Array Value} (hb : w.heap[g]? = some (.cells cells t (0, 0))) (ht : ∀ q, q ∈ 73 :: partK.E → q ≠ t) (hx : xb ≠ g) (j : Nat) (u : Value) : Dev (w.setCell ⟨g, j, none⟩ u) xb base ok z zb b r ps v :=
  ⟨blk_far h.blk hx u, Kd.S_set h.row hb ht j u⟩
theorem partK_open {w : World} {p : Prt} {c : List Value} (h : partK.K w p c) : ∃ A k, c = [.slice A p.1.length k, .int .i64 p.2] ∧ p.1.length ≤ k ∧ byte.C w A p.1.length p.1 ∧ IsI p.2 := by
  obtain ⟨c0, c1, rfl, ⟨A, k, rfl, h1, h2⟩, ⟨rfl, h3⟩⟩ := h
  exact ⟨A, k, rfl, h1, h2, wf_i64 h3⟩

def hasB (n : Nat) (i : Int) : Bool := decide (0 ≤ i ∧ i < (n : Int))
theorem hasB_true {n : Nat} {i : Int} (h0 : 0 ≤ i) (h1 : i < (n : Int)) : hasB n i = true := decide_eq_true ⟨h0, h1⟩
theorem hasB_false {n : Nat} {i : Int} (h : ¬ (0 ≤ i ∧ i < (n : Int))) : hasB n i = false := decide_eq_false h
theorem has_calls (xb base : Nat) (ok : Nat → Prop) (z zb b r : Int) (ps : List Prt) (v : Value) (i : Int) (hi : IsI i) (w : World) (h : Dev w xb base ok z zb b r ps v) :
    Calls Try.prog 34 #[.pointer (some ⟨xb, 0, none⟩), .int .i64 i] w fun e w' => e = .returned (.bool (hasB ps.length i)) ∧ w = w' := by
  obtain ⟨c0, c1, c2, c3, c4⟩ := h.cells
  obtain ⟨A, n, c, rfl, hn, hc, _, hmax⟩ := h.form
  have HN := Aside0.mk hn
  clear h hn c0 c1 c2 c3
  obtain ⟨hi1, hi2⟩ := hi
  have HV := Aside0.mk (show hasB ps.length i = hasB n i by rw [HN.out])
  by_cases h0 : 0 ≤ i
  · by_cases h1 : i < (n : Int)
    · have hd : decide (i < (n : Int)) = true := decide_eq_true h1
      have HR := Aside0.mk (hasB_true h0 h1)
      go_enter Try.func34, Try.ntmps34
      go_wp2
      go_ret
      exact ⟨by rw [HV.out, HR.out]; rfl, rfl⟩
    · have hd : decide (i < (n : Int)) = false := decide_eq_false h1
      have HR := Aside0.mk (hasB_false (n := n) (i := i) (fun h => h1 h.2))
      go_enter Try.func34, Try.ntmps34
      go_wp2
      go_ret
      exact ⟨by rw [HV.out, HR.out]; rfl, rfl⟩
  · have h0' : i < 0 := by omega
    have HR := Aside0.mk (hasB_false (n := n) (i := i) (fun h => h0 h.1))
    go_enter Try.func34, Try.ntmps34
    go_wp2
    go_ret
    exact ⟨by rw [HV.out, HR.out]; rfl, rfl⟩
theorem count_calls (xb base : Nat) (ok : Nat → Prop) (z zb b r : Int) (hb1 : 0 < b) (hb2 : b ≤ 9223372036854775807) (ps : List Prt) (v : Value) (A : Option Addr) (n k : Nat) (hnm : n ≤ 9223372036854775807) (du : Int) (w : World) (h : Dev w xb base ok z zb b r ps v) :
    Calls Try.prog 35 #[.pointer (some ⟨xb, 0, none⟩), .agg #[.slice A n k, .int .i64 du]] w fun e w' => e = .returned (.int .i64 ((n : Int) / b)) ∧ Below w.heap.size w w' := by
  have hA := Aside0.mk (alloc_below w (.cells #[.slice A n k, .int .i64 du] 73))
  obtain ⟨c0, c1, c2, c3, c4⟩ := (h.below hA.out).cells
  clear h c0 c1 c3 c4
  have hq1 : 0 ≤ (n : Int) / b := Int.ediv_nonneg (by omega) (by omega)
  have hq2 : (n : Int) / b ≤ (n : Int) := Int.ediv_le_self _ (by omega)
  have hb0 : b ≠ 0 := by omega
  have htd : (n : Int).tdiv b = (n : Int) / b := Int.tdiv_eq_ediv_of_nonneg (by omega)
  go_enter Try.func35, Try.ntmps35
  go_wp2
  go_quiet (fail)
  have HB := Aside0.mk (pw_below_drewN hA.out nq)
  go_wp2
  go_ret
  exact ⟨rfl, HB.out⟩

/-- A part: where it lies, what it leads to, and what the row is once it was written. -/
theorem Dev.part {w : World} {xb base : Nat} {ok : Nat → Prop} {z zb b r : Int} {ps : List Prt} {v : Value} (h : Dev w xb base ok z zb b r ps v) {j : Nat} (hj : j < ps.length) {p : Prt} (hp : ps.getD j ([], 0) = p) :
    ∃ ad cap A k oki, v = .slice (some ad) ps.length cap ∧ w.cell? (ad.add (j * 2)) = some (.slice A p.1.length k) ∧ w.cell? ⟨(ad.add (j * 2)).block, (ad.add (j * 2)).off + 1, none⟩ = some (.int .i64 p.2) ∧ p.1.length ≤ k ∧ IsI p.2 ∧ byte.C w A p.1.length p.1 ∧
      w.frozen? (ad.add (j * 2)) = false ∧ w.frozen? ⟨(ad.add (j * 2)).block, (ad.add (j * 2)).off + 1, none⟩ = false ∧ ok ad.block ∧ ad.block ≠ xb ∧ ad.block < w.heap.size ∧ byte.R 5 w base oki (.slice A p.1.length k) p.1 ∧ (∀ k, oki k → ok k ∧ k ≠ ad.block) ∧
      (∀ (w1 : World) (v1 : Value) (bs : List UInt8), w.grownBy w1 (Value.slice A p.1.length k).ownBlock → byte.R 5 w1 base (fun k => oki k ∨ w.heap.size ≤ k) v1 bs → (∀ k, w.heap.size ≤ k → ok k) →
        Kd.S partK 73 (w1.setCell (ad.add (j * 2)) v1) base ok v (ps.set j (bs, p.2)) ∧ w1.grownBy (w1.setCell (ad.add (j * 2)) v1) (some ad.block) ∧ w1.frozen? (ad.add (j * 2)) = false ∧ w1.cell? (ad.add (j * 2)) = some (.slice A p.1.length k)) ∧
      (∀ d : Int, IsI d → Kd.S partK 73 (w.setCell ⟨(ad.add (j * 2)).block, (ad.add (j * 2)).off + 1, none⟩ (.int .i64 d)) base ok v (ps.set j (p.1, d)) ∧ w.grownBy (w.setCell ⟨(ad.add (j * 2)).block, (ad.add (j * 2)).off + 1, none⟩ (.int .i64 d)) (some ad.block)) := by
  obtain ⟨A0, cap, hv, hcap, hC⟩ := Kd.R_reads (Kd.S_R h.row)
  obtain ⟨ad, c0, e0, _, hK0, hc0⟩ := ReadsRow.get_ hC ([], 0) (j : Int) (by omega) (by omega)
  subst e0
  subst hv
  obtain ⟨g, rfl⟩ := Kd.R_head (Kd.S_R h.row)
  obtain ⟨oki, c, hcl, hM, hcc, hfr, hoki, hH⟩ := Kd.S_elem h.row ([], 0) (j : Int) (by omega) (by omega)
  rw [Int.toNat_natCast] at hM hcc hfr
  have hs : partK.sz = 2 := rfl
  rw [hs] at hcc hfr hcl
  rw [hp] at hM
  have hMK := partK.K_of_M hM
  obtain ⟨A, k, rfl, h1, h2, h3⟩ := partK_open hMK
  have ea : (⟨g, 0, none⟩ : Addr).add (j * 2) = ⟨g, j * 2, none⟩ := by rw [add_plain]
  have hgo : ok g := (Kd.S_R h.row).1 g (by simp [Value.ownBlock])
  have hgl : g < w.heap.size := Kd.S_lt h.row g (by simp [Value.ownBlock])
  have hgx : g ≠ xb := by
    intro e
    obtain ⟨cells, hc⟩ := Kd.S_typed h.row g (by simp [Value.ownBlock])
    rw [e, h.blk] at hc
    simp at hc
  obtain ⟨c0, c1, ec, ⟨v0, rfl, hR⟩, ⟨rfl, _⟩⟩ := hM
  simp only [List.cons_append, List.nil_append, List.cons.injEq, and_true] at ec
  obtain ⟨rfl, _⟩ := ec
  have hown : ∀ k', (Value.slice A p.1.length k).ownBlock = some k' → oki k' := hR.1
  have hgown : some g ≠ (Value.slice A p.1.length k).ownBlock := fun e => (hoki g (hown g e.symm)).2 rfl
  have hz0 : (0 : Int) ≤ (j : Int) := by omega
  have hz1 : (j : Int) < (ps.length : Int) := by omega
  have e1 : ∀ d : Int, IsI d → (Lit.int .i64 d).wf = true := fun d hd => by
    obtain ⟨d1, d2⟩ := hd
    simp [Lit.wf, IntKind.min, IntKind.max, IntKind.bits, IntKind.signed]
    omega
  refine ⟨⟨g, 0, none⟩, cap, A, k, oki, rfl, ?_, ?_, h1, h3, h2, ?_, ?_, hgo, hgx, hgl, hR, hoki, ?_, ?_⟩
  · rw [ea]; exact hcc 0 _ rfl
  · rw [ea]; exact hcc 1 _ rfl
  · rw [ea]; exact hfr 0
  · rw [ea]; exact hfr 1
  · rw [ea]
    intro w1 v1 bs hg hR1 hfresh
    have hb1 : w1.heap[g]? = w.heap[g]? := hg.block g hgl hgown
    have H1 := Kd.H_grown (Kd.H_widen hH) hg (fun k' hk' => .inl (hown k' hk'))
    obtain ⟨H2, hg2⟩ := Kd.H_seg H1 hz0 hz1 (seg := [v1]) (j := 0) (by rw [hs]; exact Nat.le_succ 1) (fun q hq => by rw [List.mem_singleton.1 hq]; exact (Kd.R_val hR1).2)
    rw [Int.toNat_natCast, hs] at H2 hg2
    have es : w1.setCells g (j * 2 + 0) [v1] = w1.setCell ⟨g, j * 2, none⟩ v1 := rfl
    rw [es] at H2 hg2
    refine ⟨?_, hg2, ?_, ?_⟩
    · have := Kd.H_back H2 (x' := (bs, p.2)) (okp := fun k => oki k ∨ w.heap.size ≤ k)
        ⟨[v1], [.int .i64 p.2], rfl, ⟨v1, rfl, Kd.R_far hR1 (fun k hk => by
          rcases hk with hk | hk
          · exact (hoki k hk).2
          · show k ≠ g; omega) _⟩, ⟨rfl, e1 _ h3⟩⟩ (fun k hk => hk.imp id (fun h => ⟨hfresh k h, h⟩))
      rwa [Int.toNat_natCast] at this
    · rw [World.frozen?_of_block hb1]; exact hfr 0
    · rw [World.cell?_of_block hb1]; exact hcc 0 _ rfl
  · rw [ea]
    intro d hd
    obtain ⟨H2, hg2⟩ := Kd.H_seg hH hz0 hz1 (seg := [.int .i64 d]) (j := 1) (by rw [hs]; exact Nat.le_refl 2) (fun q hq => by rw [List.mem_singleton.1 hq]; rfl)
    rw [Int.toNat_natCast, hs] at H2 hg2
    have es : w.setCells g (j * 2 + 1) [.int .i64 d] = w.setCell ⟨g, j * 2 + 1, none⟩ (.int .i64 d) := rfl
    rw [es] at H2 hg2
    refine ⟨?_, hg2⟩
    have := Kd.H_back H2 (x' := (p.1, d)) (okp := oki) ⟨[_], [.int .i64 d], rfl, ⟨_, rfl, Kd.R_far hR (fun k hk => (hoki k hk).2) _⟩, ⟨rfl, e1 _ hd⟩⟩ (fun k hk => hk)
    rwa [Int.toNat_natCast] at this
end Go.Proofs.Ytmkjglnggkkpeaa.Dv
