/- The document's device: its block, its row of zones; what it leads to is only read. Lent, New, Reset, At. -/
import Derived.Test.YtmkjglnggkkpeaaReadsMem
namespace Go.Proofs.Ytmkjglnggkkpeaa.Dv
open Go.RowKit Go.Proofs.YtmkjglnggkkpeaaW.PrintWords Go.Proofs.YtmkjglnggkkpeaaW.PrintMore Go.Proofs.Ytmkjglnggkkpeaa.Base Go.Proofs.Ytmkjglnggkkpeaa.Shp
set_option linter.unusedVariables false
set_option linter.unusedSimpArgs false
/-- A zone: its blocks, how many are durable. -/
abbrev Zn := List (List UInt8) × Int
def blocksK : Kd (List (List UInt8)) := Kd.slice 32 bytesK
def zoneK : Kd Zn := Kd.pair blocksK (num .i64)
theorem heap_blocks : Kd.Heap blocksK := Kd.heap_slice _ heap_bytes
theorem heap_zone : Kd.Heap zoneK := Kd.heap_pair heap_blocks (heap_num _)
structure RDv (w : World) (rb base : Nat) (ok : Nat → Prop) (z zb b r : Int) (zs : List Zn) (v : Value) : Prop where
  blk : w.heap[rb]? = some (.cells #[.int .i64 z, .int .i64 zb, .int .i64 b, .int .i64 r, v] 78 (0, 0))
  row : Kd.N zoneK 55 w base ok v zs
section
variable {w w1 : World} {rb base : Nat} {ok ok' : Nat → Prop} {z zb b r : Int} {zs : List Zn} {v : Value}
theorem RDv.chg (h : RDv w rb base ok z zb b r zs v) {S : Nat → Prop} (hc : Chg w w1 S) (hx : ¬ S rb) (hs : ∀ k, ok k → ¬ S k) : RDv w1 rb base ok z zb b r zs v :=
  ⟨blk_kept h.blk hc.kept hx, Kd.N_kept h.row hc.kept hs⟩
theorem RDv.below (h : RDv w rb base ok z zb b r zs v) (hb : Below w.heap.size w w1) : RDv w1 rb base ok z zb b r zs v :=
  h.chg (Chg.of_below hb (fun _ => False)) (fun h => h) (fun _ _ h => h)
theorem RDv.mono (h : RDv w rb base ok z zb b r zs v) (hk : ∀ k, ok k → k < w.heap.size → ok' k) : RDv w rb base ok' z zb b r zs v :=
  ⟨h.blk, Kd.N_mono (Kd.N_bound h.row) (fun k hh => hk k hh.1 hh.2)⟩
theorem RDv.cells (h : RDv w rb base ok z zb b r zs v) : w.cell? ⟨rb, 0, none⟩ = some (.int .i64 z) ∧ w.cell? ⟨rb, 1, none⟩ = some (.int .i64 zb) ∧ w.cell? ⟨rb, 2, none⟩ = some (.int .i64 b) ∧ w.cell? ⟨rb, 3, none⟩ = some (.int .i64 r) ∧ w.cell? ⟨rb, 4, none⟩ = some v := by
  have := h.blk
  exact ⟨by simp [World.cell?, this], by simp [World.cell?, this], by simp [World.cell?, this], by simp [World.cell?, this], by simp [World.cell?, this]⟩
theorem RDv.xlt (h : RDv w rb base ok z zb b r zs v) : rb < w.heap.size := (Array.getElem?_eq_some_iff.1 h.blk).1
/-- The zones' slice. -/
theorem RDv.form (h : RDv w rb base ok z zb b r zs v) : ∃ A n c, v = .slice A n c ∧ n = zs.length ∧ n ≤ c ∧ n ≤ 9223372036854775807 := by
  obtain ⟨A, c, rfl, h2, h3⟩ := Kd.N_reads h.row
  exact ⟨A, _, c, rfl, rfl, h2, (C_len h3).2⟩
end
theorem zone_K {w : World} {bs : List (List UInt8)} {d : Int} {A : Option Addr} {c : Nat} {ok : Nat → Prop} (hf : Kd.F bytesK w ok A bs.length bs) (hc : bs.length ≤ c) (hd : IsI d) : Kd.FK zoneK w ok (bs, d) [.slice A bs.length c, .int .i64 d] := by
  obtain ⟨d1, d2⟩ := hd
  exact fun W' hW => ⟨[_], [_], rfl, ⟨A, c, rfl, hc, hf W' hW⟩, ⟨rfl, by simp [Lit.wf, IntKind.min, IntKind.max, IntKind.bits, IntKind.signed]; omega⟩⟩
/-- A zone's cells, opened. -/
theorem zone_open {w : World} {p : Zn} {c : List Value} {ok : Nat → Prop} (h : Kd.FK zoneK w ok p c) : ∃ A k, c = [.slice A p.1.length k, .int .i64 p.2] ∧ p.1.length ≤ k ∧ Kd.F bytesK w ok A p.1.length p.1 ∧ IsI p.2 := by
  obtain ⟨c0, c1, rfl, ⟨A, k, rfl, h1, h2⟩, ⟨rfl, h3⟩⟩ := Kd.FK_now h
  refine ⟨A, k, rfl, h1, fun W' hW => ?_, wf_i64 h3⟩
  obtain ⟨c0', c1', e, ⟨A', k', e', h1', h2'⟩, _⟩ := h W' hW
  subst e'
  simp only [List.cons_append, List.nil_append, List.cons.injEq, Value.slice.injEq] at e
  obtain ⟨⟨rfl, _, rfl⟩, _⟩ := e
  exact h2'
/-- A zone: where it lies; what the row is once it was written. -/
theorem RDv.zone {w : World} {rb base : Nat} {ok : Nat → Prop} {z zb b r : Int} {zs : List Zn} {v : Value} (h : RDv w rb base ok z zb b r zs v) {j : Nat} (hj : j < zs.length) {p : Zn} (hp : zs.getD j ([], 0) = p) :
    ∃ ad cp A k, v = .slice (some ad) zs.length cp ∧ w.cell? (ad.add (j * 2)) = some (.slice A p.1.length k) ∧ w.cell? ⟨(ad.add (j * 2)).block, (ad.add (j * 2)).off + 1, none⟩ = some (.int .i64 p.2) ∧ p.1.length ≤ k ∧ IsI p.2 ∧ Kd.F bytesK w (fun k => ok k ∧ k ≠ ad.block) A p.1.length p.1 ∧
      w.frozen? (ad.add (j * 2)) = false ∧ w.frozen? ⟨(ad.add (j * 2)).block, (ad.add (j * 2)).off + 1, none⟩ = false ∧ ok ad.block ∧ ad.block ≠ rb ∧ ad.block < w.heap.size ∧
      (∀ (w1 : World) (A1 : Option Addr) (c1 : Nat) (bs : List (List UInt8)) (okp : Nat → Prop), Below w.heap.size w w1 → Kd.F bytesK w1 okp A1 bs.length bs → bs.length ≤ c1 → (∀ k, okp k → ok k ∧ k ≠ ad.block) →
        RDv (w1.setCell (ad.add (j * 2)) (.slice A1 bs.length c1)) rb base ok z zb b r (zs.set j (bs, p.2)) v) ∧
      (∀ d : Int, IsI d → RDv (w.setCell ⟨(ad.add (j * 2)).block, (ad.add (j * 2)).off + 1, none⟩ (.int .i64 d)) rb base ok z zb b r (zs.set j (p.1, d)) v) ∧
      (∀ (w1 : World) (A1 : Option Addr) (c1 : Nat) (bs : List (List UInt8)) (d : Int) (okp : Nat → Prop), Below w.heap.size w w1 → IsI d → Kd.F bytesK w1 okp A1 bs.length bs → bs.length ≤ c1 → (∀ k, okp k → ok k ∧ k ≠ ad.block) →
        RDv ((w1.setCell (ad.add (j * 2)) (.slice A1 bs.length c1)).setCell ⟨(ad.add (j * 2)).block, (ad.add (j * 2)).off + 1, none⟩ (.int .i64 d)) rb base ok z zb b r (zs.set j (bs, d)) v) := by
  obtain ⟨g, cp, hv, hbg, hgl, cells, hcells⟩ := Kd.N_form h.row (by omega)
  subst hv
  have hgo : ok g := h.row.1 g (by simp [Value.ownBlock])
  have hgx : g ≠ rb := by
    intro e
    rw [e, h.blk] at hcells
    simp at hcells
  have hs : zoneK.sz = 2 := rfl
  have ea : (⟨g, 0, none⟩ : Addr).add (j * 2) = ⟨g, j * 2, none⟩ := by rw [add_plain]
  obtain ⟨c, hcl, hM, hcc, hfr⟩ := Kd.N_elem h.row ([], 0) (j : Int) (by omega) (by omega)
  rw [Int.toNat_natCast] at hM hcc hfr
  rw [hs] at hcc hfr hcl
  rw [hp] at hM
  obtain ⟨A, k, rfl, h1, h2, h3⟩ := zone_open hM
  have put : ∀ (w1 : World) (A1 : Option Addr) (c1 : Nat) (bs : List (List UInt8)) (d : Int) (okp : Nat → Prop), Below w.heap.size w w1 → IsI d → Kd.F bytesK w1 okp A1 bs.length bs → bs.length ≤ c1 → (∀ k, okp k → ok k ∧ k ≠ g) →
      RDv ((w1.setCell (((⟨g, 0, none⟩ : Addr)).add (j * 2)) (.slice A1 bs.length c1)).setCell ⟨((⟨g, 0, none⟩ : Addr).add (j * 2)).block, ((⟨g, 0, none⟩ : Addr).add (j * 2)).off + 1, none⟩ (.int .i64 d)) rb base ok z zb b r (zs.set j (bs, d)) (.slice (some ⟨g, 0, none⟩) zs.length cp) := by
    intro w1 A1 c1 bs d okp hb hd hf hc hok
    have h' := h.below hb
    obtain ⟨cc, hcl', _, hcc', _⟩ := Kd.N_elem h'.row ([], 0) (j : Int) (by omega) (by omega)
    have := (Kd.N_seg h'.row (j : Int) (by omega) (by omega) (c := cc) (seg := [.slice A1 bs.length c1, .int .i64 d]) (j := 0) hcl' hcc' (by rw [hs]; exact Nat.le_refl 2) (x' := (bs, d)) (okp := okp) (by
      rw [List.take_zero, List.nil_append, List.drop_eq_nil_of_le (by rw [hcl', hs]; exact Nat.le_refl 2), List.append_nil]
      exact zone_K hf hc hd) hok).1
    rw [Int.toNat_natCast, hs] at this
    rw [ea]
    exact ⟨blk_far (blk_far h'.blk hgx.symm _) hgx.symm _, this⟩
  refine ⟨⟨g, 0, none⟩, cp, A, k, rfl, ?_, ?_, h1, h3, h2, ?_, ?_, hgo, hgx, hgl, ?_, ?_, put⟩
  · rw [ea]; exact hcc 0 _ rfl
  · rw [ea]; exact hcc 1 _ rfl
  · rw [ea]; exact hfr 0
  · rw [ea]; exact hfr 1
  · rw [ea]
    intro w1 A1 c1 bs okp hb hf hc hok
    have h' := h.below hb
    have := (Kd.N_seg h'.row (j : Int) (by omega) (by omega) (c := [.slice A p.1.length k, .int .i64 p.2]) (seg := [.slice A1 bs.length c1]) (j := 0) (by rw [hs]; rfl) (fun i u hu => by
        rw [Int.toNat_natCast, hs]
        exact (pw_cell_below hb (hcc i u hu))) (by rw [hs]; exact Nat.le_succ 1) (x' := (bs, p.2)) (okp := okp) (zone_K hf hc h3) hok).1
    rw [Int.toNat_natCast, hs] at this
    exact ⟨blk_far h'.blk hgx.symm _, this⟩
  · rw [ea]
    intro d hd
    have := (Kd.N_seg h.row (j : Int) (by omega) (by omega) (c := [.slice A p.1.length k, .int .i64 p.2]) (seg := [.int .i64 d]) (j := 1) (by rw [hs]; rfl) (fun i u hu => by
        rw [Int.toNat_natCast, hs]
        exact hcc i u hu) (by rw [hs]; exact Nat.le_refl 2) (x' := (p.1, d)) (okp := fun k => ok k ∧ k ≠ g) (zone_K h2 h1 hd) (fun k hk => hk)).1
    rw [Int.toNat_natCast, hs] at this
    exact ⟨blk_far h.blk hgx.symm _, this⟩
end Go.Proofs.Ytmkjglnggkkpeaa.Dv
