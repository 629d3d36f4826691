/- Part 1 of 5 of the proof of CkptSaves: Base, Words2, CrcPure, RecPure, Wire, CkptPure, CkptCmp, CkptItm, CkptMay. -/
import Derived.Test.YtkmeipblgdahoaaWWords
import Derived.Deep.Slices
import Derived.ChangeSame
import Derived.ChangeArms
import Derived.Lib.SmallJoins
import Derived.Test.YtkmeipblgdahoaaProg
import Derived.Test.YtkmeipblgdahoaaWMore
import Derived.Test.YtkmeipblgdahoaaWNEv
import Derived.Test.YtkmeipblgdahoaaWShare
import Derived.WalkKit
import Derived.KernelRfl
import Derived.Laws.BitsAllLaws
import Derived.Laws.BitsLemmas
import Derived.IntWalk
import Derived.Deep.LoopGhost
import Derived.Deep.QuietTactic
import Derived.BigQuiet
import Derived.WideLaws
import Derived.Outline
import Derived.WideShapes
namespace Go.Proofs.Ytkmeipblgdahoaa.Base
open Go.RowKit Go.Deep Go.Proofs.YtkmeipblgdahoaaW.PrintWords
set_option linter.unusedVariables false
/-- A whole number within its kind. -/
def num (k : IntKind) : Kd Int where
  sz := 1
  E := []
  K := fun _ x cs => cs = [.int k x] ∧ (Lit.int k x).wf = true
  M := fun _ _ _ x cs => cs = [.int k x] ∧ (Lit.int k x).wf = true
  K_len := fun h => by rw [h.1]; rfl
  K_one := fun h u hu => by
    rw [h.1] at hu
    rw [List.mem_singleton.1 hu]
    rfl
  K_below := fun _ h => h
  K_of_M := fun h => h
  M_mono := fun _ h => h
  M_bound := fun h => h
  M_move := fun _ h => h
  M_lower := fun _ h => h
/-- A whole number of an unsigned kind, as a natural number. -/
def nat (k : IntKind) : Kd Nat where
  sz := 1
  E := []
  K := fun _ x cs => cs = [.int k (x : Int)] ∧ (Lit.int k (x : Int)).wf = true
  M := fun _ _ _ x cs => cs = [.int k (x : Int)] ∧ (Lit.int k (x : Int)).wf = true
  K_len := fun h => by rw [h.1]; rfl
  K_one := fun h u hu => by
    rw [h.1] at hu
    rw [List.mem_singleton.1 hu]
    rfl
  K_below := fun _ h => h
  K_of_M := fun h => h
  M_mono := fun _ h => h
  M_bound := fun h => h
  M_move := fun _ h => h
  M_lower := fun _ h => h
/-- A byte. -/
def byte : Kd UInt8 := Kd.scalar (fun b => .int .u8 (b.toNat : Int)) (fun _ => rfl)

theorem wf_u8 {x : Int} (h : (Lit.int .u8 x).wf = true) : 0 ≤ x ∧ x < 256 := by 
  have h' : 0 ≤ x ∧ x ≤ 255 := by simpa [Lit.wf, IntKind.min, IntKind.max, IntKind.bits, IntKind.signed] using h
  omega

theorem byte_at {w : World} {A : Option Addr} {n : Nat} {xs : List UInt8} (h : byte.C w A n xs) (i : Nat) (hi : i < n) :
    ∃ ad, A = some ad ∧ w.cell? (ad.add i) = some (.int .u8 ((xs.getD i 0).toNat : Int)) := by
  obtain ⟨ad, c, e, _, hK, hc⟩ := ReadsRow.get_ h 0 (i : Int) (by omega) (by omega)
  have hK' : c = [.int .u8 ((xs.getD i 0).toNat : Int)] := hK
  subst hK'
  refine ⟨ad, e, ?_⟩
  have := hc 0 _ rfl
  rwa [Int.toNat_natCast, show i * byte.sz + 0 = i from by show i * 1 + 0 = i; omega] at this
theorem bytes_at {e : Nat} {w : World} {A : Option Addr} {n : Nat} {xss : List (List UInt8)} (h : (Kd.slice e byte).C w A n xss) (i : Nat) (hi : i < n) :
    ∃ ad A0 c0, A = some ad ∧ w.cell? (ad.add i) = some (.slice A0 (xss.getD i []).length c0) ∧ (xss.getD i []).length ≤ c0 ∧ byte.C w A0 (xss.getD i []).length (xss.getD i []) := by
  obtain ⟨ad, c, e, _, hK, hc⟩ := ReadsRow.get_ h [] (i : Int) (by omega) (by omega)
  obtain ⟨A0, c0, rfl, h1, h2⟩ := hK
  rw [Int.toNat_natCast] at hc h1 h2
  refine ⟨ad, A0, c0, e, ?_, h1, h2⟩
  have := hc 0 _ rfl
  rwa [show i * (Kd.slice _ byte).sz + 0 = i from by show i * 1 + 0 = i; omega] at this
theorem C_len {α : Type} {d : Kd α} {w : World} {A : Option Addr} {n : Nat} {xs : List α} (h : d.C w A n xs) : xs.length = n ∧ n ≤ 9223372036854775807 := ⟨h.1, h.2.1⟩
theorem drop_getD {α : Type} (xs : List α) (i : Nat) (d : α) (h : i < xs.length) : xs.drop i = xs.getD i d :: xs.drop (i + 1) := by
  rw [List.drop_eq_getElem_cons h, List.getD_eq_getElem?_getD, List.getElem?_eq_getElem h]; rfl

theorem wf_u32' {x : Int} (h : (Lit.int .u32 x).wf = true) : 0 ≤ x ∧ x < 4294967296 := by
  have h' : 0 ≤ x ∧ x ≤ 4294967295 := by simpa [Lit.wf, IntKind.min, IntKind.max, IntKind.bits, IntKind.signed] using h
  omega
theorem wf_u64' {x : Int} (h : (Lit.int .u64 x).wf = true) : 0 ≤ x ∧ x < 18446744073709551616 := by
  have h' : 0 ≤ x ∧ x ≤ 18446744073709551615 := by simpa [Lit.wf, IntKind.min, IntKind.max, IntKind.bits, IntKind.signed] using h
  omega

/-- Cells that are so many values, each of kind d. -/
def Each {α : Type} (d : Kd α) (w : World) : List α → List Value → Prop
  | [], [] => True
  | x :: xs, v :: vs => d.K w x [v] ∧ Each d w xs vs
  | _, _ => False
theorem Each.len {α : Type} {d : Kd α} {w : World} : ∀ {xs : List α} {vs : List Value}, Each d w xs vs → vs.length = xs.length
  | [], [], _ => rfl
  | _ :: _, _ :: _, h => by simp [Each.len h.2]
theorem Each.get {α : Type} {d : Kd α} {w : World} : ∀ {xs : List α} {vs : List Value}, Each d w xs vs → ∀ (j : Nat) (x : α), xs[j]? = some x → ∃ v, vs[j]? = some v ∧ d.K w x [v]
  | x :: xs, v :: vs, h, 0, y, hy => ⟨v, rfl, by simp at hy; subst hy; exact h.1⟩
  | x :: xs, v :: vs, h, j + 1, y, hy => by
    obtain ⟨u, hu, hk⟩ := Each.get h.2 j y (by simpa using hy)
    exact ⟨u, by simpa using hu, hk⟩
  | [], [], _, j, y, hy => by simp at hy
theorem C_of_block {α : Type} {d : Kd α} (hs : d.sz = 1) {w : World} {b : Nat} {vs : Array Value} {t : TypeId} {fr : Nat × Nat} {xs : List α} (hb : w.heap[b]? = some (.cells vs t fr)) (h : Each d w xs vs.toList)
    (hm : xs.length ≤ 9223372036854775807) : d.C w (some ⟨b, 0, none⟩) xs.length xs := by
  refine ⟨rfl, hm, fun _ => ⟨_, rfl, fun j x hj => ?_⟩⟩
  obtain ⟨v, hv, hk⟩ := h.get j x hj
  refine ⟨[v], by rw [hs]; rfl, hk, fun i u hu => ?_⟩
  have hi : i = 0 := by have := (List.getElem?_eq_some_iff.1 hu).1; simp at this; exact this
  subst hi
  have hu' : v = u := by simpa using hu
  subst hu'
  rw [hs, Nat.mul_one, Nat.add_zero, add_plain]
  rw [Array.getElem?_toList] at hv
  simp [World.cell?, hb, hv]
theorem Each.mono {α : Type} {d : Kd α} {w w1 : World} (hb : Below w.heap.size w w1) : ∀ {xs : List α} {vs : List Value}, Each d w xs vs → Each d w1 xs vs
  | [], [], _ => trivial
  | _ :: _, _ :: _, h => ⟨d.K_below hb h.1, Each.mono hb h.2⟩
theorem alloc_below (w : World) (o : Obj) : Below w.heap.size w (w.alloc o) := (Below.refl _ _).alloc (Nat.le_refl _) o
/-- What a literal lays. -/
theorem C_lit {α : Type} {d : Kd α} (hs : d.sz = 1) {w : World} {vs : Array Value} {t : TypeId} {fr : Nat × Nat} {xs : List α} (h : Each d w xs vs.toList) {b n : Nat} (hb : b = w.heap.size) (hn : n = xs.length) (hm : xs.length ≤ 9223372036854775807) :
    d.C (w.alloc (.cells vs t fr)) (some ⟨b, 0, none⟩) n xs := by
  subst hb hn
  exact C_of_block hs (heap_alloc_new w _) (h.mono (alloc_below w _)) hm
theorem cell_fld {w : World} {ad : Addr} {m j : Nat} {u : Value} (h : w.cell? (ad.add (m + j)) = some u) (hj : 0 < j) : w.cell? ⟨(ad.add m).block, (ad.add m).off + j, none⟩ = some u := by rwa [add_field ad m j hj] at h
theorem below_go {w w1 w2 : World} (h : Below w.heap.size w w1) (k : Below w1.heap.size w1 w2) : Below w.heap.size w w2 := below_then h h.size k
theorem blk_here {W : World} {o : Obj} {b : Nat} (hb : b = W.heap.size) : (W.alloc o).heap[b]? = some o := by subst hb; exact heap_alloc_new W o
theorem blk_past {W : World} {o x : Obj} {b : Nat} (h : W.heap[b]? = some x) : (W.alloc o).heap[b]? = some x := by
  have hlt : b < W.heap.size := (Array.getElem?_eq_some_iff.1 h).1
  rw [← h]
  exact ((alloc_below W o).block b hlt)
theorem K_bytes {e : Nat} {w : World} {A : Option Addr} {n c : Nat} {xs : List UInt8} (h : byte.C w A n xs) (hc : n ≤ c) : (Kd.slice e byte).K w xs [.slice A n c] := by
  obtain ⟨hl, _⟩ := C_len h
  subst hl
  exact ⟨A, c, rfl, hc, h⟩

/-- What reads as type t is of kind d. -/
structure Opn {α : Type} (P : Program) (t : TypeId) (d : Kd α) : Prop where
  out : ∀ {H : Type} (enc : TypeId × Value → H) (w : World) (base : Nat) (spare : Nat → Bool) (held : Bool) (fuel : Nat) (cs : List Value) (x : DataW H × List MemPlace),
    DataW.trod enc P w base spare held fuel t cs = some x → ∃ a, d.K w a cs

section
variable {P : Program} {t e : TypeId}
theorem Opn.num {k : IntKind} (ht : P.underlying t = some (.int k)) : Opn P t (num k) := by
  refine ⟨fun {H} enc w base spare held fuel cs x h => ?_⟩
  obtain ⟨n, rfl, _, hw⟩ := DataW.trod_int ht h
  exact ⟨n, rfl, hw⟩
theorem Opn.nat {k : IntKind} (ht : P.underlying t = some (.int k)) (h0 : ∀ n : Int, (Lit.int k n).wf = true → 0 ≤ n) : Opn P t (nat k) := by
  refine ⟨fun {H} enc w base spare held fuel cs x h => ?_⟩
  obtain ⟨n, rfl, _, hw⟩ := DataW.trod_int ht h
  have h1 := h0 n hw
  refine ⟨n.toNat, ?_, ?_⟩
  · rw [show ((n.toNat : Nat) : Int) = n by omega]
  · rw [show ((n.toNat : Nat) : Int) = n by omega]; exact hw
theorem Opn.byte (ht : P.underlying t = some (.int .u8)) : Opn P t byte := by
  refine ⟨fun {H} enc w base spare held fuel cs x h => ?_⟩
  obtain ⟨n, rfl, _, hw⟩ := DataW.trod_int ht h
  have hb := wf_u8 hw
  refine ⟨UInt8.ofNat n.toNat, ?_⟩
  show [Value.int .u8 n] = [Value.int .u8 _]
  have : ((UInt8.ofNat n.toNat).toNat : Int) = n := by
    rw [UInt8.toNat_ofNat']
    omega
  rw [this]
theorem Opn.slice {α : Type} {d : Kd α} (ht : P.underlying t = some (.slice e)) (hc : P.cellsOf e = d.sz) (h : Opn P e d) : Opn P t (Kd.slice e d) := by
  refine ⟨fun {H} enc w base spare held fuel cs x hx => ?_⟩
  rcases open_slice ht hx with ⟨rfl, _⟩ | ⟨a, len, cap, m, n, D, Pl, rfl, _, hl, hm, hmm, _, hel⟩
  · exact ⟨[], none, 0, rfl, Nat.le_refl _, rfl, by simp, fun hp => by simp at hp⟩
  · have hlm : len ≤ m := by rw [hmm]; split <;> omega
    have hel' : ∀ i, i < len → ∃ y : α, ∃ c, c.length = d.sz ∧ d.K w y c ∧ ∀ j u, c[j]? = some u → w.cell? (a.add (i * d.sz + j)) = some u := by
      intro i hi
      obtain ⟨cs', hcs, htr⟩ := hel i (by omega)
      obtain ⟨y, hy⟩ := h.out enc w base spare held n cs' _ htr
      refine ⟨y, cs', d.K_len hy, hy, fun j u hu => ?_⟩
      rw [hc] at hcs
      have hj : j < d.sz := by have := (List.getElem?_eq_some_iff.1 hu).1; rw [d.K_len hy] at this; exact this
      have := (World.cells?_some hcs).2.2 j hj
      rw [Go.Deep.add_add] at this
      rw [this, hu]
    have hne : ∀ i : Fin len, ∃ y : α, ∃ c, c.length = d.sz ∧ d.K w y c ∧ ∀ j u, c[j]? = some u → w.cell? (a.add (i.1 * d.sz + j)) = some u := fun i => hel' i.1 i.2
    obtain ⟨f, hf⟩ := Classical.axiomOfChoice hne
    refine ⟨List.ofFn f, some a, cap, by rw [List.length_ofFn], by rw [List.length_ofFn]; exact hl, by rw [List.length_ofFn], ?_, fun _ => ⟨a, rfl, ?_⟩⟩
    · rw [List.length_ofFn]; simp only [maxLen] at hm; omega
    · intro j p hj
      have hlt : j < len := by have := (List.getElem?_eq_some_iff.1 hj).1; rw [List.length_ofFn] at this; exact this
      rw [List.getElem?_ofFn] at hj
      simp only [hlt, dif_pos, Option.some.injEq] at hj
      subst hj
      exact hf ⟨j, hlt⟩

/-- The fields of a struct from an offset on. -/
structure OpnFs {α : Type} (P : Program) (fs : List Field) (off : Nat) (d : Kd α) : Prop where
  out : ∀ {H : Type} (enc : TypeId × Value → H) (w : World) (base : Nat) (spare : Nat → Bool) (held : Bool) (fuel : Nat) (cs : List Value),
    cs.length = off + d.sz → (∀ f ∈ fs, ∃ y, DataW.trod enc P w base spare held fuel f.type ((cs.drop f.offset).take (P.cellsOf f.type)) = some y) → ∃ a, d.K w a (cs.drop off)
theorem OpnFs.last {α : Type} {d : Kd α} {f : Field} {off : Nat} (ho : f.offset = off) (hc : P.cellsOf f.type = d.sz) (h : Opn P f.type d) : OpnFs P [f] off d := by
  refine ⟨fun {H} enc w base spare held fuel cs hl hf => ?_⟩
  obtain ⟨y, hy⟩ := hf f (by simp)
  rw [ho, hc, List.take_of_length_le (by rw [List.length_drop]; omega)] at hy
  exact h.out enc w base spare held fuel _ y hy
theorem OpnFs.cons {α β : Type} {a : Kd α} {b : Kd β} {f : Field} {fs : List Field} {off : Nat} (ho : f.offset = off) (hc : P.cellsOf f.type = a.sz) (h : Opn P f.type a) (hr : OpnFs P fs (off + a.sz) b) : OpnFs P (f :: fs) off (Kd.pair a b) := by
  refine ⟨fun {H} enc w base spare held fuel cs hl hf => ?_⟩
  have hsz : (Kd.pair a b).sz = a.sz + b.sz := rfl
  rw [hsz] at hl
  obtain ⟨y, hy⟩ := hf f (by simp)
  rw [ho, hc] at hy
  obtain ⟨x, hx⟩ := h.out enc w base spare held fuel _ y hy
  obtain ⟨z, hz⟩ := hr.out enc w base spare held fuel cs (by omega) (fun g hg => hf g (List.mem_cons_of_mem _ hg))
  refine ⟨(x, z), (cs.drop off).take a.sz, cs.drop (off + a.sz), ?_, hx, hz⟩
  rw [← List.drop_drop, List.take_append_drop]
theorem Opn.struct {α : Type} {d : Kd α} {fs : Array Field} (ht : P.underlying t = some (.struct fs)) (hc : P.cellsOf t = d.sz) (h : OpnFs P fs.toList 0 d) : Opn P t d := by
  refine ⟨fun {H} enc w base spare held fuel cs x hx => ?_⟩
  obtain ⟨xs, n, _, _, hl, hlen, hf⟩ := DataW.trod_struct ht hx
  have := h.out enc w base spare held n cs (by omega) (fun f hfm => by
    obtain ⟨i, hi, rfl⟩ := List.mem_iff_getElem.1 hfm
    have hi' : i < xs.length := by simpa [hlen] using hi
    have h1 := hf i _ (by rw [← Array.getElem?_toList]; exact List.getElem?_eq_getElem hi)
    rw [List.getElem?_eq_getElem hi'] at h1
    exact ⟨_, h1⟩)
  simpa using this
theorem open_kd {H : Type} {enc : TypeId × Value → H} {α : Type} {d : Kd α} (ht : P.underlying t = some (.slice e)) (hc : P.cellsOf e = d.sz) (ho : Opn P e d) {W : World} {base : Nat} {sp : Nat → Bool} {held : Bool} {a : Option Addr} {len cap : Nat} {x : DataW H} {p : List MemPlace}
    (h : DataW.Trod enc P W base sp held t (.slice a len cap) x p) : ∃ xs : List α, d.C W a len xs ∧ len ≤ cap := by
  obtain ⟨fuel, hf⟩ := h
  obtain ⟨xs, A, c, he, hl, hr⟩ := (Opn.slice ht hc ho).out enc W base sp held fuel _ _ hf
  have he' : Value.slice a len cap = .slice A xs.length c := by simpa [Value.cells] using he
  injection he' with h1 h2 h3
  subst h1 h2 h3
  exact ⟨xs, hr, hl⟩
theorem open_agg_kd {H : Type} {enc : TypeId × Value → H} {α : Type} {d : Kd α} {fs : Array Field} (ht : P.underlying t = some (.struct fs)) (ho : Opn P t d) {W : World} {r : Reach} {b0 base : Nat} {sp : Nat → Bool} {held : Bool} {v : Value} {x : DataW H} {p : List MemPlace}
    (hv : Value.okWide P W r b0 t v) (h : DataW.Trod enc P W base sp held t v x p) : ∃ (a : α) (cs : Array Value), v = .agg cs ∧ d.K W a cs.toList := by
  obtain ⟨cs, rfl, hsz⟩ := Go.WideShapes.okWide_struct ht hv
  obtain ⟨fuel, hf⟩ := h
  obtain ⟨a, ha⟩ := ho.out enc W base sp held fuel _ _ hf
  exact ⟨a, cs, rfl, by simpa [Value.cells] using ha⟩
theorem wf_i64 {x : Int} (h : (Lit.int .i64 x).wf = true) : -9223372036854775808 ≤ x ∧ x ≤ 9223372036854775807 := by
  simpa [Lit.wf, IntKind.min, IntKind.max, IntKind.bits, IntKind.signed] using h
end
end Go.Proofs.Ytkmeipblgdahoaa.Base
namespace Go.Proofs.Ytkmeipblgdahoaa.Base
open Go.RowKit Go.Proofs.YtkmeipblgdahoaaW.PrintWords
set_option linter.unusedVariables false
theorem below_of_grown {w w1 : World} (h : w.grownBy w1 none) : Below w.heap.size w w1 := ⟨h.os, h.tape, h.output, h.size, fun i hi => h.block i hi (by simp)⟩
theorem max2_mx (k k' : IntKind) (x y : Int) : Builtin.max2 (.int k x) (.int k' y) = pure (.int k (mx x y)) := by simp only [Builtin.max2, mx, gt_iff_lt]
theorem min2_mn (k k' : IntKind) (x y : Int) : Builtin.min2 (.int k x) (.int k' y) = pure (.int k (mn x y)) := by simp only [Builtin.min2, mn]
theorem info_u8 : (Try.prog.info? 5).map (fun i => (i.zero, i.size, i.bytes)) = some (some (.int .u8 0), 1, 1) := by kernel_rfl
def anyB : Nat → Prop := fun _ => True
/-- A row of bytes of the call's own, blocks from base on. -/
def Own (w : World) (base : Nat) (v : Value) (xs : List UInt8) : Prop := byte.R 5 w base anyB v xs
theorem Own.nil (w : World) (base : Nat) : Own w base (.slice none 0 0) [] := Kd.R_nil _ _ _ _ _
theorem Own.below {w w1 : World} {base : Nat} {v : Value} {xs : List UInt8} (h : Own w base v xs) (hb : Below w.heap.size w w1) : Own w1 base v xs := Kd.R_below h hb
theorem Own.reads {w : World} {base : Nat} {v : Value} {xs : List UInt8} (h : Own w base v xs) : ∃ A n c, v = .slice A n c ∧ n ≤ c ∧ byte.C w A n xs := by
  obtain ⟨A, c, h1, h2, h3⟩ := Kd.R_reads h
  exact ⟨A, _, c, h1, h2, h3⟩

/-- A store into a row of the call's own. -/
theorem Own.store {w : World} {base : Nat} {v : Value} {xs : List UInt8} (h : Own w base v xs) (i : Nat) (hi : i < xs.length) (c : UInt8) :
    ∃ g n cap, v = .slice (some ⟨g, 0, none⟩) n cap ∧ n = xs.length ∧ base ≤ g ∧ w.cell? ⟨g, i, none⟩ = some (.int .u8 ((xs.getD i 0).toNat : Int)) ∧ w.frozen? ⟨g, i, none⟩ = false ∧
      Own (w.setCell ⟨g, i, none⟩ (.int .u8 (c.toNat : Int))) base v (xs.set i c) := by
  obtain ⟨A, cap, rfl, hc, hr⟩ := Kd.R_reads h
  have hpos : 0 < xs.length := by omega
  obtain ⟨h0, inner, hown, hrep⟩ := h
  obtain ⟨g, cap', he, hb, _⟩ := hown.form hpos
  injection he with he1 _ he2
  subst he1 he2
  have hcell := byte_at hr i hi
  obtain ⟨ad, hA, hcell⟩ := hcell
  injection hA with hA
  subst hA
  rw [add_plain] at hcell
  refine ⟨g, xs.length, cap, rfl, rfl, hb, hcell, ?_, ?_⟩
  · exact hown.frozenAt i
  · exact Kd.R_putn ⟨h0, inner, hown, hrep⟩ (i : Int) c

section
variable {ops : Array Oper} {rest : List Oper} {o : Oper} {a : Act} {Q : Exit → Act → World → Prop}
/-- append(v, ys...) -/
theorem app_row {w0 W : World} (base : Nat) (s x : Operand) (hgd : o.guard = none) (ho : o.op = .call { callee := .builtin .append, args := #[s, x], argTypes := #[39, 39] })
    (v : Value) (xs ys : List UInt8) (A : Option Addr) (m c : Nat) (hs : a.eval s = v) (hx : a.eval x = .slice A m c)
    (HO : Own W base v xs) (HR : byte.C W A m ys) (HB : Below base w0 W) (hbase : base ≤ W.heap.size) (hl : xs.length + m ≤ 140737488355328)
    (h : ∀ v1 w1, Own w1 base v1 (xs ++ ys) → Below base w0 w1 → W.grownBy w1 v.ownBlock → wpList Try.prog ops Q rest (a.put o.dst v1) w1) : wpList Try.prog ops Q (o :: rest) a W :=
  Kd.R_append_row (w0 := w0) _ (0 : UInt8) base hgd s x 39 5 (.int .u8 0) 1 ho Try.underlying39 info_u8 rfl (by decide) v xs ys A m c anyB hs hx (fun _ _ => trivial) HO HR HB hbase (by omega)
    (fun v1 w1 h1 h2 h3 _ => h v1 w1 h1 h2 h3)
end
/-! Lists that are cut; lists of what came in that the call gathers. -/
theorem C_take {α : Type} {d : Kd α} {w : World} {A : Option Addr} {n : Nat} {xs : List α} (h : d.C w A n xs) (m : Nat) (hm : m ≤ n) : d.C w A m (xs.take m) := by
  obtain ⟨hl, hmx, hc⟩ := h
  refine ⟨by rw [List.length_take]; omega, by omega, fun hp => ?_⟩
  obtain ⟨ad, e, hc⟩ := hc (by omega)
  refine ⟨ad, e, fun j p hj => hc j p ?_⟩
  rw [List.getElem?_take] at hj
  split at hj
  · exact hj
  · cases hj
theorem C_drop {α : Type} {d : Kd α} {w : World} {A : Option Addr} {n c : Nat} {xs : List α} (h : d.C w A n xs) (hc : n ≤ c) (m : Nat) (hm : m ≤ n) :
    d.C w (if c = m then A else A.map (·.add (m * d.sz))) (n - m) (xs.drop m) := by
  obtain ⟨hl, hmx, hcc⟩ := h
  refine ⟨by rw [List.length_drop]; omega, by omega, fun hp => ?_⟩
  obtain ⟨ad, e, hcd⟩ := hcc (by omega)
  subst e
  rw [if_neg (by omega)]
  refine ⟨ad.add (m * d.sz), rfl, fun j p hj => ?_⟩
  rw [List.getElem?_drop] at hj
  obtain ⟨cs, h1, h2, h3⟩ := hcd (m + j) p hj
  refine ⟨cs, h1, h2, fun i u hu => ?_⟩
  rw [Go.Deep.add_add, ← Nat.add_assoc, ← Nat.add_mul]
  exact h3 i u hu
section
variable {P : Program} {ops : Array Oper} {rest : List Oper} {o : Oper} {a : Act} {Q : Exit → Act → World → Prop} {α : Type}
end
/-- What a row of the call's own reads as, the length a number of its own. -/
theorem N_open {α : Type} {d : Kd α} {e base : Nat} {ok : Nat → Prop} {w : World} {v : Value} {xs : List α} (h : Kd.N d e w base ok v xs) : ∃ A n c, v = .slice A n c ∧ n ≤ c ∧ d.C w A n xs := by
  obtain ⟨A, c, h1, h2, h3⟩ := Kd.N_reads h
  exact ⟨A, _, c, h1, h2, h3⟩
end Go.Proofs.Ytkmeipblgdahoaa.Base
namespace Go.Proofs.Ytkmeipblgdahoaa.Crc
set_option linter.unusedVariables false
/-- One step. -/
def stp (n : Nat) : Nat := (n / 2) ^^^ (if n % 2 = 1 then 3988292384 else 0)
def half (n : Nat) : Nat := stp (stp (stp (stp n)))
def inv (n : Nat) : Nat := 4294967295 - n
/-- One byte more. -/
def nxt (s b : Nat) : Nat := inv (half (half (inv s ^^^ b)))
def sumFrom (c : Nat) : List Nat → Nat := fun l => l.foldl nxt c
def sum (l : List Nat) : Nat := sumFrom 0 l
def nat (l : List UInt8) : List Nat := l.map (·.toNat)
theorem nat_append (a b : List UInt8) : nat (a ++ b) = nat a ++ nat b := List.map_append

theorem stp_lt (n : Nat) (h : n < 4294967296) : stp n < 4294967296 := by
  unfold stp
  exact Nat.xor_lt_two_pow (n := 32) (by omega) (by split <;> omega)
theorem half_lt (n : Nat) (h : n < 4294967296) : half n < 4294967296 :=
  stp_lt _ (stp_lt _ (stp_lt _ (stp_lt _ h)))
theorem inv_lt (n : Nat) : inv n < 4294967296 := by unfold inv; omega
theorem nxt_lt (s b : Nat) : nxt s b < 4294967296 := inv_lt _
theorem sumFrom_lt (l : List Nat) : ∀ c, c < 4294967296 → sumFrom c l < 4294967296 := by
  induction l with
  | nil => intro c h; exact h
  | cons x l ih => intro c _; exact ih _ (nxt_lt c x)

theorem xor_byte_lt (s b : Nat) (hb : b < 256) : inv s ^^^ b < 4294967296 :=
  Nat.xor_lt_two_pow (n := 32) (inv_lt s) (by omega)

/-- The code's own step. -/
theorem step_code (c : Nat) (h : c < 4294967296) :
    bits .xor .u32 ((c : Int) / 2) (bits .and .u32 3988292384 ((-(bits .and .u32 (c : Int) 1)) % 4294967296)) = (stp c : Int) := by
  have e1 : bits .and .u32 (c : Int) 1 = ((c % 2 : Nat) : Int) := by
    have := u32_and_nat c 1 h (by omega)
    rw [show ((1 : Nat) : Int) = 1 from rfl] at this
    rw [this, Nat.and_one_is_mod]
  rw [e1]
  unfold stp
  rcases Nat.mod_two_eq_zero_or_one c with h0 | h0
  · rw [h0]
    have e2 : ((-((0 : Nat) : Int)) % 4294967296) = ((0 : Nat) : Int) := by omega
    have e3 := u32_and_nat 3988292384 0 (by omega) (by omega)
    rw [e2, show (3988292384 : Int) = ((3988292384 : Nat) : Int) from rfl, e3]
    have e4 := u32_xor_nat (c / 2) (3988292384 &&& 0) (by omega) (by simp)
    rw [show ((c : Int) / 2) = ((c / 2 : Nat) : Int) by omega, e4]
    simp
  · rw [h0]
    have e2 : ((-((1 : Nat) : Int)) % 4294967296) = ((4294967295 : Nat) : Int) := by omega
    have e3 := u32_and_nat 3988292384 4294967295 (by omega) (by omega)
    rw [e2, show (3988292384 : Int) = ((3988292384 : Nat) : Int) from rfl, e3]
    have e5 : 3988292384 &&& 4294967295 = 3988292384 := by decide
    rw [e5]
    have e4 := u32_xor_nat (c / 2) 3988292384 (by omega) (by omega)
    rw [show ((c : Int) / 2) = ((c / 2 : Nat) : Int) by omega, e4]
    simp

theorem stp_odd (c : Nat) (h0 : c % 2 = 1) : (c / 2) ^^^ 3988292384 = stp c := by unfold stp; rw [if_pos h0]
theorem stp_even (c : Nat) (h0 : ¬ c % 2 = 1) : c / 2 = stp c := by unfold stp; rw [if_neg h0]; simp

theorem sumFrom_append (c : Nat) (a b : List Nat) : sumFrom c (a ++ b) = sumFrom (sumFrom c a) b := List.foldl_append
end Go.Proofs.Ytkmeipblgdahoaa.Crc
namespace Go.Proofs.Ytkmeipblgdahoaa.Rc
open Go.Proofs.Ytkmeipblgdahoaa.Crc (sum nat)
set_option linter.unusedVariables false
/-- A width that there is. -/
def wd (n : Int) : Nat := if n = 1 ∨ n = 2 ∨ n = 4 then n.toNat else 8
theorem wd_pos (n : Int) : 0 < wd n ∧ wd n ≤ 8 := by unfold wd; split <;> omega
/-- A number as so many bytes, the highest first. -/
def be : Nat → Nat → List UInt8
  | 0, _ => []
  | k + 1, v => UInt8.ofNat (v / 256 ^ k) :: be k v
/-- Bytes as a number, from one on. -/
def unF (n : Nat) (l : List UInt8) : Nat := l.foldl (fun n x => n * 256 + x.toNat) n
def un (l : List UInt8) : Nat := unF 0 l
theorem be_len (k v : Nat) : (be k v).length = k := by
  induction k with
  | zero => rfl
  | succ k ih => simp [be, ih]
theorem unF_append (n : Nat) (a b : List UInt8) : unF n (a ++ b) = unF (unF n a) b := List.foldl_append
theorem unF_lt : ∀ (l : List UInt8) (n m : Nat), n < m → unF n l < m * 256 ^ l.length
  | [], n, m, h => by simpa [unF] using h
  | x :: l, n, m, h => by
    have hx := x.toNat_lt
    have := unF_lt l (n * 256 + x.toNat) (m * 256) (by omega)
    rw [List.length_cons, Nat.pow_succ, Nat.mul_comm (256 ^ l.length), ← Nat.mul_assoc]
    exact this
theorem un_lt (l : List UInt8) : un l < 256 ^ l.length := by
  have := unF_lt l 0 1 (by omega)
  rwa [Nat.one_mul] at this
theorem unF_be : ∀ (k n v : Nat), unF n (be k v) = n * 256 ^ k + v % 256 ^ k
  | 0, n, v => by simp [be, unF, Nat.mod_one]
  | k + 1, n, v => by
    show unF (n * 256 + (UInt8.ofNat (v / 256 ^ k)).toNat) (be k v) = _
    have e1 : (UInt8.ofNat (v / 256 ^ k)).toNat = v / 256 ^ k % 256 := UInt8.toNat_ofNat'
    have e2 : v % 256 ^ (k + 1) = v % 256 ^ k + 256 ^ k * (v / 256 ^ k % 256) := by rw [Nat.pow_succ]; exact Nat.mod_mul
    have e3 : (n * 256 + v / 256 ^ k % 256) * 256 ^ k = n * 256 ^ (k + 1) + 256 ^ k * (v / 256 ^ k % 256) := by
      rw [Nat.add_mul, Nat.mul_assoc, Nat.pow_succ, Nat.mul_comm 256, Nat.mul_comm (v / 256 ^ k % 256)]
    rw [unF_be k, e1, e2, e3]
    omega
theorem un_be (k v : Nat) (h : v < 256 ^ k) : un (be k v) = v := by
  unfold un
  rw [unF_be, Nat.mod_eq_of_lt h]
  omega
theorem be_unF : ∀ (l : List UInt8) (n : Nat), be l.length (unF n l) = l
  | [], _ => rfl
  | x :: l, n => by
    show UInt8.ofNat (unF (n * 256 + x.toNat) l / 256 ^ l.length) :: be l.length (unF (n * 256 + x.toNat) l) = _
    rw [be_unF l]
    congr 1
    have h : unF (n * 256 + x.toNat) l / 256 ^ l.length = n * 256 + x.toNat := by
      have h1 := unF_be l.length (n * 256 + x.toNat) (unF 0 l)
      have h2 : 0 < 256 ^ l.length := Nat.pos_of_ne_zero (by simp)
      rw [be_unF l 0] at h1
      rw [h1, Nat.mul_comm, Nat.mul_add_div h2, Nat.div_eq_of_lt (Nat.mod_lt _ h2), Nat.add_zero]
    rw [h]
    apply UInt8.toNat_inj.1
    rw [UInt8.toNat_ofNat', show (2 : Nat) ^ 8 = 256 from rfl]
    have := x.toNat_lt
    omega
theorem be_un (k : Nat) (l : List UInt8) (h : l.length = k) : be k (un l) = l := by subst h; exact be_unF l 0
/-- Numbers as bytes, each of its width. -/
def pack : List Int → List Nat → List UInt8
  | w :: ws, v :: vs => be (wd w) v ++ pack ws vs
  | _, _ => []
/-- Numbers at the front, and what stands behind. -/
def take (b : List UInt8) : List Int → Option (List Nat × List UInt8)
  | [] => some ([], b)
  | w :: ws => if b.length < wd w then none else (take (b.drop (wd w)) ws).map fun p => (un (b.take (wd w)) :: p.1, p.2)

/-! Records. -/
/-- tenant, block, kind, sum, end -/
abbrev Itm := Nat × Nat × Nat × Nat × Nat
def may (x : Itm) : Prop := (x.2.2.2.2 ≤ 4096 ∧ x.2.2.1 = 1) ∨ (x.2.2.1 = 2 ∧ x.2.2.2.1 = 0 ∧ x.2.2.2.2 = 0)
instance (x : Itm) : Decidable (may x) := by unfold may; infer_instance
def itB (x : Itm) : List UInt8 := be 4 x.1 ++ (be 8 x.2.1 ++ (be 1 x.2.2.1 ++ (be 4 x.2.2.2.1 ++ be 2 x.2.2.2.2)))
def itsB (l : List Itm) : List UInt8 := (l.map itB).flatten
/-- A record's room in a block. -/
def rmN (b : Nat) : Nat := if b = 64 ∨ b = 128 ∨ b = 256 ∨ b = 512 ∨ b = 1024 ∨ b = 2048 ∨ b = 4096 then (b - 19) / 19 else 0
abbrev magic : Nat := 1129074503
/-- Noughts in the sum's place. -/
def zr (b : List UInt8) : List UInt8 := b.take 4 ++ ([0, 0, 0, 0] ++ b.drop 8)
def sumOf (b : List UInt8) : Nat := sum (nat (zr b))
/-- A block with noughts in the sum's place. -/
def pre (q : Nat) (l : List Itm) (n : Nat) : List UInt8 := be 4 magic ++ (be 4 0 ++ (be 8 q ++ (be 2 l.length ++ (itsB l ++ (List.replicate (n - 19 - 19 * l.length) 0 ++ [0xe7])))))
/-- With a sum in its place. -/
def put4 (b : List UInt8) (s : Nat) : List UInt8 := b.take 4 ++ (be 4 s ++ b.drop 8)
def enc (q : Nat) (l : List Itm) (n : Nat) : List UInt8 := put4 (pre q l n) (sum (nat (pre q l n)))
def RecOk (q : Nat) (l : List Itm) (n : Nat) : Prop := 0 < l.length ∧ l.length ≤ rmN n ∧ ∀ x ∈ l, may x
instance (q : Nat) (l : List Itm) (n : Nat) : Decidable (RecOk q l n) := by unfold RecOk; infer_instance
theorem sum_lt (b : List Nat) : sum b < 4294967296 := by
  unfold Crc.sum
  exact Crc.sumFrom_lt _ _ (by omega)
theorem put4_len (b : List UInt8) (s : Nat) (h : 8 ≤ b.length) : (put4 b s).length = b.length := by
  simp only [put4, List.length_append, be_len, List.length_take, List.length_drop]
  omega
/-! Reading. -/
def itAt (r : List UInt8) : Itm := (un (r.take 4), un ((r.drop 4).take 8), un ((r.drop 12).take 1), un ((r.drop 13).take 4), un ((r.drop 17).take 2))
def itsOf : Nat → List UInt8 → List Itm
  | 0, _ => []
  | k + 1, r => itAt r :: itsOf k (r.drop 19)
theorem take_app {α : Type} (a b : List α) (k : Nat) (h : a.length = k) : (a ++ b).take k = a := by
  subst h; exact List.take_left
theorem drop_app {α : Type} (a b : List α) (k : Nat) (h : a.length = k) : (a ++ b).drop k = b := by
  subst h; exact List.drop_left
def mgN (b : List UInt8) : Nat := un (b.take 4)
def smN (b : List UInt8) : Nat := un ((b.drop 4).take 4)
def ctN (b : List UInt8) : Nat := un ((b.drop 16).take 2)
def itN (b : List UInt8) : List Itm := itsOf (ctN b) (b.drop 18)
/-- What the program looks at. -/
def RecIs (b : List UInt8) : Prop := 0 < rmN b.length ∧ mgN b = magic ∧ smN b = sumOf b ∧ 0 < ctN b ∧ ctN b ≤ rmN b.length ∧ (∀ x ∈ itN b, may x) ∧
  b.drop (18 + 19 * ctN b) = List.replicate (b.length - 19 - 19 * ctN b) 0 ++ [0xe7]
instance (b : List UInt8) : Decidable (RecIs b) := by unfold RecIs; infer_instance
theorem pow_vals : (256 : Nat) ^ 4 = 4294967296 ∧ (256 : Nat) ^ 8 = 18446744073709551616 ∧ (256 : Nat) ^ 2 = 65536 ∧ (256 : Nat) ^ 1 = 256 := ⟨rfl, rfl, rfl, rfl⟩
end Go.Proofs.Ytkmeipblgdahoaa.Rc
namespace Go.Proofs.Ytkmeipblgdahoaa.Rc
open Go.RowKit Go.Proofs.YtkmeipblgdahoaaW.PrintWords Go.Proofs.YtkmeipblgdahoaaW.PrintMore Go.Proofs.Ytkmeipblgdahoaa.Base
set_option linter.unusedVariables false
set_option linter.unusedSimpArgs false
theorem width_calls (n : Int) (w : World) :
    Calls Try.prog 85 #[.int .i64 n] w fun e w' => e = .returned (.int .i64 (wd n : Int)) ∧ w = w' := by
  by_cases h1 : n = 1
  · subst h1
    go_enter Try.func85, Try.ntmps85
    go_wp2
    go_ret
    exact ⟨rfl, rfl⟩
  by_cases h2 : n = 2
  · subst h2
    go_enter Try.func85, Try.ntmps85
    go_wp2
    go_ret
    exact ⟨rfl, rfl⟩
  by_cases h4 : n = 4
  · subst h4
    go_enter Try.func85, Try.ntmps85
    go_wp2
    go_ret
    exact ⟨rfl, rfl⟩
  have HW := Aside0.mk (show wd n = 8 from if_neg (by omega))
  have e1 : (n == 1) = false := by rw [beq_eq_false_iff_ne]; exact h1
  have e2 : (n == 2) = false := by rw [beq_eq_false_iff_ne]; exact h2
  have e4 : (n == 4) = false := by rw [beq_eq_false_iff_ne]; exact h4
  clear h1 h2 h4
  go_enter Try.func85, Try.ntmps85
  go_wp2
  go_ret
  exact ⟨by rw [HW.out]; rfl, rfl⟩

theorem num_at {k : IntKind} {w : World} {A : Option Addr} {n : Nat} {xs : List Int} (h : (num k).C w A n xs) (i : Nat) (hi : i < n) :
    ∃ ad, A = some ad ∧ w.cell? (ad.add i) = some (.int k (xs.getD i 0)) ∧ (Lit.int k (xs.getD i 0)).wf = true := by
  obtain ⟨ad, c, e, _, hK, hc⟩ := ReadsRow.get_ h 0 (i : Int) (by omega) (by omega)
  obtain ⟨rfl, hw⟩ := hK
  refine ⟨ad, e, ?_, hw⟩
  have := hc 0 _ rfl
  rwa [Int.toNat_natCast, show i * (num k).sz + 0 = i from by show i * 1 + 0 = i; omega] at this
theorem nat_at {k : IntKind} {w : World} {A : Option Addr} {n : Nat} {xs : List Nat} (h : (nat k).C w A n xs) (i : Nat) (hi : i < n) :
    ∃ ad, A = some ad ∧ w.cell? (ad.add i) = some (.int k ((xs.getD i 0 : Nat) : Int)) ∧ (Lit.int k ((xs.getD i 0 : Nat) : Int)).wf = true := by
  obtain ⟨ad, c, e, _, hK, hc⟩ := ReadsRow.get_ h 0 (i : Int) (by omega) (by omega)
  obtain ⟨rfl, hw⟩ := hK
  refine ⟨ad, e, ?_, hw⟩
  have := hc 0 _ rfl
  rwa [Int.toNat_natCast, show i * (nat k).sz + 0 = i from by show i * 1 + 0 = i; omega] at this
theorem pack_cons (ws : List Int) (vs : List Nat) (i : Nat) (h1 : i < ws.length) (h2 : i < vs.length) : pack (ws.take (i + 1)) (vs.take (i + 1)) = pack (ws.take i) (vs.take i) ++ be (wd (ws.getD i 0)) (vs.getD i 0) := by
  induction i generalizing ws vs with
  | zero =>
    obtain ⟨w, ws, rfl⟩ := List.exists_cons_of_length_pos h1
    obtain ⟨v, vs, rfl⟩ := List.exists_cons_of_length_pos h2
    simp [pack]
  | succ i ih =>
    obtain ⟨w, ws, rfl⟩ := List.exists_cons_of_length_pos (show 0 < ws.length by omega)
    obtain ⟨v, vs, rfl⟩ := List.exists_cons_of_length_pos (show 0 < vs.length by omega)
    have := ih ws vs (by simpa using h1) (by simpa using h2)
    simp only [List.take_succ_cons, pack, this, List.append_assoc]
    rfl
theorem pack_short (ws : List Int) : ∀ (vs : List Nat) (i : Nat), i = min ws.length vs.length → pack (ws.take i) (vs.take i) = pack ws vs := by
  induction ws with
  | nil => intro vs i h; simp [pack]
  | cons w ws ih =>
    intro vs i h
    cases vs with
    | nil => simp [pack]
    | cons v vs =>
      cases i with
      | zero => simp at h
      | succ i => simp only [List.take_succ_cons, pack]; rw [ih vs i (by simp at h; omega)]
theorem pack_len (ws : List Int) : ∀ (vs : List Nat), (pack ws vs).length ≤ 8 * ws.length := by
  induction ws with
  | nil => intro vs; simp [pack]
  | cons w ws ih =>
    intro vs
    cases vs with
    | nil => simp [pack]
    | cons v vs =>
      have := ih vs
      have := (wd_pos w).2
      simp only [pack, List.length_append, be_len, List.length_cons]
      omega
attribute [local go_sem] min2_mn min_two
theorem p256 (r : Nat) : (2 : Nat) ^ (8 * r) = 256 ^ r := by rw [Nat.pow_mul]
theorem shr_byte (y r : Nat) : ((y : Int) / 2 ^ (8 * (r + 1) - 8) % 256) = ((UInt8.ofNat (y / 256 ^ r)).toNat : Int) := by
  have e : (UInt8.ofNat (y / 256 ^ r)).toNat = y / 256 ^ r % 256 := UInt8.toNat_ofNat'
  rw [e, ← p256, show 8 * (r + 1) - 8 = 8 * r from by omega, Int.natCast_emod, Int.natCast_ediv, Int.natCast_pow]
  rfl
theorem byte_lit (W : World) (y r : Nat) : byte.C (W.alloc (.cells #[.int .u8 ((y : Int) / 2 ^ (8 * (r + 1) - 8) % 256)] 5)) (some ⟨W.heap.size, 0, none⟩) 1 [UInt8.ofNat (y / 256 ^ r)] :=
  C_lit rfl (by exact ⟨by show [Value.int .u8 _] = [Value.int .u8 _]; rw [shr_byte], trivial⟩) rfl rfl (by simp)
set_option maxRecDepth 100000 in
set_option maxHeartbeats 2000000 in
theorem pack_calls (A : Option Addr) (n c : Nat) (ws : List Int) (B : Option Addr) (m d : Nat) (vs : List Nat) (w : World) (h : (num .i64).C w A n ws) (g : (nat .u64).C w B m vs) (hn : n ≤ 1000) (hm : m ≤ 1000) :
    Calls Try.prog 69 #[.slice A n c, .slice B m d] w fun e w' => ∃ v, e = .returned v ∧ Base.Own w' w.heap.size v (pack ws vs) ∧ Below w.heap.size w w' := by
  obtain ⟨hl, hmx⟩ := C_len h
  obtain ⟨gl, gmx⟩ := C_len g
  have HL := Aside0.mk hl
  have GL := Aside0.mk gl
  have HC := Aside0.mk h
  have GC := Aside0.mk g
  have HM := Aside0.mk (show mn (n : Int) (m : Int) = ((min n m : Nat) : Int) by unfold mn; split <;> omega)
  obtain ⟨q, hq⟩ : ∃ q, min n m = q := ⟨_, rfl⟩
  have HQ := Aside0.mk hq
  have hqn : q ≤ n := by omega
  have hqm : q ≤ m := by omega
  have HM2 := Aside0.mk (show mn (n : Int) (m : Int) = (q : Int) by rw [HM.out, hq])
  clear h g hl gl HM hq
  have hmn := HM2.out
  go_enter Try.func69, Try.ntmps69
  go_wp2
  clear hmn
  go_loopg [5, 13] q (fun k v5 v13 wr => ∃ (i : Nat) (l : List UInt8), v13 = .int .i64 (i : Int) ∧ i ≤ q ∧ Aside0 (k + i = q) ∧ Aside0 (l = pack (ws.take i) (vs.take i)) ∧ Aside0 (Base.Own wr w.heap.size v5 l) ∧ Aside0 (Below w.heap.size w wr))
  case atStart => exact ⟨0, [], rfl, by omega, ⟨rfl⟩, ⟨by simp [pack]⟩, ⟨Base.Own.nil _ _⟩, ⟨Below.refl _ _⟩⟩
  case round =>
    obtain ⟨i, l, rfl, hi, HK, HP, HO, HB⟩ := hrel
    by_cases hlt : i < q
    · obtain ⟨pa, rfl, e0, hwf⟩ := num_at (Kd.C_below HC.out HB.out) i (by omega)
      obtain ⟨x, hx⟩ : ∃ x, ws.getD i 0 = x := ⟨_, rfl⟩
      rw [hx] at e0 hwf
      have HX := Aside0.mk hx
      have hlt' : (i : Int) < (q : Int) := by omega
      have hd0 : decide ((i : Int) < (q : Int)) = true := decide_eq_true hlt'
      have HWF := Aside0.mk hwf
      have hw8 := wd_pos x
      clear hx hwf
      go_wp2_with fail
      refine (width_calls x _).mono ?_
      rintro e w2 ⟨rfl, rfl⟩
      obtain ⟨k, hk⟩ : ∃ k, wd x = k := ⟨_, rfl⟩
      rw [hk] at hw8 ⊢
      have HKW := Aside0.mk hk
      clear hk
      obtain ⟨pv, rfl, f0, hwv⟩ := nat_at (Kd.C_below GC.out HB.out) i (by omega)
      obtain ⟨y, hy⟩ : ∃ y, vs.getD i 0 = y := ⟨_, rfl⟩
      rw [hy] at f0 hwv
      have HY := Aside0.mk hy
      have HWV := Aside0.mk hwv
      have F0 := Aside0.mk f0
      have HIM := Aside0.mk (show i < m from by omega)
      clear hy hwv f0
      go_wp2
      clear e0
      obtain ⟨wo, rfl⟩ : ∃ wo : World, wo = wr := ⟨_, rfl⟩
      go_loopg [5, 7] k (fun g v5 v7 wr => ∃ (r : Nat) (l1 : List UInt8), v7 = .int .i64 (8 * (r : Int)) ∧ r ≤ k ∧ Aside0 (g = r) ∧ Aside0 (l1 ++ be r y = l ++ be k y) ∧ Aside0 (Base.Own wr w.heap.size v5 l1) ∧ Aside0 (Below w.heap.size w wr))
      case atStart => exact ⟨k, l, rfl, by omega, ⟨rfl⟩, ⟨rfl⟩, HO, HB⟩
      case round =>
        obtain ⟨r, l1, rfl, hr, HG1, HP1, HO1, HB1⟩ := hrel
        cases r with
        | zero =>
          go_wp2
          go_roundg (q - (i + 1))
          case measure => have := HK.out; omega
          case rel =>
            refine ⟨i + 1, l1, by congr 1, by omega, ⟨by omega⟩, ⟨?_⟩, HO1, HB1⟩
            have h1 := HP1.out
            have h2 := HL.out
            have h3 := GL.out
            rw [pack_cons ws vs i (by omega) (by omega), HX.out, HY.out, HKW.out, ← HP.out, ← h1]
            simp [be]
        | succ r =>
          obtain ⟨pv', hpv, f0, -⟩ := nat_at (Kd.C_below GC.out HB1.out) i HIM.out
          injection hpv with hpv
          subst hpv
          rw [HY.out] at f0
          obtain ⟨A1, n1, c1, rfl, hc1, hC1⟩ := HO1.out.reads
          have HLE := Aside0.mk (show l1.length ≤ 100000 from by
            have h1 := congrArg List.length HP1.out
            have h2 := pack_len (ws.take i) (vs.take i)
            rw [← HP.out, List.length_take] at h2
            simp only [List.length_append, be_len] at h1
            omega)
          go_wp2_with (at_builtin; (refine app_row (w0 := w) w.heap.size (.tmp 26) (.tmp 34) rfl rfl _ l1 [UInt8.ofNat (y / 256 ^ r)] _ _ _ rfl rfl (HO1.out.below (alloc_below _ _)) (byte_lit wr y r) (below_alloc HB1.out _) (below_alloc HB1.out _).size (by have := HLE.out; omega) ?_); intro v2 w2 hO2 hB2 _; (have HO2 := Aside0.mk hO2; have HB2 := Aside0.mk hB2; clear hO2 hB2))
          go_wp2
          go_roundg r
          case measure => have := HG1.out; omega
          case rel => exact ⟨r, _, by congr 1; omega, by omega, ⟨rfl⟩, ⟨by rw [← HP1.out]; simp [be]⟩, HO2, HB2⟩
    · obtain rfl : i = q := by omega
      have hd0 : decide ((i : Int) < (i : Int)) = false := decide_eq_false (by omega)
      go_wp2
      go_ret
      refine ⟨_, rfl, ?_, HB.out⟩
      have h1 := HO.out
      rw [HP.out, pack_short ws vs i (by rw [HL.out, GL.out]; exact HQ.out.symm)] at h1
      exact h1
end Go.Proofs.Ytkmeipblgdahoaa.Rc
namespace Go.Proofs.Ytkmeipblgdahoaa.Ck
open Go.Proofs.Ytkmeipblgdahoaa.Crc (sum nat)
open Go.Proofs.Ytkmeipblgdahoaa.Rc (be un put4 be_len un_be be_un take_app drop_app un_lt pow_vals sum_lt put4_len)
set_option linter.unusedVariables false
set_option linter.unusedSimpArgs false
/-- Tenant, block, and where it is. -/
abbrev Plc := Nat × Nat × Int × Int
abbrev plc0 : Plc := (0, 0, 0, 0)
def PlcOk (p : Plc) : Prop := p.1 < 4294967296 ∧ p.2.1 < 18446744073709551616
def Below2 (a b : Plc) : Prop := a.1 < b.1 ∨ (a.1 = b.1 ∧ a.2.1 < b.2.1)
instance (a b : Plc) : Decidable (Below2 a b) := by unfold Below2; infer_instance
def InIt (z zb : Int) (p : Plc) : Prop := 2 ≤ p.2.2.1 ∧ p.2.2.1 < z ∧ 0 ≤ p.2.2.2 ∧ p.2.2.2 < zb
instance (z zb : Int) (p : Plc) : Decidable (InIt z zb p) := by unfold InIt; infer_instance
def Rises : List Plc → Prop
  | [] => True
  | [_] => True
  | a :: b :: l => Below2 a b ∧ Rises (b :: l)
instance : (l : List Plc) → Decidable (Rises l)
  | [] => isTrue trivial
  | [_] => isTrue trivial
  | a :: b :: l => by
    have := instDecidableRises (b :: l)
    unfold Rises
    infer_instance
def MayP (z zb : Int) (l : List Plc) : Prop := (∀ p ∈ l, InIt z zb p) ∧ Rises l
instance (z zb : Int) (l : List Plc) : Decidable (MayP z zb l) := by unfold MayP; infer_instance
theorem rises_iff (l : List Plc) : Rises l ↔ ∀ i, i + 1 < l.length → Below2 (l.getD i plc0) (l.getD (i + 1) plc0) := by
  induction l with
  | nil => exact ⟨fun _ i h => by simp at h, fun _ => trivial⟩
  | cons a l ih =>
    cases l with
    | nil => exact ⟨fun _ i h => by simp at h, fun _ => trivial⟩
    | cons b l =>
      show (Below2 a b ∧ Rises (b :: l)) ↔ _
      rw [ih]
      constructor
      · rintro ⟨h1, h2⟩ i hi
        cases i with
        | zero => exact h1
        | succ i => exact h2 i (by simpa using hi)
      · intro h
        exact ⟨h 0 (by simp), fun i hi => h (i + 1) (by simpa using hi)⟩
/-- A place's bytes. -/
def plB (p : Plc) : List UInt8 := be 4 p.1 ++ (be 8 p.2.1 ++ (be 2 p.2.2.1.toNat ++ be 2 p.2.2.2.toNat))
theorem plB_len (p : Plc) : (plB p).length = 16 := by simp [plB, be_len]
def plsB (l : List Plc) : List UInt8 := (l.map plB).flatten
theorem plsB_len (l : List Plc) : (plsB l).length = 16 * l.length := by
  unfold plsB
  induction l with
  | nil => rfl
  | cons x l ih => simp only [List.map_cons, List.flatten_cons, List.length_append, ih, plB_len, List.length_cons]; omega
theorem plsB_snoc (l : List Plc) (x : Plc) : plsB (l ++ [x]) = plsB l ++ plB x := by simp [plsB]
def rmC (b : Nat) : Nat := if b = 64 ∨ b = 128 ∨ b = 256 ∨ b = 512 ∨ b = 1024 ∨ b = 2048 ∨ b = 4096 then (b - 27) / 16 else 0
theorem rmC_le (b : Nat) (h : 0 < rmC b) : 64 ≤ b ∧ b ≤ 4096 ∧ 16 * rmC b + 27 ≤ b ∧ rmC b ≤ 254 ∧ 2 ≤ rmC b := by
  unfold rmC at h ⊢
  split at h
  · rename_i hb
    rw [if_pos hb]
    omega
  · omega
abbrev cmagic : Nat := 1129009236
/-- A block ahead of its sum. -/
def cpre (at_ many q : Nat) (l : List Plc) (n : Nat) : List UInt8 :=
  be 4 cmagic ++ (be 4 0 ++ (be 4 at_ ++ (be 4 many ++ (be 8 q ++ (be 2 l.length ++ (plsB l ++ (List.replicate (n - 27 - 16 * l.length) 0 ++ [0xe7])))))))
def cblk (at_ many q : Nat) (l : List Plc) (n : Nat) : List UInt8 := put4 (cpre at_ many q l n) (sum (nat (cpre at_ many q l n)))
theorem cpre_len (at_ many q : Nat) (l : List Plc) (n : Nat) (h : 16 * l.length + 27 ≤ n) : (cpre at_ many q l n).length = n := by
  simp only [cpre, List.length_append, be_len, plsB_len, List.length_replicate, List.length_cons, List.length_nil]
  omega
theorem cblk_len (at_ many q : Nat) (l : List Plc) (n : Nat) (h : 16 * l.length + 27 ≤ n) : (cblk at_ many q l n).length = n := by
  unfold cblk
  rw [put4_len _ _ (by rw [cpre_len _ _ _ _ _ h]; omega), cpre_len _ _ _ _ _ h]
theorem cblk_eq (at_ many q : Nat) (l : List Plc) (n : Nat) : cblk at_ many q l n =
    be 4 cmagic ++ (be 4 (sum (nat (cpre at_ many q l n))) ++ (be 4 at_ ++ (be 4 many ++ (be 8 q ++ (be 2 l.length ++ (plsB l ++ (List.replicate (n - 27 - 16 * l.length) 0 ++ [0xe7]))))))) := by
  unfold cblk put4
  generalize sum (nat (cpre at_ many q l n)) = s
  unfold cpre
  rw [take_app _ _ _ (be_len _ _), show (8 : Nat) = 4 + 4 from rfl, ← List.drop_drop, drop_app _ _ _ (be_len _ _), drop_app _ _ _ (be_len _ _)]
/-- How many blocks. -/
def manyN (k n : Nat) : Nat := max ((k + rmC n - 1) / rmC n) 1
def blks (q : Nat) (l : List Plc) (n : Nat) : List (List UInt8) :=
  (List.range (manyN l.length n)).map fun i => cblk i (manyN l.length n) q ((l.drop (i * rmC n)).take (rmC n)) n
/-- A checkpoint as blocks, or the error's number. -/
def encC (rt : Bool) (z zb : Int) (n q : Nat) (l : List Plc) : Except Int (List (List UInt8)) :=
  if rt = true ∧ MayP z zb l then if (manyN l.length n : Int) ≤ zb then .ok (blks q l n) else .error 140 else .error 141
/-! Reading. -/
def plAt (r : List UInt8) : Plc := (un (r.take 4), un ((r.drop 4).take 8), (un ((r.drop 12).take 2) : Int), (un ((r.drop 14).take 2) : Int))
def plsOf : Nat → List UInt8 → List Plc
  | 0, _ => []
  | k + 1, r => plAt r :: plsOf k (r.drop 16)
theorem plsOf_len (k : Nat) : ∀ r, (plsOf k r).length = k := by
  induction k with
  | zero => intro r; rfl
  | succ k ih => intro r; simp [plsOf, ih]
theorem plsOf_snoc (k : Nat) : ∀ r : List UInt8, plsOf (k + 1) r = plsOf k r ++ [plAt (r.drop (16 * k))] := by
  induction k with
  | zero => intro r; rfl
  | succ k ih =>
    intro r
    show plAt r :: plsOf (k + 1) (r.drop 16) = plAt r :: plsOf k (r.drop 16) ++ _
    rw [ih, List.drop_drop, show 16 + 16 * k = 16 * (k + 1) from by omega]
    rfl
/-- A place that may be written. -/
def PlcFit (p : Plc) : Prop := PlcOk p ∧ 0 ≤ p.2.2.1 ∧ p.2.2.1 < 65536 ∧ 0 ≤ p.2.2.2 ∧ p.2.2.2 < 65536
theorem plAt_plB (x : Plc) (h : PlcFit x) (r : List UInt8) : plAt (plB x ++ r) = x := by
  obtain ⟨a, b, c, d⟩ := x
  obtain ⟨⟨h1, h2⟩, h3, h4, h5, h6⟩ := h
  dsimp only at h1 h2 h3 h4 h5 h6
  obtain ⟨p4, p8, p2, p1⟩ := pow_vals
  have q1 : plB (a, b, c, d) ++ r = be 4 a ++ (be 8 b ++ (be 2 c.toNat ++ (be 2 d.toNat ++ r))) := by simp [plB]
  have q2 : (plB (a, b, c, d) ++ r).drop 4 = be 8 b ++ (be 2 c.toNat ++ (be 2 d.toNat ++ r)) := by rw [q1, drop_app _ _ _ (be_len _ _)]
  have q3 : (plB (a, b, c, d) ++ r).drop 12 = be 2 c.toNat ++ (be 2 d.toNat ++ r) := by
    rw [show (12 : Nat) = 4 + 8 from rfl, ← List.drop_drop, q2, drop_app _ _ _ (be_len _ _)]
  have q4 : (plB (a, b, c, d) ++ r).drop 14 = be 2 d.toNat ++ r := by
    rw [show (14 : Nat) = 12 + 2 from rfl, ← List.drop_drop, q3, drop_app _ _ _ (be_len _ _)]
  unfold plAt
  rw [q2, q3, q4, q1, take_app _ _ _ (be_len _ _), take_app _ _ _ (be_len _ _), take_app _ _ _ (be_len _ _), take_app _ _ _ (be_len _ _)]
  rw [un_be _ _ (by omega), un_be _ _ (by omega), un_be _ _ (by omega), un_be _ _ (by omega), Int.toNat_of_nonneg h3, Int.toNat_of_nonneg h5]
theorem plsOf_plsB (l : List Plc) (h : ∀ x ∈ l, PlcFit x) : ∀ r, plsOf l.length (plsB l ++ r) = l := by
  induction l with
  | nil => intro r; rfl
  | cons x l ih =>
    intro r
    have e : plsB (x :: l) ++ r = plB x ++ (plsB l ++ r) := by simp [plsB]
    rw [e]
    show plAt _ :: plsOf l.length ((plB x ++ (plsB l ++ r)).drop 16) = _
    rw [plAt_plB x (h x (by simp)), drop_app _ _ _ (plB_len x), ih (fun y hy => h y (by simp [hy]))]
def seqC (b : List UInt8) : Nat := un ((b.drop 16).take 8)
def ctC (b : List UInt8) : Nat := un ((b.drop 24).take 2)
/-- What one block says, if it is long enough. -/
def places (b : List UInt8) : Option (Nat × List Plc) :=
  if b.length < 26 + 16 * ctC b ∨ b.length < 26 then none else some (seqC b, plsOf (ctC b) (b.drop 26))
theorem places_cblk (at_ many q : Nat) (l : List Plc) (n : Nat) (hq : q < 18446744073709551616) (h : 16 * l.length + 27 ≤ n) (hl : l.length < 65536) (ho : ∀ x ∈ l, PlcFit x) : places (cblk at_ many q l n) = some (q, l) := by
  obtain ⟨p4, p8, p2, p1⟩ := pow_vals
  have d16 : (cblk at_ many q l n).drop 16 = be 8 q ++ (be 2 l.length ++ (plsB l ++ (List.replicate (n - 27 - 16 * l.length) 0 ++ [0xe7]))) := by
    rw [cblk_eq, show (16 : Nat) = 4 + (4 + (4 + 4)) from rfl, ← List.drop_drop, drop_app _ _ _ (be_len _ _), ← List.drop_drop, drop_app _ _ _ (be_len _ _), ← List.drop_drop, drop_app _ _ _ (be_len _ _), drop_app _ _ _ (be_len _ _)]
  have d24 : (cblk at_ many q l n).drop 24 = be 2 l.length ++ (plsB l ++ (List.replicate (n - 27 - 16 * l.length) 0 ++ [0xe7])) := by
    rw [show (24 : Nat) = 16 + 8 from rfl, ← List.drop_drop, d16, drop_app _ _ _ (be_len _ _)]
  have d26 : (cblk at_ many q l n).drop 26 = plsB l ++ (List.replicate (n - 27 - 16 * l.length) 0 ++ [0xe7]) := by
    rw [show (26 : Nat) = 24 + 2 from rfl, ← List.drop_drop, d24, drop_app _ _ _ (be_len _ _)]
  have hct : ctC (cblk at_ many q l n) = l.length := by unfold ctC; rw [d24, take_app _ _ _ (be_len _ _), un_be _ _ (by omega)]
  have hsq : seqC (cblk at_ many q l n) = q := by unfold seqC; rw [d16, take_app _ _ _ (be_len _ _), un_be _ _ (by omega)]
  unfold places
  rw [cblk_len _ _ _ _ _ h, hct, hsq, d26, plsOf_plsB l ho, if_neg (by omega)]
/-- What blocks say: the last one's number, all places. -/
def said : List (List UInt8) → Nat × List Plc → Option (Nat × List Plc)
  | [], a => some a
  | b :: l, a => match places b with
    | none => none
    | some (q, some_) => said l (q, a.2 ++ some_)
/-- The state that blocks are, if they are one. -/
def decC (rt : Bool) (z zb : Int) (n : Nat) (l : List (List UInt8)) : Option (Nat × List Plc) :=
  match said l (0, []) with
  | none => none
  | some (q, ps) => match encC rt z zb n q ps with
    | .ok l' => if l' = l then some (q, ps) else none
    | .error _ => none
theorem said_blks (q : Nat) (l : List Plc) (n M : Nat) (hq : q < 18446744073709551616) (hr : 0 < rmC n) (ho : ∀ x ∈ l, PlcFit x) :
    ∀ (k s : Nat) (q0 : Nat), said ((List.range' s k).map fun i => cblk i M q ((l.drop (i * rmC n)).take (rmC n)) n) (q0, l.take (s * rmC n)) = some (if k = 0 then q0 else q, l.take ((s + k) * rmC n)) := by
  obtain ⟨h1, h2, h3, h4, h5⟩ := rmC_le n hr
  intro k
  induction k with
  | zero => intro s q0; simp [said]
  | succ k ih =>
    intro s q0
    rw [List.range'_succ, List.map_cons]
    have hlen : ((l.drop (s * rmC n)).take (rmC n)).length ≤ rmC n := by rw [List.length_take]; omega
    have hp := places_cblk s M q ((l.drop (s * rmC n)).take (rmC n)) n hq (by omega) (by omega) (fun x hx => ho x (List.mem_of_mem_drop (List.mem_of_mem_take hx)))
    unfold said
    rw [hp]
    show said _ (q, l.take (s * rmC n) ++ (l.drop (s * rmC n)).take (rmC n)) = _
    have e : l.take (s * rmC n) ++ (l.drop (s * rmC n)).take (rmC n) = l.take ((s + 1) * rmC n) := by
      rw [Nat.add_mul, Nat.one_mul, List.take_add]
    rw [e, ih (s + 1) q]
    simp only [Nat.add_eq_zero_iff]
    rw [show s + 1 + k = s + (k + 1) from by omega]
    simp
/-- What is read of blocks that were written. -/
theorem said_enc (q : Nat) (l : List Plc) (n : Nat) (hq : q < 18446744073709551616) (hr : 0 < rmC n) (ho : ∀ x ∈ l, PlcFit x) : said (blks q l n) (0, []) = some (q, l) := by
  have h := said_blks q l n (manyN l.length n) hq hr ho (manyN l.length n) 0 0
  have hm : 1 ≤ manyN l.length n := by unfold manyN; omega
  have hc : l.length ≤ manyN l.length n * rmC n := by
    unfold manyN
    have h1 := Nat.div_add_mod (l.length + rmC n - 1) (rmC n)
    have h2 := Nat.mod_lt (l.length + rmC n - 1) hr
    generalize (l.length + rmC n - 1) / rmC n = d at *
    have h3 : d * rmC n ≤ max d 1 * rmC n := Nat.mul_le_mul_right _ (by omega)
    rw [Nat.mul_comm] at h1
    omega
  rw [if_neg (by omega), Nat.zero_add, List.take_of_length_le hc] at h
  unfold blks
  rw [List.range_eq_range']
  simpa using h
theorem MayP.fit {z zb : Int} {l : List Plc} (h : MayP z zb l) (hz : z ≤ 256) (hzb : zb ≤ 4096) (ho : ∀ x ∈ l, PlcOk x) : ∀ x ∈ l, PlcFit x := by
  intro x hx
  obtain ⟨h1, h2, h3, h4⟩ := h.1 x hx
  exact ⟨ho x hx, by omega, by omega, by omega, by omega⟩
/-- A state that is written is read. -/
theorem dec_enc {rt : Bool} {z zb : Int} {n q : Nat} {l : List Plc} {bs : List (List UInt8)} (h : encC rt z zb n q l = .ok bs) (hz : z ≤ 256) (hzb : zb ≤ 4096) (hr : 0 < rmC n) (hq : q < 18446744073709551616) (ho : ∀ x ∈ l, PlcOk x) : decC rt z zb n bs = some (q, l) := by
  have hb : bs = blks q l n := by
    unfold encC at h
    split at h
    · split at h
      · injection h with h; exact h.symm
      · cases h
    · cases h
  have hm : MayP z zb l := by
    unfold encC at h
    split at h
    · rename_i h1; exact h1.2
    · cases h
  unfold decC
  rw [hb, said_enc q l n hq hr (hm.fit hz hzb ho)]
  show (match encC rt z zb n q l with | .ok l' => _ | .error _ => _) = _
  rw [h, hb]
  simp
theorem blks_len (q : Nat) (l : List Plc) (n : Nat) : (blks q l n).length = manyN l.length n := by simp [blks]
end Go.Proofs.Ytkmeipblgdahoaa.Ck
namespace Go.Proofs.Ytkmeipblgdahoaa.Ck
open Go.RowKit Go.Proofs.YtkmeipblgdahoaaW.PrintWords Go.Proofs.YtkmeipblgdahoaaW.PrintMore Go.Proofs.Ytkmeipblgdahoaa.Base
set_option linter.unusedVariables false
set_option linter.unusedSimpArgs false
/-- -1, 0, 1. -/
def cmpN (x y : Nat) : Int := if x < y then -1 else if y < x then 1 else 0
theorem nan32_calls (x : Nat) (w : World) : Calls Try.prog 90 #[.int .u32 (x : Int)] w fun e w' => e = .returned (.bool false) ∧ w = w' := by
  have hq : ((x : Int) != (x : Int)) = false := by rw [bne_eq_false_iff_eq]
  go_enter Try.func90, Try.ntmps90
  go_wp2
  go_ret
  exact ⟨rfl, rfl⟩
theorem nan64_calls (x : Nat) (w : World) : Calls Try.prog 91 #[.int .u64 (x : Int)] w fun e w' => e = .returned (.bool false) ∧ w = w' := by
  have hq : ((x : Int) != (x : Int)) = false := by rw [bne_eq_false_iff_eq]
  go_enter Try.func91, Try.ntmps91
  go_wp2
  go_ret
  exact ⟨rfl, rfl⟩
theorem cmp32_calls (x y : Nat) (w : World) : Calls Try.prog 83 #[.int .u32 (x : Int), .int .u32 (y : Int)] w fun e w' => e = .returned (.int .i64 (cmpN x y)) ∧ w = w' := by
  obtain ⟨b1, h1⟩ : ∃ b, decide ((x : Int) < (y : Int)) = b := ⟨_, rfl⟩
  obtain ⟨b2, h2⟩ : ∃ b, decide ((y : Int) < (x : Int)) = b := ⟨_, rfl⟩
  have h1' : decide (x < y) = b1 := by rw [← h1]; rw [decide_eq_decide]; omega
  have h2' : decide (y < x) = b2 := by rw [← h2]; rw [decide_eq_decide]; omega
  have HR := Aside0.mk (show cmpN x y = if b1 = true then -1 else if b2 = true then 1 else 0 from by unfold cmpN; rw [← h1', ← h2']; simp)
  rw [HR.out]
  cases b1 <;> cases b2
  all_goals
    go_enter Try.func83, Try.ntmps83
    go_wp2_with fail
    refine (nan32_calls x _).mono ?_
    rintro e w1 ⟨rfl, rfl⟩
    go_wp2_with fail
    refine (nan32_calls y _).mono ?_
    rintro e w1 ⟨rfl, rfl⟩
    go_wp2
    go_ret
    exact ⟨rfl, rfl⟩
theorem cmp64_calls (x y : Nat) (w : World) : Calls Try.prog 84 #[.int .u64 (x : Int), .int .u64 (y : Int)] w fun e w' => e = .returned (.int .i64 (cmpN x y)) ∧ w = w' := by
  obtain ⟨b1, h1⟩ : ∃ b, decide ((x : Int) < (y : Int)) = b := ⟨_, rfl⟩
  obtain ⟨b2, h2⟩ : ∃ b, decide ((y : Int) < (x : Int)) = b := ⟨_, rfl⟩
  have h1' : decide (x < y) = b1 := by rw [← h1]; rw [decide_eq_decide]; omega
  have h2' : decide (y < x) = b2 := by rw [← h2]; rw [decide_eq_decide]; omega
  have HR := Aside0.mk (show cmpN x y = if b1 = true then -1 else if b2 = true then 1 else 0 from by unfold cmpN; rw [← h1', ← h2']; simp)
  rw [HR.out]
  cases b1 <;> cases b2
  all_goals
    go_enter Try.func84, Try.ntmps84
    go_wp2_with fail
    refine (nan64_calls x _).mono ?_
    rintro e w1 ⟨rfl, rfl⟩
    go_wp2_with fail
    refine (nan64_calls y _).mono ?_
    rintro e w1 ⟨rfl, rfl⟩
    go_wp2
    go_ret
    exact ⟨rfl, rfl⟩
/-- The first that is not nought. -/
def orL : List Int → Int
  | [] => 0
  | x :: l => if x = 0 then orL l else x
theorem int_at {w : World} {A : Option Addr} {n : Nat} {xs : List Int} (h : (num .i64).C w A n xs) (i : Nat) (hi : i < n) : ∃ ad, A = some ad ∧ w.cell? (ad.add i) = some (.int .i64 (xs.getD i 0)) := by
  obtain ⟨ad, c, e, hcl, hK, hc⟩ := ReadsRow.get_ h 0 (i : Int) (by omega) (by omega)
  rw [Int.toNat_natCast] at hK hc
  obtain ⟨rfl, _⟩ := hK
  have := hc 0 _ rfl
  rw [show i * (num .i64).sz + 0 = i from Nat.mul_one i] at this
  exact ⟨ad, e, this⟩
theorem or_drop (xs : List Int) (i : Nat) (hi : i < xs.length) : orL (xs.drop i) = if xs.getD i 0 = 0 then orL (xs.drop (i + 1)) else xs.getD i 0 := by
  rw [List.drop_eq_getElem_cons hi, List.getD_eq_getElem?_getD, List.getElem?_eq_getElem hi]
  rfl
theorem or_calls (A : Option Addr) (n cap : Nat) (xs : List Int) (w : World) (h : (num .i64).C w A n xs) : Calls Try.prog 82 #[.slice A n cap] w fun e w' => e = .returned (.int .i64 (orL xs)) ∧ w = w' := by
  obtain ⟨hl, hm⟩ := C_len h
  have HC := Aside0.mk h
  have HL := Aside0.mk hl
  clear h hl
  go_enter Try.func82, Try.ntmps82
  go_wp2
  go_loopg [8] n (fun g v8 w' => ∃ i : Nat, v8 = .int .i64 (i : Int) ∧ i ≤ n ∧ Aside0 (g + i = n) ∧ Aside0 (orL (xs.drop i) = orL xs) ∧ w = w')
  case atStart => exact ⟨0, rfl, Nat.zero_le _, ⟨rfl⟩, ⟨rfl⟩, rfl⟩
  case round =>
    obtain ⟨i, rfl, hi, HK, HO, rfl⟩ := hrel
    by_cases hlt : i < n
    · have hd0 : decide ((i : Int) < (n : Int)) = true := decide_eq_true (by omega)
      have hd0' : decide (i < n) = true := decide_eq_true hlt
      have hi0 : (0 : Int) ≤ (i : Int) := by omega
      have hi1 : (i : Int) < (n : Int) := by omega
      obtain ⟨ad, rfl, hc⟩ := int_at HC.out i hlt
      have HD := Aside0.mk (or_drop xs i (by rw [HL.out]; exact hlt))
      obtain ⟨x, hx⟩ : ∃ x, xs.getD i 0 = x := ⟨_, rfl⟩
      rw [hx] at hc HD
      clear hx
      by_cases hz : x = 0
      · have hq : (x != 0) = false := by rw [bne_eq_false_iff_eq]; exact hz
        have HZ := Aside0.mk hz
        clear hz
        go_wp2
        go_roundg (gk - 1)
        case measure => have := HK.out; omega
        case rel => exact ⟨i + 1, by congr 1, by omega, ⟨by have := HK.out; omega⟩, ⟨by rw [← HO.out, HD.out, if_pos HZ.out]⟩, rfl⟩
      · have hq : (x != 0) = true := by rw [bne_iff_ne]; exact hz
        have HZ := Aside0.mk (show orL xs = x by rw [← HO.out, HD.out, if_neg hz])
        clear hz
        go_wp2
        go_ret
        exact ⟨by rw [HZ.out]; rfl, rfl⟩
    · obtain rfl : i = n := by omega
      have hd0 : decide ((i : Int) < (i : Int)) = false := decide_eq_false (by omega)
      have HZ := Aside0.mk (show orL xs = 0 by rw [← HO.out, List.drop_of_length_le (by rw [HL.out]; omega)]; rfl)
      go_wp2
      go_ret
      exact ⟨by rw [HZ.out]; rfl, rfl⟩
/-- A place's cells. -/
def plV (x : Plc) : Array Value := #[.int .u32 (x.1 : Int), .int .u64 (x.2.1 : Int), .int .i64 x.2.2.1, .int .i64 x.2.2.2]
def cmpP (a b : Plc) : Int := orL [cmpN a.1 b.1, cmpN a.2.1 b.2.1]
theorem cmpN_wf (x y : Nat) : -1 ≤ cmpN x y ∧ cmpN x y ≤ 1 := by
  unfold cmpN
  split
  · omega
  · split <;> omega
theorem lit2 (W : World) (c1 c2 : Int) (h1 : -1 ≤ c1 ∧ c1 ≤ 1) (h2 : -1 ≤ c2 ∧ c2 ≤ 1) : (num .i64).C (W.alloc (.cells #[.int .i64 c1, .int .i64 c2] 3)) (some ⟨W.heap.size, 0, none⟩) 2 [c1, c2] := by
  have e : ∀ c : Int, (-1 ≤ c ∧ c ≤ 1) → ∀ w : World, (num .i64).K w c [.int .i64 c] := fun c hc w => ⟨rfl, by simp [Lit.wf, IntKind.min, IntKind.max, IntKind.bits, IntKind.signed]; omega⟩
  exact C_lit rfl (by exact ⟨e c1 h1 _, e c2 h2 _, trivial⟩) rfl rfl (by simp)
set_option maxHeartbeats 1000000 in
theorem compare_calls (x y : Plc) (w : World) : Calls Try.prog 68 #[.agg (plV x), .agg (plV y)] w fun e w' => e = .returned (.int .i64 (cmpP x y)) ∧ Below w.heap.size w w' := by
  obtain ⟨t, b, z, k⟩ := x
  obtain ⟨t', b', z', k'⟩ := y
  unfold plV
  dsimp only
  have hA := Aside0.mk (show Below w.heap.size w ((w.alloc (.cells #[.int .u32 (t : Int), .int .u64 (b : Int), .int .i64 z, .int .i64 k] 88)).alloc (.cells #[.int .u32 (t' : Int), .int .u64 (b' : Int), .int .i64 z', .int .i64 k'] 88)) from below_alloc (alloc_below _ _) _)
  have a0 : ((w.alloc (.cells #[.int .u32 (t : Int), .int .u64 (b : Int), .int .i64 z, .int .i64 k] 88)).alloc (.cells #[.int .u32 (t' : Int), .int .u64 (b' : Int), .int .i64 z', .int .i64 k'] 88)).cell? ⟨w.heap.size, 0, none⟩ = some (.int .u32 (t : Int)) := by go_simp
  have a1 : ((w.alloc (.cells #[.int .u32 (t : Int), .int .u64 (b : Int), .int .i64 z, .int .i64 k] 88)).alloc (.cells #[.int .u32 (t' : Int), .int .u64 (b' : Int), .int .i64 z', .int .i64 k'] 88)).cell? ⟨w.heap.size, 1, none⟩ = some (.int .u64 (b : Int)) := by go_simp
  have b0 : ((w.alloc (.cells #[.int .u32 (t : Int), .int .u64 (b : Int), .int .i64 z, .int .i64 k] 88)).alloc (.cells #[.int .u32 (t' : Int), .int .u64 (b' : Int), .int .i64 z', .int .i64 k'] 88)).cell? ⟨w.heap.size + 1, 0, none⟩ = some (.int .u32 (t' : Int)) := by go_simp
  have b1 : ((w.alloc (.cells #[.int .u32 (t : Int), .int .u64 (b : Int), .int .i64 z, .int .i64 k] 88)).alloc (.cells #[.int .u32 (t' : Int), .int .u64 (b' : Int), .int .i64 z', .int .i64 k'] 88)).cell? ⟨w.heap.size + 1, 1, none⟩ = some (.int .u64 (b' : Int)) := by go_simp
  go_enter Try.func68, Try.ntmps68
  go_wp2
  obtain ⟨W, hW⟩ : ∃ W, (w.alloc (.cells #[.int .u32 (t : Int), .int .u64 (b : Int), .int .i64 z, .int .i64 k] 88)).alloc (.cells #[.int .u32 (t' : Int), .int .u64 (b' : Int), .int .i64 z', .int .i64 k'] 88) = W := ⟨_, rfl⟩
  obtain ⟨g, hg⟩ : ∃ g, w.heap.size = g := ⟨_, rfl⟩
  rw [hW] at a0 a1 b0 b1 hA ⊢
  rw [hg] at a0 a1 b0 b1 ⊢
  have HG := Aside0.mk hg
  clear hW hg
  obtain ⟨c1, hc1⟩ : ∃ c, cmpN t t' = c := ⟨_, rfl⟩
  obtain ⟨c2, hc2⟩ : ∃ c, cmpN b b' = c := ⟨_, rfl⟩
  have HC1 := Aside0.mk hc1
  have HC2 := Aside0.mk hc2
  have HL := Aside0.mk (Kd.C_below (lit2 W c1 c2 (by rw [← hc1]; exact cmpN_wf _ _) (by rw [← hc2]; exact cmpN_wf _ _)) (below_drew (Below.refl _ _)))
  clear hc1 hc2
  go_region_held3 (fun w' => w'.cell? ⟨g, 0, none⟩ = some (.int .u32 (t : Int)) ∧ w'.cell? ⟨g, 1, none⟩ = some (.int .u64 (b : Int)) ∧ w'.cell? ⟨g + 1, 0, none⟩ = some (.int .u32 (t' : Int)) ∧ w'.cell? ⟨g + 1, 1, none⟩ = some (.int .u64 (b' : Int)))
    (first
      | exact ⟨a0, a1, b0, b1⟩
      | exact ⟨pw_cell_below (below_drew (alloc_below _ _)) a0, pw_cell_below (below_drew (alloc_below _ _)) a1, pw_cell_below (below_drew (alloc_below _ _)) b0, pw_cell_below (below_drew (alloc_below _ _)) b1⟩)
    (first
      | (go_at_call 83; (with_reducible refine (cmp32_calls t t' _).mono ?_); rintro e w8 ⟨rfl, rfl⟩; rw [HC1.out])
      | (go_at_call 84; (with_reducible refine (cmp64_calls b b' _).mono ?_); rintro e w8 ⟨rfl, rfl⟩; rw [HC2.out])
      | (go_at_call 82; (with_reducible refine (or_calls _ 2 2 [c1, c2] _ HL.out).mono ?_); rintro e w8 ⟨rfl, rfl⟩))
  go_wp2
  go_ret
  exact ⟨by unfold cmpP; rw [HC1.out, HC2.out]; rfl, by first | exact below_drew (below_alloc hA.out _) | (have := HG.out; subst this; exact below_drew (below_alloc hA.out _))⟩
end Go.Proofs.Ytkmeipblgdahoaa.Ck
namespace Go.Proofs.Ytkmeipblgdahoaa.Ck
open Go.RowKit Go.Proofs.YtkmeipblgdahoaaW.PrintWords Go.Proofs.YtkmeipblgdahoaaW.PrintMore Go.Proofs.Ytkmeipblgdahoaa.Base
set_option linter.unusedVariables false
set_option linter.unusedSimpArgs false
def plK : Kd Plc := Kd.pair (nat .u32) (Kd.pair (nat .u64) (Kd.pair (num .i64) (num .i64)))
def I64 (x : Int) : Prop := -9223372036854775808 ≤ x ∧ x ≤ 9223372036854775807
theorem plK_open {w : World} {x : Plc} {c : List Value} (h : plK.K w x c) : c = (plV x).toList ∧ PlcOk x ∧ I64 x.2.2.1 ∧ I64 x.2.2.2 := by
  obtain ⟨c0, c1, rfl, ⟨rfl, h0⟩, c2, c3, rfl, ⟨rfl, h1⟩, c4, c5, rfl, ⟨rfl, h2⟩, ⟨rfl, h3⟩⟩ := h
  refine ⟨rfl, ⟨?_, ?_⟩, wf_i64 h2, wf_i64 h3⟩
  · have := wf_u32' h0; omega
  · have := wf_u64' h1; omega
theorem wfI {x : Int} (h : I64 x) : (Lit.int .i64 x).wf = true := by
  obtain ⟨h1, h2⟩ := h
  simp [Lit.wf, IntKind.min, IntKind.max, IntKind.bits, IntKind.signed]
  omega
theorem wfU {k : IntKind} {n : Nat} (hs : k.signed = false) (h : (n : Int) < 2 ^ k.bits) : (Lit.int k (n : Int)).wf = true := by
  simp only [Lit.wf, IntKind.min, IntKind.max, hs, decide_eq_true_eq, Bool.and_eq_true, Bool.false_eq_true, if_false]
  exact ⟨by omega, by omega⟩
theorem plK_mk {w : World} {x : Plc} (h : PlcOk x) (h3 : I64 x.2.2.1) (h4 : I64 x.2.2.2) : plK.K w x (plV x).toList := by
  obtain ⟨h1, h2⟩ := h
  exact ⟨[.int .u32 (x.1 : Int)], _, rfl, ⟨rfl, wfU rfl (by show (x.1 : Int) < 4294967296; omega)⟩, [.int .u64 (x.2.1 : Int)], _, rfl, ⟨rfl, wfU rfl (by show (x.2.1 : Int) < 18446744073709551616; omega)⟩,
    [.int .i64 x.2.2.1], _, rfl, ⟨rfl, wfI h3⟩, ⟨rfl, wfI h4⟩⟩
theorem pl_at {w : World} {A : Option Addr} {n : Nat} {xs : List Plc} (h : plK.C w A n xs) (i : Nat) (hi : i < n) {p : Plc} (hp : xs.getD i plc0 = p) :
    ∃ ad, A = some ad ∧ PlcOk p ∧ I64 p.2.2.1 ∧ I64 p.2.2.2 ∧ w.cell? (ad.add (i * 4)) = some (.int .u32 (p.1 : Int)) ∧ w.cell? ⟨(ad.add (i * 4)).block, (ad.add (i * 4)).off + 1, none⟩ = some (.int .u64 (p.2.1 : Int)) ∧
      w.cell? ⟨(ad.add (i * 4)).block, (ad.add (i * 4)).off + 2, none⟩ = some (.int .i64 p.2.2.1) ∧ w.cell? ⟨(ad.add (i * 4)).block, (ad.add (i * 4)).off + 3, none⟩ = some (.int .i64 p.2.2.2) := by
  subst hp
  obtain ⟨ad, c, e, _, hK, hc⟩ := ReadsRow.get_ h plc0 (i : Int) (by omega) (by omega)
  rw [Int.toNat_natCast] at hc hK
  obtain ⟨rfl, ho, h3, h4⟩ := plK_open hK
  have hsz : plK.sz = 4 := rfl
  rw [hsz] at hc
  exact ⟨ad, e, ho, h3, h4, hc 0 _ rfl, cell_fld (hc 1 _ rfl) (by decide), cell_fld (hc 2 _ rfl) (by decide), cell_fld (hc 3 _ rfl) (by decide)⟩
theorem opn_plc : Opn Try.prog 88 plK :=
  Opn.struct Try.underlying88 (by kernel_rfl) (OpnFs.cons rfl (by kernel_rfl) (Opn.nat Try.underlying86 (fun n h => (wf_u32' h).1)) (OpnFs.cons rfl (by kernel_rfl) (Opn.nat Try.underlying24 (fun n h => (wf_u64' h).1))
    (OpnFs.last rfl (by kernel_rfl) (Opn.struct Try.underlying59 (by kernel_rfl) (OpnFs.cons rfl (by kernel_rfl) (Opn.num Try.underlying3) (OpnFs.last rfl (by kernel_rfl) (Opn.num Try.underlying3)))))))
/-- compare says below nought just where the one stands ahead of the other. -/
theorem cmpP_neg (a b : Plc) : cmpP a b < 0 ↔ Below2 a b := by
  unfold cmpP Below2 cmpN
  by_cases h1 : a.1 < b.1
  · simp [orL, h1]
  · by_cases h2 : b.1 < a.1
    · have : ¬ a.1 = b.1 := by omega
      simp [orL, h1, h2, this]
    · have h3 : a.1 = b.1 := by omega
      by_cases h4 : a.2.1 < b.2.1
      · simp [orL, h3, h4]
      · by_cases h5 : b.2.1 < a.2.1
        · simp [orL, h3, h4, h5]
        · simp [orL, h3, h4, h5]
theorem cmpP_ge (a b : Plc) : decide (0 ≤ cmpP a b) = !decide (Below2 a b) := by
  have := cmpP_neg a b
  by_cases h : Below2 a b
  · rw [decide_eq_true h, decide_eq_false (by have := this.2 h; omega)]; rfl
  · rw [decide_eq_false h, decide_eq_true (by have : ¬ cmpP a b < 0 := fun hh => h (this.1 hh); omega)]; rfl
end Go.Proofs.Ytkmeipblgdahoaa.Ck
namespace Go.Proofs.Ytkmeipblgdahoaa.Ck
open Go.RowKit Go.Proofs.YtkmeipblgdahoaaW.PrintWords Go.Proofs.YtkmeipblgdahoaaW.PrintMore Go.Proofs.Ytkmeipblgdahoaa.Base
set_option linter.unusedVariables false
set_option linter.unusedSimpArgs false
/-- What the tests read: the shape's two, the address's two. -/
def M4 (w : World) (g gp : Nat) (z zb pz pk : Int) : Prop := w.cell? ⟨g, 0, none⟩ = some (.int .i64 z) ∧ w.cell? ⟨g, 1, none⟩ = some (.int .i64 zb) ∧ w.cell? ⟨gp + 1, 0, none⟩ = some (.int .i64 pz) ∧ w.cell? ⟨gp + 1, 1, none⟩ = some (.int .i64 pk)
theorem M4.below {w w1 : World} {g gp : Nat} {z zb pz pk : Int} (h : M4 w g gp z zb pz pk) (hb : Below w.heap.size w w1) : M4 w1 g gp z zb pz pk :=
  ⟨pw_cell_below hb h.1, pw_cell_below hb h.2.1, pw_cell_below hb h.2.2.1, pw_cell_below hb h.2.2.2⟩
/-- A place's cells at an address. -/
def P4 (w : World) (a : Addr) (x : Plc) : Prop := w.cell? a = some (.int .u32 (x.1 : Int)) ∧ w.cell? ⟨a.block, a.off + 1, none⟩ = some (.int .u64 (x.2.1 : Int)) ∧ w.cell? ⟨a.block, a.off + 2, none⟩ = some (.int .i64 x.2.2.1) ∧ w.cell? ⟨a.block, a.off + 3, none⟩ = some (.int .i64 x.2.2.2)
theorem P4.below {w w1 : World} {a : Addr} {x : Plc} (h : P4 w a x) (hb : Below w.heap.size w w1) : P4 w1 a x :=
  ⟨pw_cell_below hb h.1, pw_cell_below hb h.2.1, pw_cell_below hb h.2.2.1, pw_cell_below hb h.2.2.2⟩
theorem M12 {w : World} {g gp : Nat} {z zb pz pk : Int} {a : Addr} {x y : Plc} (h : M4 w g gp z zb pz pk) (hp : P4 w ⟨gp, 0, none⟩ x) (hq : P4 w a y) :
    w.cell? ⟨g, 0, none⟩ = some (.int .i64 z) ∧ w.cell? ⟨g, 1, none⟩ = some (.int .i64 zb) ∧ w.cell? ⟨gp + 1, 0, none⟩ = some (.int .i64 pz) ∧ w.cell? ⟨gp + 1, 1, none⟩ = some (.int .i64 pk) ∧
    w.cell? ⟨gp, 0, none⟩ = some (.int .u32 (x.1 : Int)) ∧ w.cell? ⟨gp, 1, none⟩ = some (.int .u64 (x.2.1 : Int)) ∧ w.cell? ⟨gp, 2, none⟩ = some (.int .i64 x.2.2.1) ∧ w.cell? ⟨gp, 3, none⟩ = some (.int .i64 x.2.2.2) ∧
    w.cell? a = some (.int .u32 (y.1 : Int)) ∧ w.cell? ⟨a.block, a.off + 1, none⟩ = some (.int .u64 (y.2.1 : Int)) ∧ w.cell? ⟨a.block, a.off + 2, none⟩ = some (.int .i64 y.2.2.1) ∧ w.cell? ⟨a.block, a.off + 3, none⟩ = some (.int .i64 y.2.2.2) :=
  ⟨h.1, h.2.1, h.2.2.1, h.2.2.2, hp.1, hp.2.1, hp.2.2.1, hp.2.2.2, hq.1, hq.2.1, hq.2.2.1, hq.2.2.2⟩
set_option maxRecDepth 100000 in
set_option maxHeartbeats 4000000 in
theorem may_calls (z zb b r : Int) (A : Option Addr) (n c : Nat) (l : List Plc) (w : World) (h : plK.C w A n l) :
    Calls Try.prog 36 #[.agg #[.int .i64 z, .int .i64 zb, .int .i64 b, .int .i64 r], .slice A n c] w fun e w' => e = .returned (.bool (decide (MayP z zb l))) ∧ Below w.heap.size w w' := by
  obtain ⟨hl, hm⟩ := C_len h
  have HL := Aside0.mk hl
  have HC := Aside0.mk h
  have HA := Aside0.mk (alloc_below w (.cells #[.int .i64 z, .int .i64 zb, .int .i64 b, .int .i64 r] 23))
  have HX := Aside0.mk (show (w.alloc (.cells #[.int .i64 z, .int .i64 zb, .int .i64 b, .int .i64 r] 23)).heap[w.heap.size]? = some (.cells #[.int .i64 z, .int .i64 zb, .int .i64 b, .int .i64 r] 23 (0, 0)) from blk_here rfl)
  clear h hl
  go_enter Try.func36, Try.ntmps36
  go_wp2
  obtain ⟨g, hg⟩ : ∃ g, w.heap.size = g := ⟨_, rfl⟩
  obtain ⟨W, hW⟩ : ∃ W, w.alloc (.cells #[.int .i64 z, .int .i64 zb, .int .i64 b, .int .i64 r] 23) = W := ⟨_, rfl⟩
  rw [hW] at HX HA ⊢
  rw [hg] at HX ⊢
  have HG := Aside0.mk hg
  clear hW hg
  go_loopg [10] n (fun g1 v10 wr => ∃ i : Nat, v10 = .int .i64 (i : Int) ∧ i ≤ n ∧ Aside0 (g1 + i = n) ∧ Aside0 (∀ j, j < i → InIt z zb (l.getD j plc0)) ∧ Aside0 (∀ j, j + 1 < i → Below2 (l.getD j plc0) (l.getD (j + 1) plc0)) ∧ Aside0 (wr.heap[g]? = some (.cells #[.int .i64 z, .int .i64 zb, .int .i64 b, .int .i64 r] 23 (0, 0))) ∧ Aside0 (Below w.heap.size w wr))
  case atStart => exact ⟨0, rfl, Nat.zero_le _, ⟨rfl⟩, ⟨fun j hj => by omega⟩, ⟨fun j hj => by omega⟩, HX, HA⟩
  case round =>
    obtain ⟨i, rfl, hi, HK, HIN, HRI, HXr, HBr⟩ := hrel
    by_cases hlt : i < n
    · have hd0 : decide ((i : Int) < (n : Int)) = true := decide_eq_true (by omega)
      have hd0' : decide (i < n) = true := decide_eq_true hlt
      have hi0 : (0 : Int) ≤ (i : Int) := by omega
      have hi1 : (i : Int) < (n : Int) := by omega
      obtain ⟨p, hp⟩ : ∃ p, l.getD i plc0 = p := ⟨_, rfl⟩
      obtain ⟨ad, rfl, ho, hz3, hz4, e0, e1, e2, e3⟩ := pl_at (Kd.C_below HC.out HBr.out) i hlt hp
      have HP := Aside0.mk hp
      have HO := Aside0.mk ho
      have HZ := Aside0.mk (And.intro hz3 hz4)
      obtain ⟨pt, pb, pz, pk⟩ := p
      dsimp only at e0 e1 e2 e3
      clear hp ho hz3 hz4
      go_wp2
      obtain ⟨gp, hgp⟩ : ∃ gp, wr.heap.size = gp := ⟨_, rfl⟩
      have HXX := Aside0.mk (show Below wr.heap.size wr ((wr.alloc (.cells #[.int .u32 (pt : Int), .int .u64 (pb : Int), .int .i64 pz, .int .i64 pk] 88)).alloc (.cells #[.int .i64 pz, .int .i64 pk] 59)) from below_alloc (alloc_below _ _) _)
      have HP4 := Aside0.mk (show P4 ((wr.alloc (.cells #[.int .u32 (pt : Int), .int .u64 (pb : Int), .int .i64 pz, .int .i64 pk] 88)).alloc (.cells #[.int .i64 pz, .int .i64 pk] 59)) ⟨wr.heap.size, 0, none⟩ (pt, pb, pz, pk) from ⟨by go_simp, by go_simp, by go_simp, by go_simp⟩)
      have HM4 := Aside0.mk (show M4 ((wr.alloc (.cells #[.int .u32 (pt : Int), .int .u64 (pb : Int), .int .i64 pz, .int .i64 pk] 88)).alloc (.cells #[.int .i64 pz, .int .i64 pk] 59)) g wr.heap.size z zb pz pk from ⟨pw_cell_below HXX.out (by simp [World.cell?, HXr.out]), pw_cell_below HXX.out (by simp [World.cell?, HXr.out]), by go_simp, by go_simp⟩)
      obtain ⟨X, hX⟩ : ∃ X, (wr.alloc (.cells #[.int .u32 (pt : Int), .int .u64 (pb : Int), .int .i64 pz, .int .i64 pk] 88)).alloc (.cells #[.int .i64 pz, .int .i64 pk] 59) = X := ⟨_, rfl⟩
      rw [hX] at HXX HP4 HM4 ⊢
      rw [hgp] at HP4 HM4 ⊢
      have HBX := Aside0.mk (below_go HBr.out HXX.out)
      have HXS := Aside0.mk ((HXX.out.block g (Array.getElem?_eq_some_iff.1 HXr.out).1).trans HXr.out)
      clear hX hgp e0 e1 e2 e3
      have HNI := Aside0.mk (show ¬ InIt z zb (pt, pb, pz, pk) → decide (MayP z zb l) = false from fun hn => decide_eq_false (fun hh => hn (by rw [← HP.out, List.getD_eq_getElem?_getD, List.getElem?_eq_getElem (by rw [HL.out]; exact hlt)]; exact hh.1 _ (List.getElem_mem _))))
      by_cases ht1 : pz < 2
      · have qt1 : decide (pz < 2) = true := decide_eq_true ht1
        have HNM := Aside0.mk (HNI.out (fun hh => by have h1 := hh.1; have h2 := hh.2.1; have h3 := hh.2.2.1; have h4 := hh.2.2.2; dsimp only at h1 h2 h3 h4; omega))
        clear ht1
        refine wp_region_held_drew (S := fun w' => w'.cell? ⟨g, 0, none⟩ = some (.int .i64 z) ∧ w'.cell? ⟨g, 1, none⟩ = some (.int .i64 zb) ∧ w'.cell? ⟨gp + 1, 0, none⟩ = some (.int .i64 pz) ∧ w'.cell? ⟨gp + 1, 1, none⟩ = some (.int .i64 pk)) (by kernel_rfl) (HM4.out.below (below_drew (Below.refl X.heap.size X))) (fun hHeld => ?_)
        refine wpAnyH_take (i := 0) (oi := { dst := some 17, op := Op.fieldAddr 59 (Operand.tmp 7) 0, type := 0, pos := "ckpt.go:41", after := #[], guard := none }) (v := ?_) rfl (by kernel_rfl) (by kernel_rfl) (by kernel_rfl) (fun _ _ _ h => h) (Or.inl ⟨by rfl, ?_⟩) (by assumption) ?_
        rotate_left
        · (intro w hSw; (try dsimp only at hSw); go_simp; (try with_reducible rfl))
        (try simp only [Act.put, List.setIfInBounds_toArray, List.set_cons_zero, List.set_cons_succ])
        refine wpAnyH_take (i := 1) (oi := { dst := some 18, op := Op.load 3 (Operand.tmp 17), type := 3, pos := "ckpt.go:41", after := #[{ on := 0, ground := Ground.data }], guard := none }) (v := ?_) rfl (by kernel_rfl) (by kernel_rfl) (by kernel_rfl) (fun _ _ _ h => h) (Or.inl ⟨by rfl, ?_⟩) (by assumption) ?_
        rotate_left
        · (intro w hSw; (try dsimp only at hSw); go_simp; (try with_reducible rfl))
        (try simp only [Act.put, List.setIfInBounds_toArray, List.set_cons_zero, List.set_cons_succ])
        refine wpAnyH_take (i := 2) (oi := { dst := some 19, op := Op.binOp BinOp.lss 3 (Operand.tmp 18) (Operand.const (Value.int IntKind.i64 2)) 3, type := 4, pos := "ckpt.go:41", after := #[{ on := 1, ground := Ground.data }], guard := none }) (v := ?_) rfl (by kernel_rfl) (by kernel_rfl) (by kernel_rfl) (fun _ _ _ h => h) (Or.inl ⟨by rfl, ?_⟩) (by assumption) ?_
        rotate_left
        · (intro w hSw; (try dsimp only at hSw); go_simp; (try with_reducible rfl))
        (try simp only [Act.put, List.setIfInBounds_toArray, List.set_cons_zero, List.set_cons_succ])
        refine wpAnyH_take (i := 3) (oi := { dst := some 20, op := Op.move (Operand.tmp 19), type := 4, pos := "ckpt.go:41", after := #[{ on := 2, ground := Ground.data }], guard := none }) (v := ?_) rfl (by kernel_rfl) (by kernel_rfl) (by kernel_rfl) (fun _ _ _ h => h) (Or.inl ⟨by rfl, ?_⟩) (by assumption) ?_
        rotate_left
        · (intro w hSw; (try dsimp only at hSw); go_simp; (try with_reducible rfl))
        (try simp only [Act.put, List.setIfInBounds_toArray, List.set_cons_zero, List.set_cons_succ])
        refine wpAnyH_take (i := 4) (oi := { dst := some 21, op := Op.fieldAddr 59 (Operand.tmp 7) 0, type := 0, pos := "ckpt.go:41", after := #[{ on := 3, ground := Ground.guard }], guard := some (3, false) }) (v := undef) rfl (by kernel_rfl) (by kernel_rfl) (by kernel_rfl) (fun _ _ _ h => h) (Or.inr ⟨by rfl, rfl⟩) (by assumption) ?_
        (try simp only [Act.put, List.setIfInBounds_toArray, List.set_cons_zero, List.set_cons_succ])
        refine wpAnyH_take (i := 5) (oi := { dst := some 22, op := Op.load 3 (Operand.tmp 21), type := 3, pos := "ckpt.go:41", after := #[{ on := 4, ground := Ground.data }, { on := 3, ground := Ground.guard }], guard := some (3, false) }) (v := undef) rfl (by kernel_rfl) (by kernel_rfl) (by kernel_rfl) (fun _ _ _ h => h) (Or.inr ⟨by rfl, rfl⟩) (by assumption) ?_
        (try simp only [Act.put, List.setIfInBounds_toArray, List.set_cons_zero, List.set_cons_succ])
        refine wpAnyH_take (i := 6) (oi := { dst := some 23, op := Op.fieldAddr 23 (Operand.tmp 2) 0, type := 0, pos := "ckpt.go:41", after := #[{ on := 3, ground := Ground.guard }], guard := some (3, false) }) (v := undef) rfl (by kernel_rfl) (by kernel_rfl) (by kernel_rfl) (fun _ _ _ h => h) (Or.inr ⟨by rfl, rfl⟩) (by assumption) ?_
        (try simp only [Act.put, List.setIfInBounds_toArray, List.set_cons_zero, List.set_cons_succ])
        refine wpAnyH_take (i := 7) (oi := { dst := some 24, op := Op.load 3 (Operand.tmp 23), type := 3, pos := "ckpt.go:41", after := #[{ on := 6, ground := Ground.data }, { on := 3, ground := Ground.guard }], guard := some (3, false) }) (v := undef) rfl (by kernel_rfl) (by kernel_rfl) (by kernel_rfl) (fun _ _ _ h => h) (Or.inr ⟨by rfl, rfl⟩) (by assumption) ?_
        (try simp only [Act.put, List.setIfInBounds_toArray, List.set_cons_zero, List.set_cons_succ])
        refine wpAnyH_take (i := 8) (oi := { dst := some 25, op := Op.binOp BinOp.geq 3 (Operand.tmp 22) (Operand.tmp 24) 3, type := 4, pos := "ckpt.go:41", after := #[{ on := 5, ground := Ground.data }, { on := 7, ground := Ground.data }, { on := 3, ground := Ground.guard }], guard := some (3, false) }) (v := undef) rfl (by kernel_rfl) (by kernel_rfl) (by kernel_rfl) (fun _ _ _ h => h) (Or.inr ⟨by rfl, rfl⟩) (by assumption) ?_
        (try simp only [Act.put, List.setIfInBounds_toArray, List.set_cons_zero, List.set_cons_succ])
        refine wpAnyH_take (i := 9) (oi := { dst := some 26, op := Op.pick (Operand.tmp 20) (Operand.const (Value.bool true)) (Operand.tmp 25), type := 4, pos := "ckpt.go:41", after := #[{ on := 3, ground := Ground.data }, { on := 8, ground := Ground.data }], guard := none }) (v := ?_) rfl (by kernel_rfl) (by kernel_rfl) (by kernel_rfl) (fun _ _ _ h => h) (Or.inl ⟨by rfl, ?_⟩) (by assumption) ?_
        rotate_left
        · (intro w hSw; (try dsimp only at hSw); go_simp; (try with_reducible rfl))
        (try simp only [Act.put, List.setIfInBounds_toArray, List.set_cons_zero, List.set_cons_succ])
        refine wpAnyH_take (i := 10) (oi := { dst := some 27, op := Op.move (Operand.tmp 26), type := 4, pos := "ckpt.go:41", after := #[{ on := 9, ground := Ground.data }, { on := 3, ground := Ground.chain }], guard := none }) (v := ?_) rfl (by kernel_rfl) (by kernel_rfl) (by kernel_rfl) (fun _ _ _ h => h) (Or.inl ⟨by rfl, ?_⟩) (by assumption) ?_
        rotate_left
        · (intro w hSw; (try dsimp only at hSw); go_simp; (try with_reducible rfl))
        (try simp only [Act.put, List.setIfInBounds_toArray, List.set_cons_zero, List.set_cons_succ])
        refine wpAnyH_take (i := 11) (oi := { dst := some 28, op := Op.fieldAddr 59 (Operand.tmp 7) 1, type := 0, pos := "ckpt.go:41", after := #[{ on := 10, ground := Ground.guard }], guard := some (10, false) }) (v := undef) rfl (by kernel_rfl) (by kernel_rfl) (by kernel_rfl) (fun _ _ _ h => h) (Or.inr ⟨by rfl, rfl⟩) (by assumption) ?_
        (try simp only [Act.put, List.setIfInBounds_toArray, List.set_cons_zero, List.set_cons_succ])
        refine wpAnyH_take (i := 12) (oi := { dst := some 29, op := Op.load 3 (Operand.tmp 28), type := 3, pos := "ckpt.go:41", after := #[{ on := 11, ground := Ground.data }, { on := 10, ground := Ground.guard }], guard := some (10, false) }) (v := undef) rfl (by kernel_rfl) (by kernel_rfl) (by kernel_rfl) (fun _ _ _ h => h) (Or.inr ⟨by rfl, rfl⟩) (by assumption) ?_
        (try simp only [Act.put, List.setIfInBounds_toArray, List.set_cons_zero, List.set_cons_succ])
        refine wpAnyH_take (i := 13) (oi := { dst := some 30, op := Op.binOp BinOp.lss 3 (Operand.tmp 29) (Operand.const (Value.int IntKind.i64 0)) 3, type := 4, pos := "ckpt.go:41", after := #[{ on := 12, ground := Ground.data }, { on := 10, ground := Ground.guard }], guard := some (10, false) }) (v := undef) rfl (by kernel_rfl) (by kernel_rfl) (by kernel_rfl) (fun _ _ _ h => h) (Or.inr ⟨by rfl, rfl⟩) (by assumption) ?_
        (try simp only [Act.put, List.setIfInBounds_toArray, List.set_cons_zero, List.set_cons_succ])
        refine wpAnyH_take (i := 14) (oi := { dst := some 31, op := Op.pick (Operand.tmp 27) (Operand.const (Value.bool true)) (Operand.tmp 30), type := 4, pos := "ckpt.go:41", after := #[{ on := 10, ground := Ground.data }, { on := 13, ground := Ground.data }], guard := none }) (v := ?_) rfl (by kernel_rfl) (by kernel_rfl) (by kernel_rfl) (fun _ _ _ h => h) (Or.inl ⟨by rfl, ?_⟩) (by assumption) ?_
        rotate_left
        · (intro w hSw; (try dsimp only at hSw); go_simp; (try with_reducible rfl))
        (try simp only [Act.put, List.setIfInBounds_toArray, List.set_cons_zero, List.set_cons_succ])
        refine wpAnyH_take (i := 15) (oi := { dst := some 32, op := Op.move (Operand.tmp 31), type := 4, pos := "ckpt.go:41", after := #[{ on := 14, ground := Ground.data }, { on := 10, ground := Ground.chain }], guard := none }) (v := ?_) rfl (by kernel_rfl) (by kernel_rfl) (by kernel_rfl) (fun _ _ _ h => h) (Or.inl ⟨by rfl, ?_⟩) (by assumption) ?_
        rotate_left
        · (intro w hSw; (try dsimp only at hSw); go_simp; (try with_reducible rfl))
        (try simp only [Act.put, List.setIfInBounds_toArray, List.set_cons_zero, List.set_cons_succ])
        refine wpAnyH_take (i := 16) (oi := { dst := some 33, op := Op.fieldAddr 59 (Operand.tmp 7) 1, type := 0, pos := "ckpt.go:41", after := #[{ on := 15, ground := Ground.guard }], guard := some (15, false) }) (v := undef) rfl (by kernel_rfl) (by kernel_rfl) (by kernel_rfl) (fun _ _ _ h => h) (Or.inr ⟨by rfl, rfl⟩) (by assumption) ?_
        (try simp only [Act.put, List.setIfInBounds_toArray, List.set_cons_zero, List.set_cons_succ])
        refine wpAnyH_take (i := 17) (oi := { dst := some 34, op := Op.load 3 (Operand.tmp 33), type := 3, pos := "ckpt.go:41", after := #[{ on := 16, ground := Ground.data }, { on := 15, ground := Ground.guard }], guard := some (15, false) }) (v := undef) rfl (by kernel_rfl) (by kernel_rfl) (by kernel_rfl) (fun _ _ _ h => h) (Or.inr ⟨by rfl, rfl⟩) (by assumption) ?_
        (try simp only [Act.put, List.setIfInBounds_toArray, List.set_cons_zero, List.set_cons_succ])
        refine wpAnyH_take (i := 18) (oi := { dst := some 35, op := Op.fieldAddr 23 (Operand.tmp 2) 1, type := 0, pos := "ckpt.go:41", after := #[{ on := 15, ground := Ground.guard }], guard := some (15, false) }) (v := undef) rfl (by kernel_rfl) (by kernel_rfl) (by kernel_rfl) (fun _ _ _ h => h) (Or.inr ⟨by rfl, rfl⟩) (by assumption) ?_
        (try simp only [Act.put, List.setIfInBounds_toArray, List.set_cons_zero, List.set_cons_succ])
        refine wpAnyH_take (i := 19) (oi := { dst := some 36, op := Op.load 3 (Operand.tmp 35), type := 3, pos := "ckpt.go:41", after := #[{ on := 18, ground := Ground.data }, { on := 15, ground := Ground.guard }], guard := some (15, false) }) (v := undef) rfl (by kernel_rfl) (by kernel_rfl) (by kernel_rfl) (fun _ _ _ h => h) (Or.inr ⟨by rfl, rfl⟩) (by assumption) ?_
        (try simp only [Act.put, List.setIfInBounds_toArray, List.set_cons_zero, List.set_cons_succ])
        refine wpAnyH_take (i := 20) (oi := { dst := some 37, op := Op.binOp BinOp.geq 3 (Operand.tmp 34) (Operand.tmp 36) 3, type := 4, pos := "ckpt.go:41", after := #[{ on := 17, ground := Ground.data }, { on := 19, ground := Ground.data }, { on := 15, ground := Ground.guard }], guard := some (15, false) }) (v := undef) rfl (by kernel_rfl) (by kernel_rfl) (by kernel_rfl) (fun _ _ _ h => h) (Or.inr ⟨by rfl, rfl⟩) (by assumption) ?_
        (try simp only [Act.put, List.setIfInBounds_toArray, List.set_cons_zero, List.set_cons_succ])
        refine wpAnyH_take (i := 21) (oi := { dst := some 38, op := Op.pick (Operand.tmp 32) (Operand.const (Value.bool true)) (Operand.tmp 37), type := 4, pos := "ckpt.go:41", after := #[{ on := 15, ground := Ground.data }, { on := 20, ground := Ground.data }], guard := none }) (v := ?_) rfl (by kernel_rfl) (by kernel_rfl) (by kernel_rfl) (fun _ _ _ h => h) (Or.inl ⟨by rfl, ?_⟩) (by assumption) ?_
        rotate_left
        · (intro w hSw; (try dsimp only at hSw); go_simp; (try with_reducible rfl))
        (try simp only [Act.put, List.setIfInBounds_toArray, List.set_cons_zero, List.set_cons_succ])
        refine wpAnyH_take (i := 22) (oi := { dst := some 39, op := Op.move (Operand.tmp 38), type := 4, pos := "ckpt.go:41", after := #[{ on := 21, ground := Ground.data }, { on := 15, ground := Ground.chain }], guard := none }) (v := ?_) rfl (by kernel_rfl) (by kernel_rfl) (by kernel_rfl) (fun _ _ _ h => h) (Or.inl ⟨by rfl, ?_⟩) (by assumption) ?_
        rotate_left
        · (intro w hSw; (try dsimp only at hSw); go_simp; (try with_reducible rfl))
        (try simp only [Act.put, List.setIfInBounds_toArray, List.set_cons_zero, List.set_cons_succ])
        refine wpAnyH_take (i := 23) (oi := { dst := some 40, op := Op.move (Operand.tmp 5), type := 3, pos := "ckpt.go:41", after := #[{ on := 22, ground := Ground.guard }], guard := some (22, false) }) (v := undef) rfl (by kernel_rfl) (by kernel_rfl) (by kernel_rfl) (fun _ _ _ h => h) (Or.inr ⟨by rfl, rfl⟩) (by assumption) ?_
        (try simp only [Act.put, List.setIfInBounds_toArray, List.set_cons_zero, List.set_cons_succ])
        refine wpAnyH_take (i := 24) (oi := { dst := some 41, op := Op.binOp BinOp.gtr 3 (Operand.tmp 40) (Operand.const (Value.int IntKind.i64 0)) 3, type := 4, pos := "ckpt.go:41", after := #[{ on := 23, ground := Ground.data }, { on := 22, ground := Ground.guard }], guard := some (22, false) }) (v := undef) rfl (by kernel_rfl) (by kernel_rfl) (by kernel_rfl) (fun _ _ _ h => h) (Or.inr ⟨by rfl, rfl⟩) (by assumption) ?_
        (try simp only [Act.put, List.setIfInBounds_toArray, List.set_cons_zero, List.set_cons_succ])
        refine wpAnyH_take (i := 25) (oi := { dst := some 42, op := Op.move (Operand.tmp 41), type := 4, pos := "ckpt.go:41", after := #[{ on := 24, ground := Ground.data }, { on := 22, ground := Ground.chain }, { on := 22, ground := Ground.guard }], guard := some (22, false) }) (v := undef) rfl (by kernel_rfl) (by kernel_rfl) (by kernel_rfl) (fun _ _ _ h => h) (Or.inr ⟨by rfl, rfl⟩) (by assumption) ?_
        (try simp only [Act.put, List.setIfInBounds_toArray, List.set_cons_zero, List.set_cons_succ])
        refine wpAnyH_take (i := 26) (oi := { dst := some 43, op := Op.move (Operand.tmp 1), type := 25, pos := "ckpt.go:41", after := #[{ on := 25, ground := Ground.guard }], guard := some (25, true) }) (v := undef) rfl (by kernel_rfl) (by kernel_rfl) (by kernel_rfl) (fun _ _ _ h => h) (Or.inr ⟨by rfl, rfl⟩) (by assumption) ?_
        (try simp only [Act.put, List.setIfInBounds_toArray, List.set_cons_zero, List.set_cons_succ])
        refine wpAnyH_take (i := 27) (oi := { dst := some 44, op := Op.move (Operand.tmp 5), type := 3, pos := "ckpt.go:41", after := #[{ on := 25, ground := Ground.guard }], guard := some (25, true) }) (v := undef) rfl (by kernel_rfl) (by kernel_rfl) (by kernel_rfl) (fun _ _ _ h => h) (Or.inr ⟨by rfl, rfl⟩) (by assumption) ?_
        (try simp only [Act.put, List.setIfInBounds_toArray, List.set_cons_zero, List.set_cons_succ])
        refine wpAnyH_take (i := 28) (oi := { dst := some 45, op := Op.binOp BinOp.sub 3 (Operand.tmp 44) (Operand.const (Value.int IntKind.i64 1)) 3, type := 3, pos := "ckpt.go:41", after := #[{ on := 27, ground := Ground.data }, { on := 25, ground := Ground.guard }], guard := some (25, true) }) (v := undef) rfl (by kernel_rfl) (by kernel_rfl) (by kernel_rfl) (fun _ _ _ h => h) (Or.inr ⟨by rfl, rfl⟩) (by assumption) ?_
        (try simp only [Act.put, List.setIfInBounds_toArray, List.set_cons_zero, List.set_cons_succ])
        refine wpAnyH_take (i := 29) (oi := { dst := some 46, op := Op.indexAddr 25 (Operand.tmp 43) (Operand.tmp 45), type := 0, pos := "ckpt.go:41", after := #[{ on := 26, ground := Ground.data }, { on := 28, ground := Ground.data }, { on := 25, ground := Ground.guard }], guard := some (25, true) }) (v := undef) rfl (by kernel_rfl) (by kernel_rfl) (by kernel_rfl) (fun _ _ _ h => h) (Or.inr ⟨by rfl, rfl⟩) (by assumption) ?_
        (try simp only [Act.put, List.setIfInBounds_toArray, List.set_cons_zero, List.set_cons_succ])
        refine wpAnyH_take (i := 30) (oi := { dst := some 47, op := Op.load 88 (Operand.tmp 46), type := 88, pos := "ckpt.go:41", after := #[{ on := 29, ground := Ground.data }, { on := 25, ground := Ground.guard }], guard := some (25, true) }) (v := undef) rfl (by kernel_rfl) (by kernel_rfl) (by kernel_rfl) (fun _ _ _ h => h) (Or.inr ⟨by rfl, rfl⟩) (by assumption) ?_
        (try simp only [Act.put, List.setIfInBounds_toArray, List.set_cons_zero, List.set_cons_succ])
        refine wpAnyH_take (i := 31) (oi := { dst := some 48, op := Op.load 88 (Operand.tmp 6), type := 88, pos := "ckpt.go:41", after := #[{ on := 25, ground := Ground.guard }], guard := some (25, true) }) (v := undef) rfl (by kernel_rfl) (by kernel_rfl) (by kernel_rfl) (fun _ _ _ h => h) (Or.inr ⟨by rfl, rfl⟩) (by assumption) ?_
        (try simp only [Act.put, List.setIfInBounds_toArray, List.set_cons_zero, List.set_cons_succ])
        refine wpAnyH_take (i := 32) (oi := { dst := some 49, op := Op.call { callee := Callee.value (Operand.func 68), args := #[Operand.tmp 47, Operand.tmp 48], argTypes := #[88, 88] }, type := 3, pos := "ckpt.go:41", after := #[{ on := 30, ground := Ground.data }, { on := 31, ground := Ground.data }, { on := 25, ground := Ground.chain }, { on := 25, ground := Ground.guard }], guard := some (25, true) }) (v := undef) rfl (by kernel_rfl) (by kernel_rfl) (by kernel_rfl) (fun _ _ _ h => h) (Or.inr ⟨by rfl, rfl⟩) (by assumption) ?_
        (try simp only [Act.put, List.setIfInBounds_toArray, List.set_cons_zero, List.set_cons_succ])
        refine wpAnyH_take (i := 33) (oi := { dst := some 50, op := Op.binOp BinOp.geq 3 (Operand.tmp 49) (Operand.const (Value.int IntKind.i64 0)) 3, type := 4, pos := "ckpt.go:41", after := #[{ on := 32, ground := Ground.data }, { on := 25, ground := Ground.guard }], guard := some (25, true) }) (v := undef) rfl (by kernel_rfl) (by kernel_rfl) (by kernel_rfl) (fun _ _ _ h => h) (Or.inr ⟨by rfl, rfl⟩) (by assumption) ?_
        (try simp only [Act.put, List.setIfInBounds_toArray, List.set_cons_zero, List.set_cons_succ])
        refine wpAnyH_take (i := 34) (oi := { dst := some 51, op := Op.pick (Operand.tmp 42) (Operand.tmp 50) (Operand.const (Value.bool false)), type := 4, pos := "ckpt.go:41", after := #[{ on := 25, ground := Ground.data }, { on := 33, ground := Ground.data }, { on := 22, ground := Ground.guard }], guard := some (22, false) }) (v := undef) rfl (by kernel_rfl) (by kernel_rfl) (by kernel_rfl) (fun _ _ _ h => h) (Or.inr ⟨by rfl, rfl⟩) (by assumption) ?_
        (try simp only [Act.put, List.setIfInBounds_toArray, List.set_cons_zero, List.set_cons_succ])
        refine wpAnyH_take (i := 35) (oi := { dst := some 52, op := Op.pick (Operand.tmp 39) (Operand.const (Value.bool true)) (Operand.tmp 51), type := 4, pos := "ckpt.go:41", after := #[{ on := 22, ground := Ground.data }, { on := 34, ground := Ground.data }], guard := none }) (v := ?_) rfl (by kernel_rfl) (by kernel_rfl) (by kernel_rfl) (fun _ _ _ h => h) (Or.inl ⟨by rfl, ?_⟩) (by assumption) ?_
        rotate_left
        · (intro w hSw; (try dsimp only at hSw); go_simp; (try with_reducible rfl))
        (try simp only [Act.put, List.setIfInBounds_toArray, List.set_cons_zero, List.set_cons_succ])
        refine wpAnyH_done (by kernel_rfl) ?_ _
        go_wp2
        go_ret
        exact ⟨by rw [HNM.out]; rfl, below_drew HBX.out⟩
      have qt1 : decide (pz < 2) = false := decide_eq_false ht1
      by_cases ht2 : z ≤ pz
      · have qt2 : decide (z ≤ pz) = true := decide_eq_true ht2
        have HNM := Aside0.mk (HNI.out (fun hh => by have h1 := hh.1; have h2 := hh.2.1; have h3 := hh.2.2.1; have h4 := hh.2.2.2; dsimp only at h1 h2 h3 h4; omega))
        clear ht2
        refine wp_region_held_drew (S := fun w' => w'.cell? ⟨g, 0, none⟩ = some (.int .i64 z) ∧ w'.cell? ⟨g, 1, none⟩ = some (.int .i64 zb) ∧ w'.cell? ⟨gp + 1, 0, none⟩ = some (.int .i64 pz) ∧ w'.cell? ⟨gp + 1, 1, none⟩ = some (.int .i64 pk)) (by kernel_rfl) (HM4.out.below (below_drew (Below.refl X.heap.size X))) (fun hHeld => ?_)
        refine wpAnyH_take (i := 0) (oi := { dst := some 17, op := Op.fieldAddr 59 (Operand.tmp 7) 0, type := 0, pos := "ckpt.go:41", after := #[], guard := none }) (v := ?_) rfl (by kernel_rfl) (by kernel_rfl) (by kernel_rfl) (fun _ _ _ h => h) (Or.inl ⟨by rfl, ?_⟩) (by assumption) ?_
        rotate_left
        · (intro w hSw; (try dsimp only at hSw); go_simp; (try with_reducible rfl))
        (try simp only [Act.put, List.setIfInBounds_toArray, List.set_cons_zero, List.set_cons_succ])
        refine wpAnyH_take (i := 1) (oi := { dst := some 18, op := Op.load 3 (Operand.tmp 17), type := 3, pos := "ckpt.go:41", after := #[{ on := 0, ground := Ground.data }], guard := none }) (v := ?_) rfl (by kernel_rfl) (by kernel_rfl) (by kernel_rfl) (fun _ _ _ h => h) (Or.inl ⟨by rfl, ?_⟩) (by assumption) ?_
        rotate_left
        · (intro w hSw; (try dsimp only at hSw); go_simp; (try with_reducible rfl))
        (try simp only [Act.put, List.setIfInBounds_toArray, List.set_cons_zero, List.set_cons_succ])
        refine wpAnyH_take (i := 2) (oi := { dst := some 19, op := Op.binOp BinOp.lss 3 (Operand.tmp 18) (Operand.const (Value.int IntKind.i64 2)) 3, type := 4, pos := "ckpt.go:41", after := #[{ on := 1, ground := Ground.data }], guard := none }) (v := ?_) rfl (by kernel_rfl) (by kernel_rfl) (by kernel_rfl) (fun _ _ _ h => h) (Or.inl ⟨by rfl, ?_⟩) (by assumption) ?_
        rotate_left
        · (intro w hSw; (try dsimp only at hSw); go_simp; (try with_reducible rfl))
        (try simp only [Act.put, List.setIfInBounds_toArray, List.set_cons_zero, List.set_cons_succ])
        refine wpAnyH_take (i := 3) (oi := { dst := some 20, op := Op.move (Operand.tmp 19), type := 4, pos := "ckpt.go:41", after := #[{ on := 2, ground := Ground.data }], guard := none }) (v := ?_) rfl (by kernel_rfl) (by kernel_rfl) (by kernel_rfl) (fun _ _ _ h => h) (Or.inl ⟨by rfl, ?_⟩) (by assumption) ?_
        rotate_left
        · (intro w hSw; (try dsimp only at hSw); go_simp; (try with_reducible rfl))
        (try simp only [Act.put, List.setIfInBounds_toArray, List.set_cons_zero, List.set_cons_succ])
        refine wpAnyH_take (i := 4) (oi := { dst := some 21, op := Op.fieldAddr 59 (Operand.tmp 7) 0, type := 0, pos := "ckpt.go:41", after := #[{ on := 3, ground := Ground.guard }], guard := some (3, false) }) (v := ?_) rfl (by kernel_rfl) (by kernel_rfl) (by kernel_rfl) (fun _ _ _ h => h) (Or.inl ⟨by rfl, ?_⟩) (by assumption) ?_
        rotate_left
        · (intro w hSw; (try dsimp only at hSw); go_simp; (try with_reducible rfl))
        (try simp only [Act.put, List.setIfInBounds_toArray, List.set_cons_zero, List.set_cons_succ])
        refine wpAnyH_take (i := 5) (oi := { dst := some 22, op := Op.load 3 (Operand.tmp 21), type := 3, pos := "ckpt.go:41", after := #[{ on := 4, ground := Ground.data }, { on := 3, ground := Ground.guard }], guard := some (3, false) }) (v := ?_) rfl (by kernel_rfl) (by kernel_rfl) (by kernel_rfl) (fun _ _ _ h => h) (Or.inl ⟨by rfl, ?_⟩) (by assumption) ?_
        rotate_left
        · (intro w hSw; (try dsimp only at hSw); go_simp; (try with_reducible rfl))
        (try simp only [Act.put, List.setIfInBounds_toArray, List.set_cons_zero, List.set_cons_succ])
        refine wpAnyH_take (i := 6) (oi := { dst := some 23, op := Op.fieldAddr 23 (Operand.tmp 2) 0, type := 0, pos := "ckpt.go:41", after := #[{ on := 3, ground := Ground.guard }], guard := some (3, false) }) (v := ?_) rfl (by kernel_rfl) (by kernel_rfl) (by kernel_rfl) (fun _ _ _ h => h) (Or.inl ⟨by rfl, ?_⟩) (by assumption) ?_
        rotate_left
        · (intro w hSw; (try dsimp only at hSw); go_simp; (try with_reducible rfl))
        (try simp only [Act.put, List.setIfInBounds_toArray, List.set_cons_zero, List.set_cons_succ])
        refine wpAnyH_take (i := 7) (oi := { dst := some 24, op := Op.load 3 (Operand.tmp 23), type := 3, pos := "ckpt.go:41", after := #[{ on := 6, ground := Ground.data }, { on := 3, ground := Ground.guard }], guard := some (3, false) }) (v := ?_) rfl (by kernel_rfl) (by kernel_rfl) (by kernel_rfl) (fun _ _ _ h => h) (Or.inl ⟨by rfl, ?_⟩) (by assumption) ?_
        rotate_left
        · (intro w hSw; (try dsimp only at hSw); go_simp; (try with_reducible rfl))
        (try simp only [Act.put, List.setIfInBounds_toArray, List.set_cons_zero, List.set_cons_succ])
        refine wpAnyH_take (i := 8) (oi := { dst := some 25, op := Op.binOp BinOp.geq 3 (Operand.tmp 22) (Operand.tmp 24) 3, type := 4, pos := "ckpt.go:41", after := #[{ on := 5, ground := Ground.data }, { on := 7, ground := Ground.data }, { on := 3, ground := Ground.guard }], guard := some (3, false) }) (v := ?_) rfl (by kernel_rfl) (by kernel_rfl) (by kernel_rfl) (fun _ _ _ h => h) (Or.inl ⟨by rfl, ?_⟩) (by assumption) ?_
        rotate_left
        · (intro w hSw; (try dsimp only at hSw); go_simp; (try with_reducible rfl))
        (try simp only [Act.put, List.setIfInBounds_toArray, List.set_cons_zero, List.set_cons_succ])
        refine wpAnyH_take (i := 9) (oi := { dst := some 26, op := Op.pick (Operand.tmp 20) (Operand.const (Value.bool true)) (Operand.tmp 25), type := 4, pos := "ckpt.go:41", after := #[{ on := 3, ground := Ground.data }, { on := 8, ground := Ground.data }], guard := none }) (v := ?_) rfl (by kernel_rfl) (by kernel_rfl) (by kernel_rfl) (fun _ _ _ h => h) (Or.inl ⟨by rfl, ?_⟩) (by assumption) ?_
        rotate_left
        · (intro w hSw; (try dsimp only at hSw); go_simp; (try with_reducible rfl))
        (try simp only [Act.put, List.setIfInBounds_toArray, List.set_cons_zero, List.set_cons_succ])
        refine wpAnyH_take (i := 10) (oi := { dst := some 27, op := Op.move (Operand.tmp 26), type := 4, pos := "ckpt.go:41", after := #[{ on := 9, ground := Ground.data }, { on := 3, ground := Ground.chain }], guard := none }) (v := ?_) rfl (by kernel_rfl) (by kernel_rfl) (by kernel_rfl) (fun _ _ _ h => h) (Or.inl ⟨by rfl, ?_⟩) (by assumption) ?_
        rotate_left
        · (intro w hSw; (try dsimp only at hSw); go_simp; (try with_reducible rfl))
        (try simp only [Act.put, List.setIfInBounds_toArray, List.set_cons_zero, List.set_cons_succ])
        refine wpAnyH_take (i := 11) (oi := { dst := some 28, op := Op.fieldAddr 59 (Operand.tmp 7) 1, type := 0, pos := "ckpt.go:41", after := #[{ on := 10, ground := Ground.guard }], guard := some (10, false) }) (v := undef) rfl (by kernel_rfl) (by kernel_rfl) (by kernel_rfl) (fun _ _ _ h => h) (Or.inr ⟨by rfl, rfl⟩) (by assumption) ?_
        (try simp only [Act.put, List.setIfInBounds_toArray, List.set_cons_zero, List.set_cons_succ])
        refine wpAnyH_take (i := 12) (oi := { dst := some 29, op := Op.load 3 (Operand.tmp 28), type := 3, pos := "ckpt.go:41", after := #[{ on := 11, ground := Ground.data }, { on := 10, ground := Ground.guard }], guard := some (10, false) }) (v := undef) rfl (by kernel_rfl) (by kernel_rfl) (by kernel_rfl) (fun _ _ _ h => h) (Or.inr ⟨by rfl, rfl⟩) (by assumption) ?_
        (try simp only [Act.put, List.setIfInBounds_toArray, List.set_cons_zero, List.set_cons_succ])
        refine wpAnyH_take (i := 13) (oi := { dst := some 30, op := Op.binOp BinOp.lss 3 (Operand.tmp 29) (Operand.const (Value.int IntKind.i64 0)) 3, type := 4, pos := "ckpt.go:41", after := #[{ on := 12, ground := Ground.data }, { on := 10, ground := Ground.guard }], guard := some (10, false) }) (v := undef) rfl (by kernel_rfl) (by kernel_rfl) (by kernel_rfl) (fun _ _ _ h => h) (Or.inr ⟨by rfl, rfl⟩) (by assumption) ?_
        (try simp only [Act.put, List.setIfInBounds_toArray, List.set_cons_zero, List.set_cons_succ])
        refine wpAnyH_take (i := 14) (oi := { dst := some 31, op := Op.pick (Operand.tmp 27) (Operand.const (Value.bool true)) (Operand.tmp 30), type := 4, pos := "ckpt.go:41", after := #[{ on := 10, ground := Ground.data }, { on := 13, ground := Ground.data }], guard := none }) (v := ?_) rfl (by kernel_rfl) (by kernel_rfl) (by kernel_rfl) (fun _ _ _ h => h) (Or.inl ⟨by rfl, ?_⟩) (by assumption) ?_
        rotate_left
        · (intro w hSw; (try dsimp only at hSw); go_simp; (try with_reducible rfl))
        (try simp only [Act.put, List.setIfInBounds_toArray, List.set_cons_zero, List.set_cons_succ])
        refine wpAnyH_take (i := 15) (oi := { dst := some 32, op := Op.move (Operand.tmp 31), type := 4, pos := "ckpt.go:41", after := #[{ on := 14, ground := Ground.data }, { on := 10, ground := Ground.chain }], guard := none }) (v := ?_) rfl (by kernel_rfl) (by kernel_rfl) (by kernel_rfl) (fun _ _ _ h => h) (Or.inl ⟨by rfl, ?_⟩) (by assumption) ?_
        rotate_left
        · (intro w hSw; (try dsimp only at hSw); go_simp; (try with_reducible rfl))
        (try simp only [Act.put, List.setIfInBounds_toArray, List.set_cons_zero, List.set_cons_succ])
        refine wpAnyH_take (i := 16) (oi := { dst := some 33, op := Op.fieldAddr 59 (Operand.tmp 7) 1, type := 0, pos := "ckpt.go:41", after := #[{ on := 15, ground := Ground.guard }], guard := some (15, false) }) (v := undef) rfl (by kernel_rfl) (by kernel_rfl) (by kernel_rfl) (fun _ _ _ h => h) (Or.inr ⟨by rfl, rfl⟩) (by assumption) ?_
        (try simp only [Act.put, List.setIfInBounds_toArray, List.set_cons_zero, List.set_cons_succ])
        refine wpAnyH_take (i := 17) (oi := { dst := some 34, op := Op.load 3 (Operand.tmp 33), type := 3, pos := "ckpt.go:41", after := #[{ on := 16, ground := Ground.data }, { on := 15, ground := Ground.guard }], guard := some (15, false) }) (v := undef) rfl (by kernel_rfl) (by kernel_rfl) (by kernel_rfl) (fun _ _ _ h => h) (Or.inr ⟨by rfl, rfl⟩) (by assumption) ?_
        (try simp only [Act.put, List.setIfInBounds_toArray, List.set_cons_zero, List.set_cons_succ])
        refine wpAnyH_take (i := 18) (oi := { dst := some 35, op := Op.fieldAddr 23 (Operand.tmp 2) 1, type := 0, pos := "ckpt.go:41", after := #[{ on := 15, ground := Ground.guard }], guard := some (15, false) }) (v := undef) rfl (by kernel_rfl) (by kernel_rfl) (by kernel_rfl) (fun _ _ _ h => h) (Or.inr ⟨by rfl, rfl⟩) (by assumption) ?_
        (try simp only [Act.put, List.setIfInBounds_toArray, List.set_cons_zero, List.set_cons_succ])
        refine wpAnyH_take (i := 19) (oi := { dst := some 36, op := Op.load 3 (Operand.tmp 35), type := 3, pos := "ckpt.go:41", after := #[{ on := 18, ground := Ground.data }, { on := 15, ground := Ground.guard }], guard := some (15, false) }) (v := undef) rfl (by kernel_rfl) (by kernel_rfl) (by kernel_rfl) (fun _ _ _ h => h) (Or.inr ⟨by rfl, rfl⟩) (by assumption) ?_
        (try simp only [Act.put, List.setIfInBounds_toArray, List.set_cons_zero, List.set_cons_succ])
        refine wpAnyH_take (i := 20) (oi := { dst := some 37, op := Op.binOp BinOp.geq 3 (Operand.tmp 34) (Operand.tmp 36) 3, type := 4, pos := "ckpt.go:41", after := #[{ on := 17, ground := Ground.data }, { on := 19, ground := Ground.data }, { on := 15, ground := Ground.guard }], guard := some (15, false) }) (v := undef) rfl (by kernel_rfl) (by kernel_rfl) (by kernel_rfl) (fun _ _ _ h => h) (Or.inr ⟨by rfl, rfl⟩) (by assumption) ?_
        (try simp only [Act.put, List.setIfInBounds_toArray, List.set_cons_zero, List.set_cons_succ])
        refine wpAnyH_take (i := 21) (oi := { dst := some 38, op := Op.pick (Operand.tmp 32) (Operand.const (Value.bool true)) (Operand.tmp 37), type := 4, pos := "ckpt.go:41", after := #[{ on := 15, ground := Ground.data }, { on := 20, ground := Ground.data }], guard := none }) (v := ?_) rfl (by kernel_rfl) (by kernel_rfl) (by kernel_rfl) (fun _ _ _ h => h) (Or.inl ⟨by rfl, ?_⟩) (by assumption) ?_
        rotate_left
        · (intro w hSw; (try dsimp only at hSw); go_simp; (try with_reducible rfl))
        (try simp only [Act.put, List.setIfInBounds_toArray, List.set_cons_zero, List.set_cons_succ])
        refine wpAnyH_take (i := 22) (oi := { dst := some 39, op := Op.move (Operand.tmp 38), type := 4, pos := "ckpt.go:41", after := #[{ on := 21, ground := Ground.data }, { on := 15, ground := Ground.chain }], guard := none }) (v := ?_) rfl (by kernel_rfl) (by kernel_rfl) (by kernel_rfl) (fun _ _ _ h => h) (Or.inl ⟨by rfl, ?_⟩) (by assumption) ?_
        rotate_left
        · (intro w hSw; (try dsimp only at hSw); go_simp; (try with_reducible rfl))
        (try simp only [Act.put, List.setIfInBounds_toArray, List.set_cons_zero, List.set_cons_succ])
        refine wpAnyH_take (i := 23) (oi := { dst := some 40, op := Op.move (Operand.tmp 5), type := 3, pos := "ckpt.go:41", after := #[{ on := 22, ground := Ground.guard }], guard := some (22, false) }) (v := undef) rfl (by kernel_rfl) (by kernel_rfl) (by kernel_rfl) (fun _ _ _ h => h) (Or.inr ⟨by rfl, rfl⟩) (by assumption) ?_
        (try simp only [Act.put, List.setIfInBounds_toArray, List.set_cons_zero, List.set_cons_succ])
        refine wpAnyH_take (i := 24) (oi := { dst := some 41, op := Op.binOp BinOp.gtr 3 (Operand.tmp 40) (Operand.const (Value.int IntKind.i64 0)) 3, type := 4, pos := "ckpt.go:41", after := #[{ on := 23, ground := Ground.data }, { on := 22, ground := Ground.guard }], guard := some (22, false) }) (v := undef) rfl (by kernel_rfl) (by kernel_rfl) (by kernel_rfl) (fun _ _ _ h => h) (Or.inr ⟨by rfl, rfl⟩) (by assumption) ?_
        (try simp only [Act.put, List.setIfInBounds_toArray, List.set_cons_zero, List.set_cons_succ])
        refine wpAnyH_take (i := 25) (oi := { dst := some 42, op := Op.move (Operand.tmp 41), type := 4, pos := "ckpt.go:41", after := #[{ on := 24, ground := Ground.data }, { on := 22, ground := Ground.chain }, { on := 22, ground := Ground.guard }], guard := some (22, false) }) (v := undef) rfl (by kernel_rfl) (by kernel_rfl) (by kernel_rfl) (fun _ _ _ h => h) (Or.inr ⟨by rfl, rfl⟩) (by assumption) ?_
        (try simp only [Act.put, List.setIfInBounds_toArray, List.set_cons_zero, List.set_cons_succ])
        refine wpAnyH_take (i := 26) (oi := { dst := some 43, op := Op.move (Operand.tmp 1), type := 25, pos := "ckpt.go:41", after := #[{ on := 25, ground := Ground.guard }], guard := some (25, true) }) (v := undef) rfl (by kernel_rfl) (by kernel_rfl) (by kernel_rfl) (fun _ _ _ h => h) (Or.inr ⟨by rfl, rfl⟩) (by assumption) ?_
        (try simp only [Act.put, List.setIfInBounds_toArray, List.set_cons_zero, List.set_cons_succ])
        refine wpAnyH_take (i := 27) (oi := { dst := some 44, op := Op.move (Operand.tmp 5), type := 3, pos := "ckpt.go:41", after := #[{ on := 25, ground := Ground.guard }], guard := some (25, true) }) (v := undef) rfl (by kernel_rfl) (by kernel_rfl) (by kernel_rfl) (fun _ _ _ h => h) (Or.inr ⟨by rfl, rfl⟩) (by assumption) ?_
        (try simp only [Act.put, List.setIfInBounds_toArray, List.set_cons_zero, List.set_cons_succ])
        refine wpAnyH_take (i := 28) (oi := { dst := some 45, op := Op.binOp BinOp.sub 3 (Operand.tmp 44) (Operand.const (Value.int IntKind.i64 1)) 3, type := 3, pos := "ckpt.go:41", after := #[{ on := 27, ground := Ground.data }, { on := 25, ground := Ground.guard }], guard := some (25, true) }) (v := undef) rfl (by kernel_rfl) (by kernel_rfl) (by kernel_rfl) (fun _ _ _ h => h) (Or.inr ⟨by rfl, rfl⟩) (by assumption) ?_
        (try simp only [Act.put, List.setIfInBounds_toArray, List.set_cons_zero, List.set_cons_succ])
        refine wpAnyH_take (i := 29) (oi := { dst := some 46, op := Op.indexAddr 25 (Operand.tmp 43) (Operand.tmp 45), type := 0, pos := "ckpt.go:41", after := #[{ on := 26, ground := Ground.data }, { on := 28, ground := Ground.data }, { on := 25, ground := Ground.guard }], guard := some (25, true) }) (v := undef) rfl (by kernel_rfl) (by kernel_rfl) (by kernel_rfl) (fun _ _ _ h => h) (Or.inr ⟨by rfl, rfl⟩) (by assumption) ?_
        (try simp only [Act.put, List.setIfInBounds_toArray, List.set_cons_zero, List.set_cons_succ])
        refine wpAnyH_take (i := 30) (oi := { dst := some 47, op := Op.load 88 (Operand.tmp 46), type := 88, pos := "ckpt.go:41", after := #[{ on := 29, ground := Ground.data }, { on := 25, ground := Ground.guard }], guard := some (25, true) }) (v := undef) rfl (by kernel_rfl) (by kernel_rfl) (by kernel_rfl) (fun _ _ _ h => h) (Or.inr ⟨by rfl, rfl⟩) (by assumption) ?_
        (try simp only [Act.put, List.setIfInBounds_toArray, List.set_cons_zero, List.set_cons_succ])
        refine wpAnyH_take (i := 31) (oi := { dst := some 48, op := Op.load 88 (Operand.tmp 6), type := 88, pos := "ckpt.go:41", after := #[{ on := 25, ground := Ground.guard }], guard := some (25, true) }) (v := undef) rfl (by kernel_rfl) (by kernel_rfl) (by kernel_rfl) (fun _ _ _ h => h) (Or.inr ⟨by rfl, rfl⟩) (by assumption) ?_
        (try simp only [Act.put, List.setIfInBounds_toArray, List.set_cons_zero, List.set_cons_succ])
        refine wpAnyH_take (i := 32) (oi := { dst := some 49, op := Op.call { callee := Callee.value (Operand.func 68), args := #[Operand.tmp 47, Operand.tmp 48], argTypes := #[88, 88] }, type := 3, pos := "ckpt.go:41", after := #[{ on := 30, ground := Ground.data }, { on := 31, ground := Ground.data }, { on := 25, ground := Ground.chain }, { on := 25, ground := Ground.guard }], guard := some (25, true) }) (v := undef) rfl (by kernel_rfl) (by kernel_rfl) (by kernel_rfl) (fun _ _ _ h => h) (Or.inr ⟨by rfl, rfl⟩) (by assumption) ?_
        (try simp only [Act.put, List.setIfInBounds_toArray, List.set_cons_zero, List.set_cons_succ])
        refine wpAnyH_take (i := 33) (oi := { dst := some 50, op := Op.binOp BinOp.geq 3 (Operand.tmp 49) (Operand.const (Value.int IntKind.i64 0)) 3, type := 4, pos := "ckpt.go:41", after := #[{ on := 32, ground := Ground.data }, { on := 25, ground := Ground.guard }], guard := some (25, true) }) (v := undef) rfl (by kernel_rfl) (by kernel_rfl) (by kernel_rfl) (fun _ _ _ h => h) (Or.inr ⟨by rfl, rfl⟩) (by assumption) ?_
        (try simp only [Act.put, List.setIfInBounds_toArray, List.set_cons_zero, List.set_cons_succ])
        refine wpAnyH_take (i := 34) (oi := { dst := some 51, op := Op.pick (Operand.tmp 42) (Operand.tmp 50) (Operand.const (Value.bool false)), type := 4, pos := "ckpt.go:41", after := #[{ on := 25, ground := Ground.data }, { on := 33, ground := Ground.data }, { on := 22, ground := Ground.guard }], guard := some (22, false) }) (v := undef) rfl (by kernel_rfl) (by kernel_rfl) (by kernel_rfl) (fun _ _ _ h => h) (Or.inr ⟨by rfl, rfl⟩) (by assumption) ?_
        (try simp only [Act.put, List.setIfInBounds_toArray, List.set_cons_zero, List.set_cons_succ])
        refine wpAnyH_take (i := 35) (oi := { dst := some 52, op := Op.pick (Operand.tmp 39) (Operand.const (Value.bool true)) (Operand.tmp 51), type := 4, pos := "ckpt.go:41", after := #[{ on := 22, ground := Ground.data }, { on := 34, ground := Ground.data }], guard := none }) (v := ?_) rfl (by kernel_rfl) (by kernel_rfl) (by kernel_rfl) (fun _ _ _ h => h) (Or.inl ⟨by rfl, ?_⟩) (by assumption) ?_
        rotate_left
        · (intro w hSw; (try dsimp only at hSw); go_simp; (try with_reducible rfl))
        (try simp only [Act.put, List.setIfInBounds_toArray, List.set_cons_zero, List.set_cons_succ])
        refine wpAnyH_done (by kernel_rfl) ?_ _
        go_wp2
        go_ret
        exact ⟨by rw [HNM.out]; rfl, below_drew HBX.out⟩
      have qt2 : decide (z ≤ pz) = false := decide_eq_false ht2
      by_cases ht3 : pk < 0
      · have qt3 : decide (pk < 0) = true := decide_eq_true ht3
        have HNM := Aside0.mk (HNI.out (fun hh => by have h1 := hh.1; have h2 := hh.2.1; have h3 := hh.2.2.1; have h4 := hh.2.2.2; dsimp only at h1 h2 h3 h4; omega))
        clear ht3
        refine wp_region_held_drew (S := fun w' => w'.cell? ⟨g, 0, none⟩ = some (.int .i64 z) ∧ w'.cell? ⟨g, 1, none⟩ = some (.int .i64 zb) ∧ w'.cell? ⟨gp + 1, 0, none⟩ = some (.int .i64 pz) ∧ w'.cell? ⟨gp + 1, 1, none⟩ = some (.int .i64 pk)) (by kernel_rfl) (HM4.out.below (below_drew (Below.refl X.heap.size X))) (fun hHeld => ?_)
        refine wpAnyH_take (i := 0) (oi := { dst := some 17, op := Op.fieldAddr 59 (Operand.tmp 7) 0, type := 0, pos := "ckpt.go:41", after := #[], guard := none }) (v := ?_) rfl (by kernel_rfl) (by kernel_rfl) (by kernel_rfl) (fun _ _ _ h => h) (Or.inl ⟨by rfl, ?_⟩) (by assumption) ?_
        rotate_left
        · (intro w hSw; (try dsimp only at hSw); go_simp; (try with_reducible rfl))
        (try simp only [Act.put, List.setIfInBounds_toArray, List.set_cons_zero, List.set_cons_succ])
        refine wpAnyH_take (i := 1) (oi := { dst := some 18, op := Op.load 3 (Operand.tmp 17), type := 3, pos := "ckpt.go:41", after := #[{ on := 0, ground := Ground.data }], guard := none }) (v := ?_) rfl (by kernel_rfl) (by kernel_rfl) (by kernel_rfl) (fun _ _ _ h => h) (Or.inl ⟨by rfl, ?_⟩) (by assumption) ?_
        rotate_left
        · (intro w hSw; (try dsimp only at hSw); go_simp; (try with_reducible rfl))
        (try simp only [Act.put, List.setIfInBounds_toArray, List.set_cons_zero, List.set_cons_succ])
        refine wpAnyH_take (i := 2) (oi := { dst := some 19, op := Op.binOp BinOp.lss 3 (Operand.tmp 18) (Operand.const (Value.int IntKind.i64 2)) 3, type := 4, pos := "ckpt.go:41", after := #[{ on := 1, ground := Ground.data }], guard := none }) (v := ?_) rfl (by kernel_rfl) (by kernel_rfl) (by kernel_rfl) (fun _ _ _ h => h) (Or.inl ⟨by rfl, ?_⟩) (by assumption) ?_
        rotate_left
        · (intro w hSw; (try dsimp only at hSw); go_simp; (try with_reducible rfl))
        (try simp only [Act.put, List.setIfInBounds_toArray, List.set_cons_zero, List.set_cons_succ])
        refine wpAnyH_take (i := 3) (oi := { dst := some 20, op := Op.move (Operand.tmp 19), type := 4, pos := "ckpt.go:41", after := #[{ on := 2, ground := Ground.data }], guard := none }) (v := ?_) rfl (by kernel_rfl) (by kernel_rfl) (by kernel_rfl) (fun _ _ _ h => h) (Or.inl ⟨by rfl, ?_⟩) (by assumption) ?_
        rotate_left
        · (intro w hSw; (try dsimp only at hSw); go_simp; (try with_reducible rfl))
        (try simp only [Act.put, List.setIfInBounds_toArray, List.set_cons_zero, List.set_cons_succ])
        refine wpAnyH_take (i := 4) (oi := { dst := some 21, op := Op.fieldAddr 59 (Operand.tmp 7) 0, type := 0, pos := "ckpt.go:41", after := #[{ on := 3, ground := Ground.guard }], guard := some (3, false) }) (v := ?_) rfl (by kernel_rfl) (by kernel_rfl) (by kernel_rfl) (fun _ _ _ h => h) (Or.inl ⟨by rfl, ?_⟩) (by assumption) ?_
        rotate_left
        · (intro w hSw; (try dsimp only at hSw); go_simp; (try with_reducible rfl))
        (try simp only [Act.put, List.setIfInBounds_toArray, List.set_cons_zero, List.set_cons_succ])
        refine wpAnyH_take (i := 5) (oi := { dst := some 22, op := Op.load 3 (Operand.tmp 21), type := 3, pos := "ckpt.go:41", after := #[{ on := 4, ground := Ground.data }, { on := 3, ground := Ground.guard }], guard := some (3, false) }) (v := ?_) rfl (by kernel_rfl) (by kernel_rfl) (by kernel_rfl) (fun _ _ _ h => h) (Or.inl ⟨by rfl, ?_⟩) (by assumption) ?_
        rotate_left
        · (intro w hSw; (try dsimp only at hSw); go_simp; (try with_reducible rfl))
        (try simp only [Act.put, List.setIfInBounds_toArray, List.set_cons_zero, List.set_cons_succ])
        refine wpAnyH_take (i := 6) (oi := { dst := some 23, op := Op.fieldAddr 23 (Operand.tmp 2) 0, type := 0, pos := "ckpt.go:41", after := #[{ on := 3, ground := Ground.guard }], guard := some (3, false) }) (v := ?_) rfl (by kernel_rfl) (by kernel_rfl) (by kernel_rfl) (fun _ _ _ h => h) (Or.inl ⟨by rfl, ?_⟩) (by assumption) ?_
        rotate_left
        · (intro w hSw; (try dsimp only at hSw); go_simp; (try with_reducible rfl))
        (try simp only [Act.put, List.setIfInBounds_toArray, List.set_cons_zero, List.set_cons_succ])
        refine wpAnyH_take (i := 7) (oi := { dst := some 24, op := Op.load 3 (Operand.tmp 23), type := 3, pos := "ckpt.go:41", after := #[{ on := 6, ground := Ground.data }, { on := 3, ground := Ground.guard }], guard := some (3, false) }) (v := ?_) rfl (by kernel_rfl) (by kernel_rfl) (by kernel_rfl) (fun _ _ _ h => h) (Or.inl ⟨by rfl, ?_⟩) (by assumption) ?_
        rotate_left
        · (intro w hSw; (try dsimp only at hSw); go_simp; (try with_reducible rfl))
        (try simp only [Act.put, List.setIfInBounds_toArray, List.set_cons_zero, List.set_cons_succ])
        refine wpAnyH_take (i := 8) (oi := { dst := some 25, op := Op.binOp BinOp.geq 3 (Operand.tmp 22) (Operand.tmp 24) 3, type := 4, pos := "ckpt.go:41", after := #[{ on := 5, ground := Ground.data }, { on := 7, ground := Ground.data }, { on := 3, ground := Ground.guard }], guard := some (3, false) }) (v := ?_) rfl (by kernel_rfl) (by kernel_rfl) (by kernel_rfl) (fun _ _ _ h => h) (Or.inl ⟨by rfl, ?_⟩) (by assumption) ?_
        rotate_left
        · (intro w hSw; (try dsimp only at hSw); go_simp; (try with_reducible rfl))
        (try simp only [Act.put, List.setIfInBounds_toArray, List.set_cons_zero, List.set_cons_succ])
        refine wpAnyH_take (i := 9) (oi := { dst := some 26, op := Op.pick (Operand.tmp 20) (Operand.const (Value.bool true)) (Operand.tmp 25), type := 4, pos := "ckpt.go:41", after := #[{ on := 3, ground := Ground.data }, { on := 8, ground := Ground.data }], guard := none }) (v := ?_) rfl (by kernel_rfl) (by kernel_rfl) (by kernel_rfl) (fun _ _ _ h => h) (Or.inl ⟨by rfl, ?_⟩) (by assumption) ?_
        rotate_left
        · (intro w hSw; (try dsimp only at hSw); go_simp; (try with_reducible rfl))
        (try simp only [Act.put, List.setIfInBounds_toArray, List.set_cons_zero, List.set_cons_succ])
        refine wpAnyH_take (i := 10) (oi := { dst := some 27, op := Op.move (Operand.tmp 26), type := 4, pos := "ckpt.go:41", after := #[{ on := 9, ground := Ground.data }, { on := 3, ground := Ground.chain }], guard := none }) (v := ?_) rfl (by kernel_rfl) (by kernel_rfl) (by kernel_rfl) (fun _ _ _ h => h) (Or.inl ⟨by rfl, ?_⟩) (by assumption) ?_
        rotate_left
        · (intro w hSw; (try dsimp only at hSw); go_simp; (try with_reducible rfl))
        (try simp only [Act.put, List.setIfInBounds_toArray, List.set_cons_zero, List.set_cons_succ])
        refine wpAnyH_take (i := 11) (oi := { dst := some 28, op := Op.fieldAddr 59 (Operand.tmp 7) 1, type := 0, pos := "ckpt.go:41", after := #[{ on := 10, ground := Ground.guard }], guard := some (10, false) }) (v := ?_) rfl (by kernel_rfl) (by kernel_rfl) (by kernel_rfl) (fun _ _ _ h => h) (Or.inl ⟨by rfl, ?_⟩) (by assumption) ?_
        rotate_left
        · (intro w hSw; (try dsimp only at hSw); go_simp; (try with_reducible rfl))
        (try simp only [Act.put, List.setIfInBounds_toArray, List.set_cons_zero, List.set_cons_succ])
        refine wpAnyH_take (i := 12) (oi := { dst := some 29, op := Op.load 3 (Operand.tmp 28), type := 3, pos := "ckpt.go:41", after := #[{ on := 11, ground := Ground.data }, { on := 10, ground := Ground.guard }], guard := some (10, false) }) (v := ?_) rfl (by kernel_rfl) (by kernel_rfl) (by kernel_rfl) (fun _ _ _ h => h) (Or.inl ⟨by rfl, ?_⟩) (by assumption) ?_
        rotate_left
        · (intro w hSw; (try dsimp only at hSw); go_simp; (try with_reducible rfl))
        (try simp only [Act.put, List.setIfInBounds_toArray, List.set_cons_zero, List.set_cons_succ])
        refine wpAnyH_take (i := 13) (oi := { dst := some 30, op := Op.binOp BinOp.lss 3 (Operand.tmp 29) (Operand.const (Value.int IntKind.i64 0)) 3, type := 4, pos := "ckpt.go:41", after := #[{ on := 12, ground := Ground.data }, { on := 10, ground := Ground.guard }], guard := some (10, false) }) (v := ?_) rfl (by kernel_rfl) (by kernel_rfl) (by kernel_rfl) (fun _ _ _ h => h) (Or.inl ⟨by rfl, ?_⟩) (by assumption) ?_
        rotate_left
        · (intro w hSw; (try dsimp only at hSw); go_simp; (try with_reducible rfl))
        (try simp only [Act.put, List.setIfInBounds_toArray, List.set_cons_zero, List.set_cons_succ])
        refine wpAnyH_take (i := 14) (oi := { dst := some 31, op := Op.pick (Operand.tmp 27) (Operand.const (Value.bool true)) (Operand.tmp 30), type := 4, pos := "ckpt.go:41", after := #[{ on := 10, ground := Ground.data }, { on := 13, ground := Ground.data }], guard := none }) (v := ?_) rfl (by kernel_rfl) (by kernel_rfl) (by kernel_rfl) (fun _ _ _ h => h) (Or.inl ⟨by rfl, ?_⟩) (by assumption) ?_
        rotate_left
        · (intro w hSw; (try dsimp only at hSw); go_simp; (try with_reducible rfl))
        (try simp only [Act.put, List.setIfInBounds_toArray, List.set_cons_zero, List.set_cons_succ])
        refine wpAnyH_take (i := 15) (oi := { dst := some 32, op := Op.move (Operand.tmp 31), type := 4, pos := "ckpt.go:41", after := #[{ on := 14, ground := Ground.data }, { on := 10, ground := Ground.chain }], guard := none }) (v := ?_) rfl (by kernel_rfl) (by kernel_rfl) (by kernel_rfl) (fun _ _ _ h => h) (Or.inl ⟨by rfl, ?_⟩) (by assumption) ?_
        rotate_left
        · (intro w hSw; (try dsimp only at hSw); go_simp; (try with_reducible rfl))
        (try simp only [Act.put, List.setIfInBounds_toArray, List.set_cons_zero, List.set_cons_succ])
        refine wpAnyH_take (i := 16) (oi := { dst := some 33, op := Op.fieldAddr 59 (Operand.tmp 7) 1, type := 0, pos := "ckpt.go:41", after := #[{ on := 15, ground := Ground.guard }], guard := some (15, false) }) (v := undef) rfl (by kernel_rfl) (by kernel_rfl) (by kernel_rfl) (fun _ _ _ h => h) (Or.inr ⟨by rfl, rfl⟩) (by assumption) ?_
        (try simp only [Act.put, List.setIfInBounds_toArray, List.set_cons_zero, List.set_cons_succ])
        refine wpAnyH_take (i := 17) (oi := { dst := some 34, op := Op.load 3 (Operand.tmp 33), type := 3, pos := "ckpt.go:41", after := #[{ on := 16, ground := Ground.data }, { on := 15, ground := Ground.guard }], guard := some (15, false) }) (v := undef) rfl (by kernel_rfl) (by kernel_rfl) (by kernel_rfl) (fun _ _ _ h => h) (Or.inr ⟨by rfl, rfl⟩) (by assumption) ?_
        (try simp only [Act.put, List.setIfInBounds_toArray, List.set_cons_zero, List.set_cons_succ])
        refine wpAnyH_take (i := 18) (oi := { dst := some 35, op := Op.fieldAddr 23 (Operand.tmp 2) 1, type := 0, pos := "ckpt.go:41", after := #[{ on := 15, ground := Ground.guard }], guard := some (15, false) }) (v := undef) rfl (by kernel_rfl) (by kernel_rfl) (by kernel_rfl) (fun _ _ _ h => h) (Or.inr ⟨by rfl, rfl⟩) (by assumption) ?_
        (try simp only [Act.put, List.setIfInBounds_toArray, List.set_cons_zero, List.set_cons_succ])
        refine wpAnyH_take (i := 19) (oi := { dst := some 36, op := Op.load 3 (Operand.tmp 35), type := 3, pos := "ckpt.go:41", after := #[{ on := 18, ground := Ground.data }, { on := 15, ground := Ground.guard }], guard := some (15, false) }) (v := undef) rfl (by kernel_rfl) (by kernel_rfl) (by kernel_rfl) (fun _ _ _ h => h) (Or.inr ⟨by rfl, rfl⟩) (by assumption) ?_
        (try simp only [Act.put, List.setIfInBounds_toArray, List.set_cons_zero, List.set_cons_succ])
        refine wpAnyH_take (i := 20) (oi := { dst := some 37, op := Op.binOp BinOp.geq 3 (Operand.tmp 34) (Operand.tmp 36) 3, type := 4, pos := "ckpt.go:41", after := #[{ on := 17, ground := Ground.data }, { on := 19, ground := Ground.data }, { on := 15, ground := Ground.guard }], guard := some (15, false) }) (v := undef) rfl (by kernel_rfl) (by kernel_rfl) (by kernel_rfl) (fun _ _ _ h => h) (Or.inr ⟨by rfl, rfl⟩) (by assumption) ?_
        (try simp only [Act.put, List.setIfInBounds_toArray, List.set_cons_zero, List.set_cons_succ])
        refine wpAnyH_take (i := 21) (oi := { dst := some 38, op := Op.pick (Operand.tmp 32) (Operand.const (Value.bool true)) (Operand.tmp 37), type := 4, pos := "ckpt.go:41", after := #[{ on := 15, ground := Ground.data }, { on := 20, ground := Ground.data }], guard := none }) (v := ?_) rfl (by kernel_rfl) (by kernel_rfl) (by kernel_rfl) (fun _ _ _ h => h) (Or.inl ⟨by rfl, ?_⟩) (by assumption) ?_
        rotate_left
        · (intro w hSw; (try dsimp only at hSw); go_simp; (try with_reducible rfl))
        (try simp only [Act.put, List.setIfInBounds_toArray, List.set_cons_zero, List.set_cons_succ])
        refine wpAnyH_take (i := 22) (oi := { dst := some 39, op := Op.move (Operand.tmp 38), type := 4, pos := "ckpt.go:41", after := #[{ on := 21, ground := Ground.data }, { on := 15, ground := Ground.chain }], guard := none }) (v := ?_) rfl (by kernel_rfl) (by kernel_rfl) (by kernel_rfl) (fun _ _ _ h => h) (Or.inl ⟨by rfl, ?_⟩) (by assumption) ?_
        rotate_left
        · (intro w hSw; (try dsimp only at hSw); go_simp; (try with_reducible rfl))
        (try simp only [Act.put, List.setIfInBounds_toArray, List.set_cons_zero, List.set_cons_succ])
        refine wpAnyH_take (i := 23) (oi := { dst := some 40, op := Op.move (Operand.tmp 5), type := 3, pos := "ckpt.go:41", after := #[{ on := 22, ground := Ground.guard }], guard := some (22, false) }) (v := undef) rfl (by kernel_rfl) (by kernel_rfl) (by kernel_rfl) (fun _ _ _ h => h) (Or.inr ⟨by rfl, rfl⟩) (by assumption) ?_
        (try simp only [Act.put, List.setIfInBounds_toArray, List.set_cons_zero, List.set_cons_succ])
        refine wpAnyH_take (i := 24) (oi := { dst := some 41, op := Op.binOp BinOp.gtr 3 (Operand.tmp 40) (Operand.const (Value.int IntKind.i64 0)) 3, type := 4, pos := "ckpt.go:41", after := #[{ on := 23, ground := Ground.data }, { on := 22, ground := Ground.guard }], guard := some (22, false) }) (v := undef) rfl (by kernel_rfl) (by kernel_rfl) (by kernel_rfl) (fun _ _ _ h => h) (Or.inr ⟨by rfl, rfl⟩) (by assumption) ?_
        (try simp only [Act.put, List.setIfInBounds_toArray, List.set_cons_zero, List.set_cons_succ])
        refine wpAnyH_take (i := 25) (oi := { dst := some 42, op := Op.move (Operand.tmp 41), type := 4, pos := "ckpt.go:41", after := #[{ on := 24, ground := Ground.data }, { on := 22, ground := Ground.chain }, { on := 22, ground := Ground.guard }], guard := some (22, false) }) (v := undef) rfl (by kernel_rfl) (by kernel_rfl) (by kernel_rfl) (fun _ _ _ h => h) (Or.inr ⟨by rfl, rfl⟩) (by assumption) ?_
        (try simp only [Act.put, List.setIfInBounds_toArray, List.set_cons_zero, List.set_cons_succ])
        refine wpAnyH_take (i := 26) (oi := { dst := some 43, op := Op.move (Operand.tmp 1), type := 25, pos := "ckpt.go:41", after := #[{ on := 25, ground := Ground.guard }], guard := some (25, true) }) (v := undef) rfl (by kernel_rfl) (by kernel_rfl) (by kernel_rfl) (fun _ _ _ h => h) (Or.inr ⟨by rfl, rfl⟩) (by assumption) ?_
        (try simp only [Act.put, List.setIfInBounds_toArray, List.set_cons_zero, List.set_cons_succ])
        refine wpAnyH_take (i := 27) (oi := { dst := some 44, op := Op.move (Operand.tmp 5), type := 3, pos := "ckpt.go:41", after := #[{ on := 25, ground := Ground.guard }], guard := some (25, true) }) (v := undef) rfl (by kernel_rfl) (by kernel_rfl) (by kernel_rfl) (fun _ _ _ h => h) (Or.inr ⟨by rfl, rfl⟩) (by assumption) ?_
        (try simp only [Act.put, List.setIfInBounds_toArray, List.set_cons_zero, List.set_cons_succ])
        refine wpAnyH_take (i := 28) (oi := { dst := some 45, op := Op.binOp BinOp.sub 3 (Operand.tmp 44) (Operand.const (Value.int IntKind.i64 1)) 3, type := 3, pos := "ckpt.go:41", after := #[{ on := 27, ground := Ground.data }, { on := 25, ground := Ground.guard }], guard := some (25, true) }) (v := undef) rfl (by kernel_rfl) (by kernel_rfl) (by kernel_rfl) (fun _ _ _ h => h) (Or.inr ⟨by rfl, rfl⟩) (by assumption) ?_
        (try simp only [Act.put, List.setIfInBounds_toArray, List.set_cons_zero, List.set_cons_succ])
        refine wpAnyH_take (i := 29) (oi := { dst := some 46, op := Op.indexAddr 25 (Operand.tmp 43) (Operand.tmp 45), type := 0, pos := "ckpt.go:41", after := #[{ on := 26, ground := Ground.data }, { on := 28, ground := Ground.data }, { on := 25, ground := Ground.guard }], guard := some (25, true) }) (v := undef) rfl (by kernel_rfl) (by kernel_rfl) (by kernel_rfl) (fun _ _ _ h => h) (Or.inr ⟨by rfl, rfl⟩) (by assumption) ?_
        (try simp only [Act.put, List.setIfInBounds_toArray, List.set_cons_zero, List.set_cons_succ])
        refine wpAnyH_take (i := 30) (oi := { dst := some 47, op := Op.load 88 (Operand.tmp 46), type := 88, pos := "ckpt.go:41", after := #[{ on := 29, ground := Ground.data }, { on := 25, ground := Ground.guard }], guard := some (25, true) }) (v := undef) rfl (by kernel_rfl) (by kernel_rfl) (by kernel_rfl) (fun _ _ _ h => h) (Or.inr ⟨by rfl, rfl⟩) (by assumption) ?_
        (try simp only [Act.put, List.setIfInBounds_toArray, List.set_cons_zero, List.set_cons_succ])
        refine wpAnyH_take (i := 31) (oi := { dst := some 48, op := Op.load 88 (Operand.tmp 6), type := 88, pos := "ckpt.go:41", after := #[{ on := 25, ground := Ground.guard }], guard := some (25, true) }) (v := undef) rfl (by kernel_rfl) (by kernel_rfl) (by kernel_rfl) (fun _ _ _ h => h) (Or.inr ⟨by rfl, rfl⟩) (by assumption) ?_
        (try simp only [Act.put, List.setIfInBounds_toArray, List.set_cons_zero, List.set_cons_succ])
        refine wpAnyH_take (i := 32) (oi := { dst := some 49, op := Op.call { callee := Callee.value (Operand.func 68), args := #[Operand.tmp 47, Operand.tmp 48], argTypes := #[88, 88] }, type := 3, pos := "ckpt.go:41", after := #[{ on := 30, ground := Ground.data }, { on := 31, ground := Ground.data }, { on := 25, ground := Ground.chain }, { on := 25, ground := Ground.guard }], guard := some (25, true) }) (v := undef) rfl (by kernel_rfl) (by kernel_rfl) (by kernel_rfl) (fun _ _ _ h => h) (Or.inr ⟨by rfl, rfl⟩) (by assumption) ?_
        (try simp only [Act.put, List.setIfInBounds_toArray, List.set_cons_zero, List.set_cons_succ])
        refine wpAnyH_take (i := 33) (oi := { dst := some 50, op := Op.binOp BinOp.geq 3 (Operand.tmp 49) (Operand.const (Value.int IntKind.i64 0)) 3, type := 4, pos := "ckpt.go:41", after := #[{ on := 32, ground := Ground.data }, { on := 25, ground := Ground.guard }], guard := some (25, true) }) (v := undef) rfl (by kernel_rfl) (by kernel_rfl) (by kernel_rfl) (fun _ _ _ h => h) (Or.inr ⟨by rfl, rfl⟩) (by assumption) ?_
        (try simp only [Act.put, List.setIfInBounds_toArray, List.set_cons_zero, List.set_cons_succ])
        refine wpAnyH_take (i := 34) (oi := { dst := some 51, op := Op.pick (Operand.tmp 42) (Operand.tmp 50) (Operand.const (Value.bool false)), type := 4, pos := "ckpt.go:41", after := #[{ on := 25, ground := Ground.data }, { on := 33, ground := Ground.data }, { on := 22, ground := Ground.guard }], guard := some (22, false) }) (v := undef) rfl (by kernel_rfl) (by kernel_rfl) (by kernel_rfl) (fun _ _ _ h => h) (Or.inr ⟨by rfl, rfl⟩) (by assumption) ?_
        (try simp only [Act.put, List.setIfInBounds_toArray, List.set_cons_zero, List.set_cons_succ])
        refine wpAnyH_take (i := 35) (oi := { dst := some 52, op := Op.pick (Operand.tmp 39) (Operand.const (Value.bool true)) (Operand.tmp 51), type := 4, pos := "ckpt.go:41", after := #[{ on := 22, ground := Ground.data }, { on := 34, ground := Ground.data }], guard := none }) (v := ?_) rfl (by kernel_rfl) (by kernel_rfl) (by kernel_rfl) (fun _ _ _ h => h) (Or.inl ⟨by rfl, ?_⟩) (by assumption) ?_
        rotate_left
        · (intro w hSw; (try dsimp only at hSw); go_simp; (try with_reducible rfl))
        (try simp only [Act.put, List.setIfInBounds_toArray, List.set_cons_zero, List.set_cons_succ])
        refine wpAnyH_done (by kernel_rfl) ?_ _
        go_wp2
        go_ret
        exact ⟨by rw [HNM.out]; rfl, below_drew HBX.out⟩
      have qt3 : decide (pk < 0) = false := decide_eq_false ht3
      by_cases ht4 : zb ≤ pk
      · have qt4 : decide (zb ≤ pk) = true := decide_eq_true ht4
        have HNM := Aside0.mk (HNI.out (fun hh => by have h1 := hh.1; have h2 := hh.2.1; have h3 := hh.2.2.1; have h4 := hh.2.2.2; dsimp only at h1 h2 h3 h4; omega))
        clear ht4
        refine wp_region_held_drew (S := fun w' => w'.cell? ⟨g, 0, none⟩ = some (.int .i64 z) ∧ w'.cell? ⟨g, 1, none⟩ = some (.int .i64 zb) ∧ w'.cell? ⟨gp + 1, 0, none⟩ = some (.int .i64 pz) ∧ w'.cell? ⟨gp + 1, 1, none⟩ = some (.int .i64 pk)) (by kernel_rfl) (HM4.out.below (below_drew (Below.refl X.heap.size X))) (fun hHeld => ?_)
        refine wpAnyH_take (i := 0) (oi := { dst := some 17, op := Op.fieldAddr 59 (Operand.tmp 7) 0, type := 0, pos := "ckpt.go:41", after := #[], guard := none }) (v := ?_) rfl (by kernel_rfl) (by kernel_rfl) (by kernel_rfl) (fun _ _ _ h => h) (Or.inl ⟨by rfl, ?_⟩) (by assumption) ?_
        rotate_left
        · (intro w hSw; (try dsimp only at hSw); go_simp; (try with_reducible rfl))
        (try simp only [Act.put, List.setIfInBounds_toArray, List.set_cons_zero, List.set_cons_succ])
        refine wpAnyH_take (i := 1) (oi := { dst := some 18, op := Op.load 3 (Operand.tmp 17), type := 3, pos := "ckpt.go:41", after := #[{ on := 0, ground := Ground.data }], guard := none }) (v := ?_) rfl (by kernel_rfl) (by kernel_rfl) (by kernel_rfl) (fun _ _ _ h => h) (Or.inl ⟨by rfl, ?_⟩) (by assumption) ?_
        rotate_left
        · (intro w hSw; (try dsimp only at hSw); go_simp; (try with_reducible rfl))
        (try simp only [Act.put, List.setIfInBounds_toArray, List.set_cons_zero, List.set_cons_succ])
        refine wpAnyH_take (i := 2) (oi := { dst := some 19, op := Op.binOp BinOp.lss 3 (Operand.tmp 18) (Operand.const (Value.int IntKind.i64 2)) 3, type := 4, pos := "ckpt.go:41", after := #[{ on := 1, ground := Ground.data }], guard := none }) (v := ?_) rfl (by kernel_rfl) (by kernel_rfl) (by kernel_rfl) (fun _ _ _ h => h) (Or.inl ⟨by rfl, ?_⟩) (by assumption) ?_
        rotate_left
        · (intro w hSw; (try dsimp only at hSw); go_simp; (try with_reducible rfl))
        (try simp only [Act.put, List.setIfInBounds_toArray, List.set_cons_zero, List.set_cons_succ])
        refine wpAnyH_take (i := 3) (oi := { dst := some 20, op := Op.move (Operand.tmp 19), type := 4, pos := "ckpt.go:41", after := #[{ on := 2, ground := Ground.data }], guard := none }) (v := ?_) rfl (by kernel_rfl) (by kernel_rfl) (by kernel_rfl) (fun _ _ _ h => h) (Or.inl ⟨by rfl, ?_⟩) (by assumption) ?_
        rotate_left
        · (intro w hSw; (try dsimp only at hSw); go_simp; (try with_reducible rfl))
        (try simp only [Act.put, List.setIfInBounds_toArray, List.set_cons_zero, List.set_cons_succ])
        refine wpAnyH_take (i := 4) (oi := { dst := some 21, op := Op.fieldAddr 59 (Operand.tmp 7) 0, type := 0, pos := "ckpt.go:41", after := #[{ on := 3, ground := Ground.guard }], guard := some (3, false) }) (v := ?_) rfl (by kernel_rfl) (by kernel_rfl) (by kernel_rfl) (fun _ _ _ h => h) (Or.inl ⟨by rfl, ?_⟩) (by assumption) ?_
        rotate_left
        · (intro w hSw; (try dsimp only at hSw); go_simp; (try with_reducible rfl))
        (try simp only [Act.put, List.setIfInBounds_toArray, List.set_cons_zero, List.set_cons_succ])
        refine wpAnyH_take (i := 5) (oi := { dst := some 22, op := Op.load 3 (Operand.tmp 21), type := 3, pos := "ckpt.go:41", after := #[{ on := 4, ground := Ground.data }, { on := 3, ground := Ground.guard }], guard := some (3, false) }) (v := ?_) rfl (by kernel_rfl) (by kernel_rfl) (by kernel_rfl) (fun _ _ _ h => h) (Or.inl ⟨by rfl, ?_⟩) (by assumption) ?_
        rotate_left
        · (intro w hSw; (try dsimp only at hSw); go_simp; (try with_reducible rfl))
        (try simp only [Act.put, List.setIfInBounds_toArray, List.set_cons_zero, List.set_cons_succ])
        refine wpAnyH_take (i := 6) (oi := { dst := some 23, op := Op.fieldAddr 23 (Operand.tmp 2) 0, type := 0, pos := "ckpt.go:41", after := #[{ on := 3, ground := Ground.guard }], guard := some (3, false) }) (v := ?_) rfl (by kernel_rfl) (by kernel_rfl) (by kernel_rfl) (fun _ _ _ h => h) (Or.inl ⟨by rfl, ?_⟩) (by assumption) ?_
        rotate_left
        · (intro w hSw; (try dsimp only at hSw); go_simp; (try with_reducible rfl))
        (try simp only [Act.put, List.setIfInBounds_toArray, List.set_cons_zero, List.set_cons_succ])
        refine wpAnyH_take (i := 7) (oi := { dst := some 24, op := Op.load 3 (Operand.tmp 23), type := 3, pos := "ckpt.go:41", after := #[{ on := 6, ground := Ground.data }, { on := 3, ground := Ground.guard }], guard := some (3, false) }) (v := ?_) rfl (by kernel_rfl) (by kernel_rfl) (by kernel_rfl) (fun _ _ _ h => h) (Or.inl ⟨by rfl, ?_⟩) (by assumption) ?_
        rotate_left
        · (intro w hSw; (try dsimp only at hSw); go_simp; (try with_reducible rfl))
        (try simp only [Act.put, List.setIfInBounds_toArray, List.set_cons_zero, List.set_cons_succ])
        refine wpAnyH_take (i := 8) (oi := { dst := some 25, op := Op.binOp BinOp.geq 3 (Operand.tmp 22) (Operand.tmp 24) 3, type := 4, pos := "ckpt.go:41", after := #[{ on := 5, ground := Ground.data }, { on := 7, ground := Ground.data }, { on := 3, ground := Ground.guard }], guard := some (3, false) }) (v := ?_) rfl (by kernel_rfl) (by kernel_rfl) (by kernel_rfl) (fun _ _ _ h => h) (Or.inl ⟨by rfl, ?_⟩) (by assumption) ?_
        rotate_left
        · (intro w hSw; (try dsimp only at hSw); go_simp; (try with_reducible rfl))
        (try simp only [Act.put, List.setIfInBounds_toArray, List.set_cons_zero, List.set_cons_succ])
        refine wpAnyH_take (i := 9) (oi := { dst := some 26, op := Op.pick (Operand.tmp 20) (Operand.const (Value.bool true)) (Operand.tmp 25), type := 4, pos := "ckpt.go:41", after := #[{ on := 3, ground := Ground.data }, { on := 8, ground := Ground.data }], guard := none }) (v := ?_) rfl (by kernel_rfl) (by kernel_rfl) (by kernel_rfl) (fun _ _ _ h => h) (Or.inl ⟨by rfl, ?_⟩) (by assumption) ?_
        rotate_left
        · (intro w hSw; (try dsimp only at hSw); go_simp; (try with_reducible rfl))
        (try simp only [Act.put, List.setIfInBounds_toArray, List.set_cons_zero, List.set_cons_succ])
        refine wpAnyH_take (i := 10) (oi := { dst := some 27, op := Op.move (Operand.tmp 26), type := 4, pos := "ckpt.go:41", after := #[{ on := 9, ground := Ground.data }, { on := 3, ground := Ground.chain }], guard := none }) (v := ?_) rfl (by kernel_rfl) (by kernel_rfl) (by kernel_rfl) (fun _ _ _ h => h) (Or.inl ⟨by rfl, ?_⟩) (by assumption) ?_
        rotate_left
        · (intro w hSw; (try dsimp only at hSw); go_simp; (try with_reducible rfl))
        (try simp only [Act.put, List.setIfInBounds_toArray, List.set_cons_zero, List.set_cons_succ])
        refine wpAnyH_take (i := 11) (oi := { dst := some 28, op := Op.fieldAddr 59 (Operand.tmp 7) 1, type := 0, pos := "ckpt.go:41", after := #[{ on := 10, ground := Ground.guard }], guard := some (10, false) }) (v := ?_) rfl (by kernel_rfl) (by kernel_rfl) (by kernel_rfl) (fun _ _ _ h => h) (Or.inl ⟨by rfl, ?_⟩) (by assumption) ?_
        rotate_left
        · (intro w hSw; (try dsimp only at hSw); go_simp; (try with_reducible rfl))
        (try simp only [Act.put, List.setIfInBounds_toArray, List.set_cons_zero, List.set_cons_succ])
        refine wpAnyH_take (i := 12) (oi := { dst := some 29, op := Op.load 3 (Operand.tmp 28), type := 3, pos := "ckpt.go:41", after := #[{ on := 11, ground := Ground.data }, { on := 10, ground := Ground.guard }], guard := some (10, false) }) (v := ?_) rfl (by kernel_rfl) (by kernel_rfl) (by kernel_rfl) (fun _ _ _ h => h) (Or.inl ⟨by rfl, ?_⟩) (by assumption) ?_
        rotate_left
        · (intro w hSw; (try dsimp only at hSw); go_simp; (try with_reducible rfl))
        (try simp only [Act.put, List.setIfInBounds_toArray, List.set_cons_zero, List.set_cons_succ])
        refine wpAnyH_take (i := 13) (oi := { dst := some 30, op := Op.binOp BinOp.lss 3 (Operand.tmp 29) (Operand.const (Value.int IntKind.i64 0)) 3, type := 4, pos := "ckpt.go:41", after := #[{ on := 12, ground := Ground.data }, { on := 10, ground := Ground.guard }], guard := some (10, false) }) (v := ?_) rfl (by kernel_rfl) (by kernel_rfl) (by kernel_rfl) (fun _ _ _ h => h) (Or.inl ⟨by rfl, ?_⟩) (by assumption) ?_
        rotate_left
        · (intro w hSw; (try dsimp only at hSw); go_simp; (try with_reducible rfl))
        (try simp only [Act.put, List.setIfInBounds_toArray, List.set_cons_zero, List.set_cons_succ])
        refine wpAnyH_take (i := 14) (oi := { dst := some 31, op := Op.pick (Operand.tmp 27) (Operand.const (Value.bool true)) (Operand.tmp 30), type := 4, pos := "ckpt.go:41", after := #[{ on := 10, ground := Ground.data }, { on := 13, ground := Ground.data }], guard := none }) (v := ?_) rfl (by kernel_rfl) (by kernel_rfl) (by kernel_rfl) (fun _ _ _ h => h) (Or.inl ⟨by rfl, ?_⟩) (by assumption) ?_
        rotate_left
        · (intro w hSw; (try dsimp only at hSw); go_simp; (try with_reducible rfl))
        (try simp only [Act.put, List.setIfInBounds_toArray, List.set_cons_zero, List.set_cons_succ])
        refine wpAnyH_take (i := 15) (oi := { dst := some 32, op := Op.move (Operand.tmp 31), type := 4, pos := "ckpt.go:41", after := #[{ on := 14, ground := Ground.data }, { on := 10, ground := Ground.chain }], guard := none }) (v := ?_) rfl (by kernel_rfl) (by kernel_rfl) (by kernel_rfl) (fun _ _ _ h => h) (Or.inl ⟨by rfl, ?_⟩) (by assumption) ?_
        rotate_left
        · (intro w hSw; (try dsimp only at hSw); go_simp; (try with_reducible rfl))
        (try simp only [Act.put, List.setIfInBounds_toArray, List.set_cons_zero, List.set_cons_succ])
        refine wpAnyH_take (i := 16) (oi := { dst := some 33, op := Op.fieldAddr 59 (Operand.tmp 7) 1, type := 0, pos := "ckpt.go:41", after := #[{ on := 15, ground := Ground.guard }], guard := some (15, false) }) (v := ?_) rfl (by kernel_rfl) (by kernel_rfl) (by kernel_rfl) (fun _ _ _ h => h) (Or.inl ⟨by rfl, ?_⟩) (by assumption) ?_
        rotate_left
        · (intro w hSw; (try dsimp only at hSw); go_simp; (try with_reducible rfl))
        (try simp only [Act.put, List.setIfInBounds_toArray, List.set_cons_zero, List.set_cons_succ])
        refine wpAnyH_take (i := 17) (oi := { dst := some 34, op := Op.load 3 (Operand.tmp 33), type := 3, pos := "ckpt.go:41", after := #[{ on := 16, ground := Ground.data }, { on := 15, ground := Ground.guard }], guard := some (15, false) }) (v := ?_) rfl (by kernel_rfl) (by kernel_rfl) (by kernel_rfl) (fun _ _ _ h => h) (Or.inl ⟨by rfl, ?_⟩) (by assumption) ?_
        rotate_left
        · (intro w hSw; (try dsimp only at hSw); go_simp; (try with_reducible rfl))
        (try simp only [Act.put, List.setIfInBounds_toArray, List.set_cons_zero, List.set_cons_succ])
        refine wpAnyH_take (i := 18) (oi := { dst := some 35, op := Op.fieldAddr 23 (Operand.tmp 2) 1, type := 0, pos := "ckpt.go:41", after := #[{ on := 15, ground := Ground.guard }], guard := some (15, false) }) (v := ?_) rfl (by kernel_rfl) (by kernel_rfl) (by kernel_rfl) (fun _ _ _ h => h) (Or.inl ⟨by rfl, ?_⟩) (by assumption) ?_
        rotate_left
        · (intro w hSw; (try dsimp only at hSw); go_simp; (try with_reducible rfl))
        (try simp only [Act.put, List.setIfInBounds_toArray, List.set_cons_zero, List.set_cons_succ])
        refine wpAnyH_take (i := 19) (oi := { dst := some 36, op := Op.load 3 (Operand.tmp 35), type := 3, pos := "ckpt.go:41", after := #[{ on := 18, ground := Ground.data }, { on := 15, ground := Ground.guard }], guard := some (15, false) }) (v := ?_) rfl (by kernel_rfl) (by kernel_rfl) (by kernel_rfl) (fun _ _ _ h => h) (Or.inl ⟨by rfl, ?_⟩) (by assumption) ?_
        rotate_left
        · (intro w hSw; (try dsimp only at hSw); go_simp; (try with_reducible rfl))
        (try simp only [Act.put, List.setIfInBounds_toArray, List.set_cons_zero, List.set_cons_succ])
        refine wpAnyH_take (i := 20) (oi := { dst := some 37, op := Op.binOp BinOp.geq 3 (Operand.tmp 34) (Operand.tmp 36) 3, type := 4, pos := "ckpt.go:41", after := #[{ on := 17, ground := Ground.data }, { on := 19, ground := Ground.data }, { on := 15, ground := Ground.guard }], guard := some (15, false) }) (v := ?_) rfl (by kernel_rfl) (by kernel_rfl) (by kernel_rfl) (fun _ _ _ h => h) (Or.inl ⟨by rfl, ?_⟩) (by assumption) ?_
        rotate_left
        · (intro w hSw; (try dsimp only at hSw); go_simp; (try with_reducible rfl))
        (try simp only [Act.put, List.setIfInBounds_toArray, List.set_cons_zero, List.set_cons_succ])
        refine wpAnyH_take (i := 21) (oi := { dst := some 38, op := Op.pick (Operand.tmp 32) (Operand.const (Value.bool true)) (Operand.tmp 37), type := 4, pos := "ckpt.go:41", after := #[{ on := 15, ground := Ground.data }, { on := 20, ground := Ground.data }], guard := none }) (v := ?_) rfl (by kernel_rfl) (by kernel_rfl) (by kernel_rfl) (fun _ _ _ h => h) (Or.inl ⟨by rfl, ?_⟩) (by assumption) ?_
        rotate_left
        · (intro w hSw; (try dsimp only at hSw); go_simp; (try with_reducible rfl))
        (try simp only [Act.put, List.setIfInBounds_toArray, List.set_cons_zero, List.set_cons_succ])
        refine wpAnyH_take (i := 22) (oi := { dst := some 39, op := Op.move (Operand.tmp 38), type := 4, pos := "ckpt.go:41", after := #[{ on := 21, ground := Ground.data }, { on := 15, ground := Ground.chain }], guard := none }) (v := ?_) rfl (by kernel_rfl) (by kernel_rfl) (by kernel_rfl) (fun _ _ _ h => h) (Or.inl ⟨by rfl, ?_⟩) (by assumption) ?_
        rotate_left
        · (intro w hSw; (try dsimp only at hSw); go_simp; (try with_reducible rfl))
        (try simp only [Act.put, List.setIfInBounds_toArray, List.set_cons_zero, List.set_cons_succ])
        refine wpAnyH_take (i := 23) (oi := { dst := some 40, op := Op.move (Operand.tmp 5), type := 3, pos := "ckpt.go:41", after := #[{ on := 22, ground := Ground.guard }], guard := some (22, false) }) (v := undef) rfl (by kernel_rfl) (by kernel_rfl) (by kernel_rfl) (fun _ _ _ h => h) (Or.inr ⟨by rfl, rfl⟩) (by assumption) ?_
        (try simp only [Act.put, List.setIfInBounds_toArray, List.set_cons_zero, List.set_cons_succ])
        refine wpAnyH_take (i := 24) (oi := { dst := some 41, op := Op.binOp BinOp.gtr 3 (Operand.tmp 40) (Operand.const (Value.int IntKind.i64 0)) 3, type := 4, pos := "ckpt.go:41", after := #[{ on := 23, ground := Ground.data }, { on := 22, ground := Ground.guard }], guard := some (22, false) }) (v := undef) rfl (by kernel_rfl) (by kernel_rfl) (by kernel_rfl) (fun _ _ _ h => h) (Or.inr ⟨by rfl, rfl⟩) (by assumption) ?_
        (try simp only [Act.put, List.setIfInBounds_toArray, List.set_cons_zero, List.set_cons_succ])
        refine wpAnyH_take (i := 25) (oi := { dst := some 42, op := Op.move (Operand.tmp 41), type := 4, pos := "ckpt.go:41", after := #[{ on := 24, ground := Ground.data }, { on := 22, ground := Ground.chain }, { on := 22, ground := Ground.guard }], guard := some (22, false) }) (v := undef) rfl (by kernel_rfl) (by kernel_rfl) (by kernel_rfl) (fun _ _ _ h => h) (Or.inr ⟨by rfl, rfl⟩) (by assumption) ?_
        (try simp only [Act.put, List.setIfInBounds_toArray, List.set_cons_zero, List.set_cons_succ])
        refine wpAnyH_take (i := 26) (oi := { dst := some 43, op := Op.move (Operand.tmp 1), type := 25, pos := "ckpt.go:41", after := #[{ on := 25, ground := Ground.guard }], guard := some (25, true) }) (v := undef) rfl (by kernel_rfl) (by kernel_rfl) (by kernel_rfl) (fun _ _ _ h => h) (Or.inr ⟨by rfl, rfl⟩) (by assumption) ?_
        (try simp only [Act.put, List.setIfInBounds_toArray, List.set_cons_zero, List.set_cons_succ])
        refine wpAnyH_take (i := 27) (oi := { dst := some 44, op := Op.move (Operand.tmp 5), type := 3, pos := "ckpt.go:41", after := #[{ on := 25, ground := Ground.guard }], guard := some (25, true) }) (v := undef) rfl (by kernel_rfl) (by kernel_rfl) (by kernel_rfl) (fun _ _ _ h => h) (Or.inr ⟨by rfl, rfl⟩) (by assumption) ?_
        (try simp only [Act.put, List.setIfInBounds_toArray, List.set_cons_zero, List.set_cons_succ])
        refine wpAnyH_take (i := 28) (oi := { dst := some 45, op := Op.binOp BinOp.sub 3 (Operand.tmp 44) (Operand.const (Value.int IntKind.i64 1)) 3, type := 3, pos := "ckpt.go:41", after := #[{ on := 27, ground := Ground.data }, { on := 25, ground := Ground.guard }], guard := some (25, true) }) (v := undef) rfl (by kernel_rfl) (by kernel_rfl) (by kernel_rfl) (fun _ _ _ h => h) (Or.inr ⟨by rfl, rfl⟩) (by assumption) ?_
        (try simp only [Act.put, List.setIfInBounds_toArray, List.set_cons_zero, List.set_cons_succ])
        refine wpAnyH_take (i := 29) (oi := { dst := some 46, op := Op.indexAddr 25 (Operand.tmp 43) (Operand.tmp 45), type := 0, pos := "ckpt.go:41", after := #[{ on := 26, ground := Ground.data }, { on := 28, ground := Ground.data }, { on := 25, ground := Ground.guard }], guard := some (25, true) }) (v := undef) rfl (by kernel_rfl) (by kernel_rfl) (by kernel_rfl) (fun _ _ _ h => h) (Or.inr ⟨by rfl, rfl⟩) (by assumption) ?_
        (try simp only [Act.put, List.setIfInBounds_toArray, List.set_cons_zero, List.set_cons_succ])
        refine wpAnyH_take (i := 30) (oi := { dst := some 47, op := Op.load 88 (Operand.tmp 46), type := 88, pos := "ckpt.go:41", after := #[{ on := 29, ground := Ground.data }, { on := 25, ground := Ground.guard }], guard := some (25, true) }) (v := undef) rfl (by kernel_rfl) (by kernel_rfl) (by kernel_rfl) (fun _ _ _ h => h) (Or.inr ⟨by rfl, rfl⟩) (by assumption) ?_
        (try simp only [Act.put, List.setIfInBounds_toArray, List.set_cons_zero, List.set_cons_succ])
        refine wpAnyH_take (i := 31) (oi := { dst := some 48, op := Op.load 88 (Operand.tmp 6), type := 88, pos := "ckpt.go:41", after := #[{ on := 25, ground := Ground.guard }], guard := some (25, true) }) (v := undef) rfl (by kernel_rfl) (by kernel_rfl) (by kernel_rfl) (fun _ _ _ h => h) (Or.inr ⟨by rfl, rfl⟩) (by assumption) ?_
        (try simp only [Act.put, List.setIfInBounds_toArray, List.set_cons_zero, List.set_cons_succ])
        refine wpAnyH_take (i := 32) (oi := { dst := some 49, op := Op.call { callee := Callee.value (Operand.func 68), args := #[Operand.tmp 47, Operand.tmp 48], argTypes := #[88, 88] }, type := 3, pos := "ckpt.go:41", after := #[{ on := 30, ground := Ground.data }, { on := 31, ground := Ground.data }, { on := 25, ground := Ground.chain }, { on := 25, ground := Ground.guard }], guard := some (25, true) }) (v := undef) rfl (by kernel_rfl) (by kernel_rfl) (by kernel_rfl) (fun _ _ _ h => h) (Or.inr ⟨by rfl, rfl⟩) (by assumption) ?_
        (try simp only [Act.put, List.setIfInBounds_toArray, List.set_cons_zero, List.set_cons_succ])
        refine wpAnyH_take (i := 33) (oi := { dst := some 50, op := Op.binOp BinOp.geq 3 (Operand.tmp 49) (Operand.const (Value.int IntKind.i64 0)) 3, type := 4, pos := "ckpt.go:41", after := #[{ on := 32, ground := Ground.data }, { on := 25, ground := Ground.guard }], guard := some (25, true) }) (v := undef) rfl (by kernel_rfl) (by kernel_rfl) (by kernel_rfl) (fun _ _ _ h => h) (Or.inr ⟨by rfl, rfl⟩) (by assumption) ?_
        (try simp only [Act.put, List.setIfInBounds_toArray, List.set_cons_zero, List.set_cons_succ])
        refine wpAnyH_take (i := 34) (oi := { dst := some 51, op := Op.pick (Operand.tmp 42) (Operand.tmp 50) (Operand.const (Value.bool false)), type := 4, pos := "ckpt.go:41", after := #[{ on := 25, ground := Ground.data }, { on := 33, ground := Ground.data }, { on := 22, ground := Ground.guard }], guard := some (22, false) }) (v := undef) rfl (by kernel_rfl) (by kernel_rfl) (by kernel_rfl) (fun _ _ _ h => h) (Or.inr ⟨by rfl, rfl⟩) (by assumption) ?_
        (try simp only [Act.put, List.setIfInBounds_toArray, List.set_cons_zero, List.set_cons_succ])
        refine wpAnyH_take (i := 35) (oi := { dst := some 52, op := Op.pick (Operand.tmp 39) (Operand.const (Value.bool true)) (Operand.tmp 51), type := 4, pos := "ckpt.go:41", after := #[{ on := 22, ground := Ground.data }, { on := 34, ground := Ground.data }], guard := none }) (v := ?_) rfl (by kernel_rfl) (by kernel_rfl) (by kernel_rfl) (fun _ _ _ h => h) (Or.inl ⟨by rfl, ?_⟩) (by assumption) ?_
        rotate_left
        · (intro w hSw; (try dsimp only at hSw); go_simp; (try with_reducible rfl))
        (try simp only [Act.put, List.setIfInBounds_toArray, List.set_cons_zero, List.set_cons_succ])
        refine wpAnyH_done (by kernel_rfl) ?_ _
        go_wp2
        go_ret
        exact ⟨by rw [HNM.out]; rfl, below_drew HBX.out⟩
      have qt4 : decide (zb ≤ pk) = false := decide_eq_false ht4
      have HII := Aside0.mk (show InIt z zb (pt, pb, pz, pk) from ⟨by dsimp only; omega, by dsimp only; omega, by dsimp only; omega, by dsimp only; omega⟩)
      clear ht1 ht2 ht3 ht4
      have HIN2 := Aside0.mk (show ∀ j, j < i + 1 → InIt z zb (l.getD j plc0) from fun j hj => by
        by_cases hji : j < i
        · exact HIN.out j hji
        · obtain rfl : j = i := by omega
          rw [HP.out]; exact HII.out)
      cases i with
      | zero =>
        have qi : decide ((0 : Int) < ((0 : Nat) : Int)) = false := rfl
        refine wp_region_held_drew (S := fun w' => w'.cell? ⟨g, 0, none⟩ = some (.int .i64 z) ∧ w'.cell? ⟨g, 1, none⟩ = some (.int .i64 zb) ∧ w'.cell? ⟨gp + 1, 0, none⟩ = some (.int .i64 pz) ∧ w'.cell? ⟨gp + 1, 1, none⟩ = some (.int .i64 pk)) (by kernel_rfl) (HM4.out.below (below_drew (Below.refl X.heap.size X))) (fun hHeld => ?_)
        refine wpAnyH_take (i := 0) (oi := { dst := some 17, op := Op.fieldAddr 59 (Operand.tmp 7) 0, type := 0, pos := "ckpt.go:41", after := #[], guard := none }) (v := ?_) rfl (by kernel_rfl) (by kernel_rfl) (by kernel_rfl) (fun _ _ _ h => h) (Or.inl ⟨by rfl, ?_⟩) (by assumption) ?_
        rotate_left
        · (intro w hSw; (try dsimp only at hSw); go_simp; (try with_reducible rfl))
        (try simp only [Act.put, List.setIfInBounds_toArray, List.set_cons_zero, List.set_cons_succ])
        refine wpAnyH_take (i := 1) (oi := { dst := some 18, op := Op.load 3 (Operand.tmp 17), type := 3, pos := "ckpt.go:41", after := #[{ on := 0, ground := Ground.data }], guard := none }) (v := ?_) rfl (by kernel_rfl) (by kernel_rfl) (by kernel_rfl) (fun _ _ _ h => h) (Or.inl ⟨by rfl, ?_⟩) (by assumption) ?_
        rotate_left
        · (intro w hSw; (try dsimp only at hSw); go_simp; (try with_reducible rfl))
        (try simp only [Act.put, List.setIfInBounds_toArray, List.set_cons_zero, List.set_cons_succ])
        refine wpAnyH_take (i := 2) (oi := { dst := some 19, op := Op.binOp BinOp.lss 3 (Operand.tmp 18) (Operand.const (Value.int IntKind.i64 2)) 3, type := 4, pos := "ckpt.go:41", after := #[{ on := 1, ground := Ground.data }], guard := none }) (v := ?_) rfl (by kernel_rfl) (by kernel_rfl) (by kernel_rfl) (fun _ _ _ h => h) (Or.inl ⟨by rfl, ?_⟩) (by assumption) ?_
        rotate_left
        · (intro w hSw; (try dsimp only at hSw); go_simp; (try with_reducible rfl))
        (try simp only [Act.put, List.setIfInBounds_toArray, List.set_cons_zero, List.set_cons_succ])
        refine wpAnyH_take (i := 3) (oi := { dst := some 20, op := Op.move (Operand.tmp 19), type := 4, pos := "ckpt.go:41", after := #[{ on := 2, ground := Ground.data }], guard := none }) (v := ?_) rfl (by kernel_rfl) (by kernel_rfl) (by kernel_rfl) (fun _ _ _ h => h) (Or.inl ⟨by rfl, ?_⟩) (by assumption) ?_
        rotate_left
        · (intro w hSw; (try dsimp only at hSw); go_simp; (try with_reducible rfl))
        (try simp only [Act.put, List.setIfInBounds_toArray, List.set_cons_zero, List.set_cons_succ])
        refine wpAnyH_take (i := 4) (oi := { dst := some 21, op := Op.fieldAddr 59 (Operand.tmp 7) 0, type := 0, pos := "ckpt.go:41", after := #[{ on := 3, ground := Ground.guard }], guard := some (3, false) }) (v := ?_) rfl (by kernel_rfl) (by kernel_rfl) (by kernel_rfl) (fun _ _ _ h => h) (Or.inl ⟨by rfl, ?_⟩) (by assumption) ?_
        rotate_left
        · (intro w hSw; (try dsimp only at hSw); go_simp; (try with_reducible rfl))
        (try simp only [Act.put, List.setIfInBounds_toArray, List.set_cons_zero, List.set_cons_succ])
        refine wpAnyH_take (i := 5) (oi := { dst := some 22, op := Op.load 3 (Operand.tmp 21), type := 3, pos := "ckpt.go:41", after := #[{ on := 4, ground := Ground.data }, { on := 3, ground := Ground.guard }], guard := some (3, false) }) (v := ?_) rfl (by kernel_rfl) (by kernel_rfl) (by kernel_rfl) (fun _ _ _ h => h) (Or.inl ⟨by rfl, ?_⟩) (by assumption) ?_
        rotate_left
        · (intro w hSw; (try dsimp only at hSw); go_simp; (try with_reducible rfl))
        (try simp only [Act.put, List.setIfInBounds_toArray, List.set_cons_zero, List.set_cons_succ])
        refine wpAnyH_take (i := 6) (oi := { dst := some 23, op := Op.fieldAddr 23 (Operand.tmp 2) 0, type := 0, pos := "ckpt.go:41", after := #[{ on := 3, ground := Ground.guard }], guard := some (3, false) }) (v := ?_) rfl (by kernel_rfl) (by kernel_rfl) (by kernel_rfl) (fun _ _ _ h => h) (Or.inl ⟨by rfl, ?_⟩) (by assumption) ?_
        rotate_left
        · (intro w hSw; (try dsimp only at hSw); go_simp; (try with_reducible rfl))
        (try simp only [Act.put, List.setIfInBounds_toArray, List.set_cons_zero, List.set_cons_succ])
        refine wpAnyH_take (i := 7) (oi := { dst := some 24, op := Op.load 3 (Operand.tmp 23), type := 3, pos := "ckpt.go:41", after := #[{ on := 6, ground := Ground.data }, { on := 3, ground := Ground.guard }], guard := some (3, false) }) (v := ?_) rfl (by kernel_rfl) (by kernel_rfl) (by kernel_rfl) (fun _ _ _ h => h) (Or.inl ⟨by rfl, ?_⟩) (by assumption) ?_
        rotate_left
        · (intro w hSw; (try dsimp only at hSw); go_simp; (try with_reducible rfl))
        (try simp only [Act.put, List.setIfInBounds_toArray, List.set_cons_zero, List.set_cons_succ])
        refine wpAnyH_take (i := 8) (oi := { dst := some 25, op := Op.binOp BinOp.geq 3 (Operand.tmp 22) (Operand.tmp 24) 3, type := 4, pos := "ckpt.go:41", after := #[{ on := 5, ground := Ground.data }, { on := 7, ground := Ground.data }, { on := 3, ground := Ground.guard }], guard := some (3, false) }) (v := ?_) rfl (by kernel_rfl) (by kernel_rfl) (by kernel_rfl) (fun _ _ _ h => h) (Or.inl ⟨by rfl, ?_⟩) (by assumption) ?_
        rotate_left
        · (intro w hSw; (try dsimp only at hSw); go_simp; (try with_reducible rfl))
        (try simp only [Act.put, List.setIfInBounds_toArray, List.set_cons_zero, List.set_cons_succ])
        refine wpAnyH_take (i := 9) (oi := { dst := some 26, op := Op.pick (Operand.tmp 20) (Operand.const (Value.bool true)) (Operand.tmp 25), type := 4, pos := "ckpt.go:41", after := #[{ on := 3, ground := Ground.data }, { on := 8, ground := Ground.data }], guard := none }) (v := ?_) rfl (by kernel_rfl) (by kernel_rfl) (by kernel_rfl) (fun _ _ _ h => h) (Or.inl ⟨by rfl, ?_⟩) (by assumption) ?_
        rotate_left
        · (intro w hSw; (try dsimp only at hSw); go_simp; (try with_reducible rfl))
        (try simp only [Act.put, List.setIfInBounds_toArray, List.set_cons_zero, List.set_cons_succ])
        refine wpAnyH_take (i := 10) (oi := { dst := some 27, op := Op.move (Operand.tmp 26), type := 4, pos := "ckpt.go:41", after := #[{ on := 9, ground := Ground.data }, { on := 3, ground := Ground.chain }], guard := none }) (v := ?_) rfl (by kernel_rfl) (by kernel_rfl) (by kernel_rfl) (fun _ _ _ h => h) (Or.inl ⟨by rfl, ?_⟩) (by assumption) ?_
        rotate_left
        · (intro w hSw; (try dsimp only at hSw); go_simp; (try with_reducible rfl))
        (try simp only [Act.put, List.setIfInBounds_toArray, List.set_cons_zero, List.set_cons_succ])
        refine wpAnyH_take (i := 11) (oi := { dst := some 28, op := Op.fieldAddr 59 (Operand.tmp 7) 1, type := 0, pos := "ckpt.go:41", after := #[{ on := 10, ground := Ground.guard }], guard := some (10, false) }) (v := ?_) rfl (by kernel_rfl) (by kernel_rfl) (by kernel_rfl) (fun _ _ _ h => h) (Or.inl ⟨by rfl, ?_⟩) (by assumption) ?_
        rotate_left
        · (intro w hSw; (try dsimp only at hSw); go_simp; (try with_reducible rfl))
        (try simp only [Act.put, List.setIfInBounds_toArray, List.set_cons_zero, List.set_cons_succ])
        refine wpAnyH_take (i := 12) (oi := { dst := some 29, op := Op.load 3 (Operand.tmp 28), type := 3, pos := "ckpt.go:41", after := #[{ on := 11, ground := Ground.data }, { on := 10, ground := Ground.guard }], guard := some (10, false) }) (v := ?_) rfl (by kernel_rfl) (by kernel_rfl) (by kernel_rfl) (fun _ _ _ h => h) (Or.inl ⟨by rfl, ?_⟩) (by assumption) ?_
        rotate_left
        · (intro w hSw; (try dsimp only at hSw); go_simp; (try with_reducible rfl))
        (try simp only [Act.put, List.setIfInBounds_toArray, List.set_cons_zero, List.set_cons_succ])
        refine wpAnyH_take (i := 13) (oi := { dst := some 30, op := Op.binOp BinOp.lss 3 (Operand.tmp 29) (Operand.const (Value.int IntKind.i64 0)) 3, type := 4, pos := "ckpt.go:41", after := #[{ on := 12, ground := Ground.data }, { on := 10, ground := Ground.guard }], guard := some (10, false) }) (v := ?_) rfl (by kernel_rfl) (by kernel_rfl) (by kernel_rfl) (fun _ _ _ h => h) (Or.inl ⟨by rfl, ?_⟩) (by assumption) ?_
        rotate_left
        · (intro w hSw; (try dsimp only at hSw); go_simp; (try with_reducible rfl))
        (try simp only [Act.put, List.setIfInBounds_toArray, List.set_cons_zero, List.set_cons_succ])
        refine wpAnyH_take (i := 14) (oi := { dst := some 31, op := Op.pick (Operand.tmp 27) (Operand.const (Value.bool true)) (Operand.tmp 30), type := 4, pos := "ckpt.go:41", after := #[{ on := 10, ground := Ground.data }, { on := 13, ground := Ground.data }], guard := none }) (v := ?_) rfl (by kernel_rfl) (by kernel_rfl) (by kernel_rfl) (fun _ _ _ h => h) (Or.inl ⟨by rfl, ?_⟩) (by assumption) ?_
        rotate_left
        · (intro w hSw; (try dsimp only at hSw); go_simp; (try with_reducible rfl))
        (try simp only [Act.put, List.setIfInBounds_toArray, List.set_cons_zero, List.set_cons_succ])
        refine wpAnyH_take (i := 15) (oi := { dst := some 32, op := Op.move (Operand.tmp 31), type := 4, pos := "ckpt.go:41", after := #[{ on := 14, ground := Ground.data }, { on := 10, ground := Ground.chain }], guard := none }) (v := ?_) rfl (by kernel_rfl) (by kernel_rfl) (by kernel_rfl) (fun _ _ _ h => h) (Or.inl ⟨by rfl, ?_⟩) (by assumption) ?_
        rotate_left
        · (intro w hSw; (try dsimp only at hSw); go_simp; (try with_reducible rfl))
        (try simp only [Act.put, List.setIfInBounds_toArray, List.set_cons_zero, List.set_cons_succ])
        refine wpAnyH_take (i := 16) (oi := { dst := some 33, op := Op.fieldAddr 59 (Operand.tmp 7) 1, type := 0, pos := "ckpt.go:41", after := #[{ on := 15, ground := Ground.guard }], guard := some (15, false) }) (v := ?_) rfl (by kernel_rfl) (by kernel_rfl) (by kernel_rfl) (fun _ _ _ h => h) (Or.inl ⟨by rfl, ?_⟩) (by assumption) ?_
        rotate_left
        · (intro w hSw; (try dsimp only at hSw); go_simp; (try with_reducible rfl))
        (try simp only [Act.put, List.setIfInBounds_toArray, List.set_cons_zero, List.set_cons_succ])
        refine wpAnyH_take (i := 17) (oi := { dst := some 34, op := Op.load 3 (Operand.tmp 33), type := 3, pos := "ckpt.go:41", after := #[{ on := 16, ground := Ground.data }, { on := 15, ground := Ground.guard }], guard := some (15, false) }) (v := ?_) rfl (by kernel_rfl) (by kernel_rfl) (by kernel_rfl) (fun _ _ _ h => h) (Or.inl ⟨by rfl, ?_⟩) (by assumption) ?_
        rotate_left
        · (intro w hSw; (try dsimp only at hSw); go_simp; (try with_reducible rfl))
        (try simp only [Act.put, List.setIfInBounds_toArray, List.set_cons_zero, List.set_cons_succ])
        refine wpAnyH_take (i := 18) (oi := { dst := some 35, op := Op.fieldAddr 23 (Operand.tmp 2) 1, type := 0, pos := "ckpt.go:41", after := #[{ on := 15, ground := Ground.guard }], guard := some (15, false) }) (v := ?_) rfl (by kernel_rfl) (by kernel_rfl) (by kernel_rfl) (fun _ _ _ h => h) (Or.inl ⟨by rfl, ?_⟩) (by assumption) ?_
        rotate_left
        · (intro w hSw; (try dsimp only at hSw); go_simp; (try with_reducible rfl))
        (try simp only [Act.put, List.setIfInBounds_toArray, List.set_cons_zero, List.set_cons_succ])
        refine wpAnyH_take (i := 19) (oi := { dst := some 36, op := Op.load 3 (Operand.tmp 35), type := 3, pos := "ckpt.go:41", after := #[{ on := 18, ground := Ground.data }, { on := 15, ground := Ground.guard }], guard := some (15, false) }) (v := ?_) rfl (by kernel_rfl) (by kernel_rfl) (by kernel_rfl) (fun _ _ _ h => h) (Or.inl ⟨by rfl, ?_⟩) (by assumption) ?_
        rotate_left
        · (intro w hSw; (try dsimp only at hSw); go_simp; (try with_reducible rfl))
        (try simp only [Act.put, List.setIfInBounds_toArray, List.set_cons_zero, List.set_cons_succ])
        refine wpAnyH_take (i := 20) (oi := { dst := some 37, op := Op.binOp BinOp.geq 3 (Operand.tmp 34) (Operand.tmp 36) 3, type := 4, pos := "ckpt.go:41", after := #[{ on := 17, ground := Ground.data }, { on := 19, ground := Ground.data }, { on := 15, ground := Ground.guard }], guard := some (15, false) }) (v := ?_) rfl (by kernel_rfl) (by kernel_rfl) (by kernel_rfl) (fun _ _ _ h => h) (Or.inl ⟨by rfl, ?_⟩) (by assumption) ?_
        rotate_left
        · (intro w hSw; (try dsimp only at hSw); go_simp; (try with_reducible rfl))
        (try simp only [Act.put, List.setIfInBounds_toArray, List.set_cons_zero, List.set_cons_succ])
        refine wpAnyH_take (i := 21) (oi := { dst := some 38, op := Op.pick (Operand.tmp 32) (Operand.const (Value.bool true)) (Operand.tmp 37), type := 4, pos := "ckpt.go:41", after := #[{ on := 15, ground := Ground.data }, { on := 20, ground := Ground.data }], guard := none }) (v := ?_) rfl (by kernel_rfl) (by kernel_rfl) (by kernel_rfl) (fun _ _ _ h => h) (Or.inl ⟨by rfl, ?_⟩) (by assumption) ?_
        rotate_left
        · (intro w hSw; (try dsimp only at hSw); go_simp; (try with_reducible rfl))
        (try simp only [Act.put, List.setIfInBounds_toArray, List.set_cons_zero, List.set_cons_succ])
        refine wpAnyH_take (i := 22) (oi := { dst := some 39, op := Op.move (Operand.tmp 38), type := 4, pos := "ckpt.go:41", after := #[{ on := 21, ground := Ground.data }, { on := 15, ground := Ground.chain }], guard := none }) (v := ?_) rfl (by kernel_rfl) (by kernel_rfl) (by kernel_rfl) (fun _ _ _ h => h) (Or.inl ⟨by rfl, ?_⟩) (by assumption) ?_
        rotate_left
        · (intro w hSw; (try dsimp only at hSw); go_simp; (try with_reducible rfl))
        (try simp only [Act.put, List.setIfInBounds_toArray, List.set_cons_zero, List.set_cons_succ])
        refine wpAnyH_take (i := 23) (oi := { dst := some 40, op := Op.move (Operand.tmp 5), type := 3, pos := "ckpt.go:41", after := #[{ on := 22, ground := Ground.guard }], guard := some (22, false) }) (v := ?_) rfl (by kernel_rfl) (by kernel_rfl) (by kernel_rfl) (fun _ _ _ h => h) (Or.inl ⟨by rfl, ?_⟩) (by assumption) ?_
        rotate_left
        · (intro w hSw; (try dsimp only at hSw); go_simp; (try with_reducible rfl))
        (try simp only [Act.put, List.setIfInBounds_toArray, List.set_cons_zero, List.set_cons_succ])
        refine wpAnyH_take (i := 24) (oi := { dst := some 41, op := Op.binOp BinOp.gtr 3 (Operand.tmp 40) (Operand.const (Value.int IntKind.i64 0)) 3, type := 4, pos := "ckpt.go:41", after := #[{ on := 23, ground := Ground.data }, { on := 22, ground := Ground.guard }], guard := some (22, false) }) (v := ?_) rfl (by kernel_rfl) (by kernel_rfl) (by kernel_rfl) (fun _ _ _ h => h) (Or.inl ⟨by rfl, ?_⟩) (by assumption) ?_
        rotate_left
        · (intro w hSw; (try dsimp only at hSw); go_simp; (try with_reducible rfl))
        (try simp only [Act.put, List.setIfInBounds_toArray, List.set_cons_zero, List.set_cons_succ])
        refine wpAnyH_take (i := 25) (oi := { dst := some 42, op := Op.move (Operand.tmp 41), type := 4, pos := "ckpt.go:41", after := #[{ on := 24, ground := Ground.data }, { on := 22, ground := Ground.chain }, { on := 22, ground := Ground.guard }], guard := some (22, false) }) (v := ?_) rfl (by kernel_rfl) (by kernel_rfl) (by kernel_rfl) (fun _ _ _ h => h) (Or.inl ⟨by rfl, ?_⟩) (by assumption) ?_
        rotate_left
        · (intro w hSw; (try dsimp only at hSw); go_simp; (try with_reducible rfl))
        (try simp only [Act.put, List.setIfInBounds_toArray, List.set_cons_zero, List.set_cons_succ])
        refine wpAnyH_take (i := 26) (oi := { dst := some 43, op := Op.move (Operand.tmp 1), type := 25, pos := "ckpt.go:41", after := #[{ on := 25, ground := Ground.guard }], guard := some (25, true) }) (v := undef) rfl (by kernel_rfl) (by kernel_rfl) (by kernel_rfl) (fun _ _ _ h => h) (Or.inr ⟨by rfl, rfl⟩) (by assumption) ?_
        (try simp only [Act.put, List.setIfInBounds_toArray, List.set_cons_zero, List.set_cons_succ])
        refine wpAnyH_take (i := 27) (oi := { dst := some 44, op := Op.move (Operand.tmp 5), type := 3, pos := "ckpt.go:41", after := #[{ on := 25, ground := Ground.guard }], guard := some (25, true) }) (v := undef) rfl (by kernel_rfl) (by kernel_rfl) (by kernel_rfl) (fun _ _ _ h => h) (Or.inr ⟨by rfl, rfl⟩) (by assumption) ?_
        (try simp only [Act.put, List.setIfInBounds_toArray, List.set_cons_zero, List.set_cons_succ])
        refine wpAnyH_take (i := 28) (oi := { dst := some 45, op := Op.binOp BinOp.sub 3 (Operand.tmp 44) (Operand.const (Value.int IntKind.i64 1)) 3, type := 3, pos := "ckpt.go:41", after := #[{ on := 27, ground := Ground.data }, { on := 25, ground := Ground.guard }], guard := some (25, true) }) (v := undef) rfl (by kernel_rfl) (by kernel_rfl) (by kernel_rfl) (fun _ _ _ h => h) (Or.inr ⟨by rfl, rfl⟩) (by assumption) ?_
        (try simp only [Act.put, List.setIfInBounds_toArray, List.set_cons_zero, List.set_cons_succ])
        refine wpAnyH_take (i := 29) (oi := { dst := some 46, op := Op.indexAddr 25 (Operand.tmp 43) (Operand.tmp 45), type := 0, pos := "ckpt.go:41", after := #[{ on := 26, ground := Ground.data }, { on := 28, ground := Ground.data }, { on := 25, ground := Ground.guard }], guard := some (25, true) }) (v := undef) rfl (by kernel_rfl) (by kernel_rfl) (by kernel_rfl) (fun _ _ _ h => h) (Or.inr ⟨by rfl, rfl⟩) (by assumption) ?_
        (try simp only [Act.put, List.setIfInBounds_toArray, List.set_cons_zero, List.set_cons_succ])
        refine wpAnyH_take (i := 30) (oi := { dst := some 47, op := Op.load 88 (Operand.tmp 46), type := 88, pos := "ckpt.go:41", after := #[{ on := 29, ground := Ground.data }, { on := 25, ground := Ground.guard }], guard := some (25, true) }) (v := undef) rfl (by kernel_rfl) (by kernel_rfl) (by kernel_rfl) (fun _ _ _ h => h) (Or.inr ⟨by rfl, rfl⟩) (by assumption) ?_
        (try simp only [Act.put, List.setIfInBounds_toArray, List.set_cons_zero, List.set_cons_succ])
        refine wpAnyH_take (i := 31) (oi := { dst := some 48, op := Op.load 88 (Operand.tmp 6), type := 88, pos := "ckpt.go:41", after := #[{ on := 25, ground := Ground.guard }], guard := some (25, true) }) (v := undef) rfl (by kernel_rfl) (by kernel_rfl) (by kernel_rfl) (fun _ _ _ h => h) (Or.inr ⟨by rfl, rfl⟩) (by assumption) ?_
        (try simp only [Act.put, List.setIfInBounds_toArray, List.set_cons_zero, List.set_cons_succ])
        refine wpAnyH_take (i := 32) (oi := { dst := some 49, op := Op.call { callee := Callee.value (Operand.func 68), args := #[Operand.tmp 47, Operand.tmp 48], argTypes := #[88, 88] }, type := 3, pos := "ckpt.go:41", after := #[{ on := 30, ground := Ground.data }, { on := 31, ground := Ground.data }, { on := 25, ground := Ground.chain }, { on := 25, ground := Ground.guard }], guard := some (25, true) }) (v := undef) rfl (by kernel_rfl) (by kernel_rfl) (by kernel_rfl) (fun _ _ _ h => h) (Or.inr ⟨by rfl, rfl⟩) (by assumption) ?_
        (try simp only [Act.put, List.setIfInBounds_toArray, List.set_cons_zero, List.set_cons_succ])
        refine wpAnyH_take (i := 33) (oi := { dst := some 50, op := Op.binOp BinOp.geq 3 (Operand.tmp 49) (Operand.const (Value.int IntKind.i64 0)) 3, type := 4, pos := "ckpt.go:41", after := #[{ on := 32, ground := Ground.data }, { on := 25, ground := Ground.guard }], guard := some (25, true) }) (v := undef) rfl (by kernel_rfl) (by kernel_rfl) (by kernel_rfl) (fun _ _ _ h => h) (Or.inr ⟨by rfl, rfl⟩) (by assumption) ?_
        (try simp only [Act.put, List.setIfInBounds_toArray, List.set_cons_zero, List.set_cons_succ])
        refine wpAnyH_take (i := 34) (oi := { dst := some 51, op := Op.pick (Operand.tmp 42) (Operand.tmp 50) (Operand.const (Value.bool false)), type := 4, pos := "ckpt.go:41", after := #[{ on := 25, ground := Ground.data }, { on := 33, ground := Ground.data }, { on := 22, ground := Ground.guard }], guard := some (22, false) }) (v := ?_) rfl (by kernel_rfl) (by kernel_rfl) (by kernel_rfl) (fun _ _ _ h => h) (Or.inl ⟨by rfl, ?_⟩) (by assumption) ?_
        rotate_left
        · (intro w hSw; (try dsimp only at hSw); go_simp; (try with_reducible rfl))
        (try simp only [Act.put, List.setIfInBounds_toArray, List.set_cons_zero, List.set_cons_succ])
        refine wpAnyH_take (i := 35) (oi := { dst := some 52, op := Op.pick (Operand.tmp 39) (Operand.const (Value.bool true)) (Operand.tmp 51), type := 4, pos := "ckpt.go:41", after := #[{ on := 22, ground := Ground.data }, { on := 34, ground := Ground.data }], guard := none }) (v := ?_) rfl (by kernel_rfl) (by kernel_rfl) (by kernel_rfl) (fun _ _ _ h => h) (Or.inl ⟨by rfl, ?_⟩) (by assumption) ?_
        rotate_left
        · (intro w hSw; (try dsimp only at hSw); go_simp; (try with_reducible rfl))
        (try simp only [Act.put, List.setIfInBounds_toArray, List.set_cons_zero, List.set_cons_succ])
        refine wpAnyH_done (by kernel_rfl) ?_ _
        go_wp2
        go_roundg (gk - 1)
        case measure => have := HK.out; omega
        case rel => exact ⟨1, rfl, by omega, ⟨by have := HK.out; omega⟩, ⟨HIN2.out⟩, ⟨fun j hj => by omega⟩, ⟨HXS.out⟩, ⟨below_drew HBX.out⟩⟩
      | succ k =>
        obtain ⟨q, hq⟩ : ∃ q, l.getD k plc0 = q := ⟨_, rfl⟩
        obtain ⟨ad', e', -, -, -, f0, f1, f2, f3⟩ := pl_at (Kd.C_below HC.out HBX.out) k (by omega) hq
        obtain rfl := Option.some.inj e'
        have HQ := Aside0.mk hq
        obtain ⟨qt, qb, qz, qk⟩ := q
        have HQ4 := Aside0.mk (show P4 X (ad.add (k * 4)) (qt, qb, qz, qk) from ⟨f0, f1, f2, f3⟩)
        clear e' hq f0 f1 f2 f3
        obtain ⟨cc, hcc⟩ : ∃ c, cmpP (qt, qb, qz, qk) (pt, pb, pz, pk) = c := ⟨_, rfl⟩
        have HCC := Aside0.mk hcc
        obtain ⟨t6, ht6⟩ : ∃ t, decide ((0 : Int) ≤ cc) = t := ⟨_, rfl⟩
        have HT6 := Aside0.mk (show (!decide (Below2 (qt, qb, qz, qk) (pt, pb, pz, pk))) = t6 by rw [← cmpP_ge, hcc]; exact ht6)
        clear hcc
        have qi : decide ((0 : Int) < ((k + 1 : Nat) : Int)) = true := decide_eq_true (by omega)
        have hk0 : (0 : Int) ≤ (k : Int) := by omega
        have hk1 : (k : Int) < (n : Int) := by omega
        have hkw : IntKind.i64.wrap (k : Int) = (k : Int) := IntWalk.i64_in _ (by omega)
        refine wp_region_held_drew (S := fun w' => w'.cell? ⟨g, 0, none⟩ = some (.int .i64 z) ∧ w'.cell? ⟨g, 1, none⟩ = some (.int .i64 zb) ∧ w'.cell? ⟨gp + 1, 0, none⟩ = some (.int .i64 pz) ∧ w'.cell? ⟨gp + 1, 1, none⟩ = some (.int .i64 pk) ∧ w'.cell? ⟨gp, 0, none⟩ = some (.int .u32 (pt : Int)) ∧ w'.cell? ⟨gp, 1, none⟩ = some (.int .u64 (pb : Int)) ∧ w'.cell? ⟨gp, 2, none⟩ = some (.int .i64 pz) ∧ w'.cell? ⟨gp, 3, none⟩ = some (.int .i64 pk) ∧ w'.cell? (ad.add (k * 4)) = some (.int .u32 (qt : Int)) ∧ w'.cell? ⟨(ad.add (k * 4)).block, (ad.add (k * 4)).off + 1, none⟩ = some (.int .u64 (qb : Int)) ∧ w'.cell? ⟨(ad.add (k * 4)).block, (ad.add (k * 4)).off + 2, none⟩ = some (.int .i64 qz) ∧ w'.cell? ⟨(ad.add (k * 4)).block, (ad.add (k * 4)).off + 3, none⟩ = some (.int .i64 qk)) (by kernel_rfl) (M12 (HM4.out.below (below_drew (Below.refl X.heap.size X))) (HP4.out.below (below_drew (Below.refl X.heap.size X))) (HQ4.out.below (below_drew (Below.refl X.heap.size X)))) (fun hHeld => ?_)
        refine wpAnyH_take (i := 0) (oi := { dst := some 17, op := Op.fieldAddr 59 (Operand.tmp 7) 0, type := 0, pos := "ckpt.go:41", after := #[], guard := none }) (v := ?_) rfl (by kernel_rfl) (by kernel_rfl) (by kernel_rfl) (fun _ _ _ h => h) (Or.inl ⟨by rfl, ?_⟩) (by assumption) ?_
        rotate_left
        · (intro w hSw; (try dsimp only at hSw); go_simp; (try with_reducible rfl))
        (try simp only [Act.put, List.setIfInBounds_toArray, List.set_cons_zero, List.set_cons_succ])
        refine wpAnyH_take (i := 1) (oi := { dst := some 18, op := Op.load 3 (Operand.tmp 17), type := 3, pos := "ckpt.go:41", after := #[{ on := 0, ground := Ground.data }], guard := none }) (v := ?_) rfl (by kernel_rfl) (by kernel_rfl) (by kernel_rfl) (fun _ _ _ h => h) (Or.inl ⟨by rfl, ?_⟩) (by assumption) ?_
        rotate_left
        · (intro w hSw; (try dsimp only at hSw); go_simp; (try with_reducible rfl))
        (try simp only [Act.put, List.setIfInBounds_toArray, List.set_cons_zero, List.set_cons_succ])
        refine wpAnyH_take (i := 2) (oi := { dst := some 19, op := Op.binOp BinOp.lss 3 (Operand.tmp 18) (Operand.const (Value.int IntKind.i64 2)) 3, type := 4, pos := "ckpt.go:41", after := #[{ on := 1, ground := Ground.data }], guard := none }) (v := ?_) rfl (by kernel_rfl) (by kernel_rfl) (by kernel_rfl) (fun _ _ _ h => h) (Or.inl ⟨by rfl, ?_⟩) (by assumption) ?_
        rotate_left
        · (intro w hSw; (try dsimp only at hSw); go_simp; (try with_reducible rfl))
        (try simp only [Act.put, List.setIfInBounds_toArray, List.set_cons_zero, List.set_cons_succ])
        refine wpAnyH_take (i := 3) (oi := { dst := some 20, op := Op.move (Operand.tmp 19), type := 4, pos := "ckpt.go:41", after := #[{ on := 2, ground := Ground.data }], guard := none }) (v := ?_) rfl (by kernel_rfl) (by kernel_rfl) (by kernel_rfl) (fun _ _ _ h => h) (Or.inl ⟨by rfl, ?_⟩) (by assumption) ?_
        rotate_left
        · (intro w hSw; (try dsimp only at hSw); go_simp; (try with_reducible rfl))
        (try simp only [Act.put, List.setIfInBounds_toArray, List.set_cons_zero, List.set_cons_succ])
        refine wpAnyH_take (i := 4) (oi := { dst := some 21, op := Op.fieldAddr 59 (Operand.tmp 7) 0, type := 0, pos := "ckpt.go:41", after := #[{ on := 3, ground := Ground.guard }], guard := some (3, false) }) (v := ?_) rfl (by kernel_rfl) (by kernel_rfl) (by kernel_rfl) (fun _ _ _ h => h) (Or.inl ⟨by rfl, ?_⟩) (by assumption) ?_
        rotate_left
        · (intro w hSw; (try dsimp only at hSw); go_simp; (try with_reducible rfl))
        (try simp only [Act.put, List.setIfInBounds_toArray, List.set_cons_zero, List.set_cons_succ])
        refine wpAnyH_take (i := 5) (oi := { dst := some 22, op := Op.load 3 (Operand.tmp 21), type := 3, pos := "ckpt.go:41", after := #[{ on := 4, ground := Ground.data }, { on := 3, ground := Ground.guard }], guard := some (3, false) }) (v := ?_) rfl (by kernel_rfl) (by kernel_rfl) (by kernel_rfl) (fun _ _ _ h => h) (Or.inl ⟨by rfl, ?_⟩) (by assumption) ?_
        rotate_left
        · (intro w hSw; (try dsimp only at hSw); go_simp; (try with_reducible rfl))
        (try simp only [Act.put, List.setIfInBounds_toArray, List.set_cons_zero, List.set_cons_succ])
        refine wpAnyH_take (i := 6) (oi := { dst := some 23, op := Op.fieldAddr 23 (Operand.tmp 2) 0, type := 0, pos := "ckpt.go:41", after := #[{ on := 3, ground := Ground.guard }], guard := some (3, false) }) (v := ?_) rfl (by kernel_rfl) (by kernel_rfl) (by kernel_rfl) (fun _ _ _ h => h) (Or.inl ⟨by rfl, ?_⟩) (by assumption) ?_
        rotate_left
        · (intro w hSw; (try dsimp only at hSw); go_simp; (try with_reducible rfl))
        (try simp only [Act.put, List.setIfInBounds_toArray, List.set_cons_zero, List.set_cons_succ])
        refine wpAnyH_take (i := 7) (oi := { dst := some 24, op := Op.load 3 (Operand.tmp 23), type := 3, pos := "ckpt.go:41", after := #[{ on := 6, ground := Ground.data }, { on := 3, ground := Ground.guard }], guard := some (3, false) }) (v := ?_) rfl (by kernel_rfl) (by kernel_rfl) (by kernel_rfl) (fun _ _ _ h => h) (Or.inl ⟨by rfl, ?_⟩) (by assumption) ?_
        rotate_left
        · (intro w hSw; (try dsimp only at hSw); go_simp; (try with_reducible rfl))
        (try simp only [Act.put, List.setIfInBounds_toArray, List.set_cons_zero, List.set_cons_succ])
        refine wpAnyH_take (i := 8) (oi := { dst := some 25, op := Op.binOp BinOp.geq 3 (Operand.tmp 22) (Operand.tmp 24) 3, type := 4, pos := "ckpt.go:41", after := #[{ on := 5, ground := Ground.data }, { on := 7, ground := Ground.data }, { on := 3, ground := Ground.guard }], guard := some (3, false) }) (v := ?_) rfl (by kernel_rfl) (by kernel_rfl) (by kernel_rfl) (fun _ _ _ h => h) (Or.inl ⟨by rfl, ?_⟩) (by assumption) ?_
        rotate_left
        · (intro w hSw; (try dsimp only at hSw); go_simp; (try with_reducible rfl))
        (try simp only [Act.put, List.setIfInBounds_toArray, List.set_cons_zero, List.set_cons_succ])
        refine wpAnyH_take (i := 9) (oi := { dst := some 26, op := Op.pick (Operand.tmp 20) (Operand.const (Value.bool true)) (Operand.tmp 25), type := 4, pos := "ckpt.go:41", after := #[{ on := 3, ground := Ground.data }, { on := 8, ground := Ground.data }], guard := none }) (v := ?_) rfl (by kernel_rfl) (by kernel_rfl) (by kernel_rfl) (fun _ _ _ h => h) (Or.inl ⟨by rfl, ?_⟩) (by assumption) ?_
        rotate_left
        · (intro w hSw; (try dsimp only at hSw); go_simp; (try with_reducible rfl))
        (try simp only [Act.put, List.setIfInBounds_toArray, List.set_cons_zero, List.set_cons_succ])
        refine wpAnyH_take (i := 10) (oi := { dst := some 27, op := Op.move (Operand.tmp 26), type := 4, pos := "ckpt.go:41", after := #[{ on := 9, ground := Ground.data }, { on := 3, ground := Ground.chain }], guard := none }) (v := ?_) rfl (by kernel_rfl) (by kernel_rfl) (by kernel_rfl) (fun _ _ _ h => h) (Or.inl ⟨by rfl, ?_⟩) (by assumption) ?_
        rotate_left
        · (intro w hSw; (try dsimp only at hSw); go_simp; (try with_reducible rfl))
        (try simp only [Act.put, List.setIfInBounds_toArray, List.set_cons_zero, List.set_cons_succ])
        refine wpAnyH_take (i := 11) (oi := { dst := some 28, op := Op.fieldAddr 59 (Operand.tmp 7) 1, type := 0, pos := "ckpt.go:41", after := #[{ on := 10, ground := Ground.guard }], guard := some (10, false) }) (v := ?_) rfl (by kernel_rfl) (by kernel_rfl) (by kernel_rfl) (fun _ _ _ h => h) (Or.inl ⟨by rfl, ?_⟩) (by assumption) ?_
        rotate_left
        · (intro w hSw; (try dsimp only at hSw); go_simp; (try with_reducible rfl))
        (try simp only [Act.put, List.setIfInBounds_toArray, List.set_cons_zero, List.set_cons_succ])
        refine wpAnyH_take (i := 12) (oi := { dst := some 29, op := Op.load 3 (Operand.tmp 28), type := 3, pos := "ckpt.go:41", after := #[{ on := 11, ground := Ground.data }, { on := 10, ground := Ground.guard }], guard := some (10, false) }) (v := ?_) rfl (by kernel_rfl) (by kernel_rfl) (by kernel_rfl) (fun _ _ _ h => h) (Or.inl ⟨by rfl, ?_⟩) (by assumption) ?_
        rotate_left
        · (intro w hSw; (try dsimp only at hSw); go_simp; (try with_reducible rfl))
        (try simp only [Act.put, List.setIfInBounds_toArray, List.set_cons_zero, List.set_cons_succ])
        refine wpAnyH_take (i := 13) (oi := { dst := some 30, op := Op.binOp BinOp.lss 3 (Operand.tmp 29) (Operand.const (Value.int IntKind.i64 0)) 3, type := 4, pos := "ckpt.go:41", after := #[{ on := 12, ground := Ground.data }, { on := 10, ground := Ground.guard }], guard := some (10, false) }) (v := ?_) rfl (by kernel_rfl) (by kernel_rfl) (by kernel_rfl) (fun _ _ _ h => h) (Or.inl ⟨by rfl, ?_⟩) (by assumption) ?_
        rotate_left
        · (intro w hSw; (try dsimp only at hSw); go_simp; (try with_reducible rfl))
        (try simp only [Act.put, List.setIfInBounds_toArray, List.set_cons_zero, List.set_cons_succ])
        refine wpAnyH_take (i := 14) (oi := { dst := some 31, op := Op.pick (Operand.tmp 27) (Operand.const (Value.bool true)) (Operand.tmp 30), type := 4, pos := "ckpt.go:41", after := #[{ on := 10, ground := Ground.data }, { on := 13, ground := Ground.data }], guard := none }) (v := ?_) rfl (by kernel_rfl) (by kernel_rfl) (by kernel_rfl) (fun _ _ _ h => h) (Or.inl ⟨by rfl, ?_⟩) (by assumption) ?_
        rotate_left
        · (intro w hSw; (try dsimp only at hSw); go_simp; (try with_reducible rfl))
        (try simp only [Act.put, List.setIfInBounds_toArray, List.set_cons_zero, List.set_cons_succ])
        refine wpAnyH_take (i := 15) (oi := { dst := some 32, op := Op.move (Operand.tmp 31), type := 4, pos := "ckpt.go:41", after := #[{ on := 14, ground := Ground.data }, { on := 10, ground := Ground.chain }], guard := none }) (v := ?_) rfl (by kernel_rfl) (by kernel_rfl) (by kernel_rfl) (fun _ _ _ h => h) (Or.inl ⟨by rfl, ?_⟩) (by assumption) ?_
        rotate_left
        · (intro w hSw; (try dsimp only at hSw); go_simp; (try with_reducible rfl))
        (try simp only [Act.put, List.setIfInBounds_toArray, List.set_cons_zero, List.set_cons_succ])
        refine wpAnyH_take (i := 16) (oi := { dst := some 33, op := Op.fieldAddr 59 (Operand.tmp 7) 1, type := 0, pos := "ckpt.go:41", after := #[{ on := 15, ground := Ground.guard }], guard := some (15, false) }) (v := ?_) rfl (by kernel_rfl) (by kernel_rfl) (by kernel_rfl) (fun _ _ _ h => h) (Or.inl ⟨by rfl, ?_⟩) (by assumption) ?_
        rotate_left
        · (intro w hSw; (try dsimp only at hSw); go_simp; (try with_reducible rfl))
        (try simp only [Act.put, List.setIfInBounds_toArray, List.set_cons_zero, List.set_cons_succ])
        refine wpAnyH_take (i := 17) (oi := { dst := some 34, op := Op.load 3 (Operand.tmp 33), type := 3, pos := "ckpt.go:41", after := #[{ on := 16, ground := Ground.data }, { on := 15, ground := Ground.guard }], guard := some (15, false) }) (v := ?_) rfl (by kernel_rfl) (by kernel_rfl) (by kernel_rfl) (fun _ _ _ h => h) (Or.inl ⟨by rfl, ?_⟩) (by assumption) ?_
        rotate_left
        · (intro w hSw; (try dsimp only at hSw); go_simp; (try with_reducible rfl))
        (try simp only [Act.put, List.setIfInBounds_toArray, List.set_cons_zero, List.set_cons_succ])
        refine wpAnyH_take (i := 18) (oi := { dst := some 35, op := Op.fieldAddr 23 (Operand.tmp 2) 1, type := 0, pos := "ckpt.go:41", after := #[{ on := 15, ground := Ground.guard }], guard := some (15, false) }) (v := ?_) rfl (by kernel_rfl) (by kernel_rfl) (by kernel_rfl) (fun _ _ _ h => h) (Or.inl ⟨by rfl, ?_⟩) (by assumption) ?_
        rotate_left
        · (intro w hSw; (try dsimp only at hSw); go_simp; (try with_reducible rfl))
        (try simp only [Act.put, List.setIfInBounds_toArray, List.set_cons_zero, List.set_cons_succ])
        refine wpAnyH_take (i := 19) (oi := { dst := some 36, op := Op.load 3 (Operand.tmp 35), type := 3, pos := "ckpt.go:41", after := #[{ on := 18, ground := Ground.data }, { on := 15, ground := Ground.guard }], guard := some (15, false) }) (v := ?_) rfl (by kernel_rfl) (by kernel_rfl) (by kernel_rfl) (fun _ _ _ h => h) (Or.inl ⟨by rfl, ?_⟩) (by assumption) ?_
        rotate_left
        · (intro w hSw; (try dsimp only at hSw); go_simp; (try with_reducible rfl))
        (try simp only [Act.put, List.setIfInBounds_toArray, List.set_cons_zero, List.set_cons_succ])
        refine wpAnyH_take (i := 20) (oi := { dst := some 37, op := Op.binOp BinOp.geq 3 (Operand.tmp 34) (Operand.tmp 36) 3, type := 4, pos := "ckpt.go:41", after := #[{ on := 17, ground := Ground.data }, { on := 19, ground := Ground.data }, { on := 15, ground := Ground.guard }], guard := some (15, false) }) (v := ?_) rfl (by kernel_rfl) (by kernel_rfl) (by kernel_rfl) (fun _ _ _ h => h) (Or.inl ⟨by rfl, ?_⟩) (by assumption) ?_
        rotate_left
        · (intro w hSw; (try dsimp only at hSw); go_simp; (try with_reducible rfl))
        (try simp only [Act.put, List.setIfInBounds_toArray, List.set_cons_zero, List.set_cons_succ])
        refine wpAnyH_take (i := 21) (oi := { dst := some 38, op := Op.pick (Operand.tmp 32) (Operand.const (Value.bool true)) (Operand.tmp 37), type := 4, pos := "ckpt.go:41", after := #[{ on := 15, ground := Ground.data }, { on := 20, ground := Ground.data }], guard := none }) (v := ?_) rfl (by kernel_rfl) (by kernel_rfl) (by kernel_rfl) (fun _ _ _ h => h) (Or.inl ⟨by rfl, ?_⟩) (by assumption) ?_
        rotate_left
        · (intro w hSw; (try dsimp only at hSw); go_simp; (try with_reducible rfl))
        (try simp only [Act.put, List.setIfInBounds_toArray, List.set_cons_zero, List.set_cons_succ])
        refine wpAnyH_take (i := 22) (oi := { dst := some 39, op := Op.move (Operand.tmp 38), type := 4, pos := "ckpt.go:41", after := #[{ on := 21, ground := Ground.data }, { on := 15, ground := Ground.chain }], guard := none }) (v := ?_) rfl (by kernel_rfl) (by kernel_rfl) (by kernel_rfl) (fun _ _ _ h => h) (Or.inl ⟨by rfl, ?_⟩) (by assumption) ?_
        rotate_left
        · (intro w hSw; (try dsimp only at hSw); go_simp; (try with_reducible rfl))
        (try simp only [Act.put, List.setIfInBounds_toArray, List.set_cons_zero, List.set_cons_succ])
        refine wpAnyH_take (i := 23) (oi := { dst := some 40, op := Op.move (Operand.tmp 5), type := 3, pos := "ckpt.go:41", after := #[{ on := 22, ground := Ground.guard }], guard := some (22, false) }) (v := ?_) rfl (by kernel_rfl) (by kernel_rfl) (by kernel_rfl) (fun _ _ _ h => h) (Or.inl ⟨by rfl, ?_⟩) (by assumption) ?_
        rotate_left
        · (intro w hSw; (try dsimp only at hSw); go_simp; (try with_reducible rfl))
        (try simp only [Act.put, List.setIfInBounds_toArray, List.set_cons_zero, List.set_cons_succ])
        refine wpAnyH_take (i := 24) (oi := { dst := some 41, op := Op.binOp BinOp.gtr 3 (Operand.tmp 40) (Operand.const (Value.int IntKind.i64 0)) 3, type := 4, pos := "ckpt.go:41", after := #[{ on := 23, ground := Ground.data }, { on := 22, ground := Ground.guard }], guard := some (22, false) }) (v := ?_) rfl (by kernel_rfl) (by kernel_rfl) (by kernel_rfl) (fun _ _ _ h => h) (Or.inl ⟨by rfl, ?_⟩) (by assumption) ?_
        rotate_left
        · (intro w hSw; (try dsimp only at hSw); go_simp; (try with_reducible rfl))
        (try simp only [Act.put, List.setIfInBounds_toArray, List.set_cons_zero, List.set_cons_succ])
        refine wpAnyH_take (i := 25) (oi := { dst := some 42, op := Op.move (Operand.tmp 41), type := 4, pos := "ckpt.go:41", after := #[{ on := 24, ground := Ground.data }, { on := 22, ground := Ground.chain }, { on := 22, ground := Ground.guard }], guard := some (22, false) }) (v := ?_) rfl (by kernel_rfl) (by kernel_rfl) (by kernel_rfl) (fun _ _ _ h => h) (Or.inl ⟨by rfl, ?_⟩) (by assumption) ?_
        rotate_left
        · (intro w hSw; (try dsimp only at hSw); go_simp; (try with_reducible rfl))
        (try simp only [Act.put, List.setIfInBounds_toArray, List.set_cons_zero, List.set_cons_succ])
        refine wpAnyH_take (i := 26) (oi := { dst := some 43, op := Op.move (Operand.tmp 1), type := 25, pos := "ckpt.go:41", after := #[{ on := 25, ground := Ground.guard }], guard := some (25, true) }) (v := ?_) rfl (by kernel_rfl) (by kernel_rfl) (by kernel_rfl) (fun _ _ _ h => h) (Or.inl ⟨by rfl, ?_⟩) (by assumption) ?_
        rotate_left
        · (intro w hSw; (try dsimp only at hSw); go_simp; (try with_reducible rfl))
        (try simp only [Act.put, List.setIfInBounds_toArray, List.set_cons_zero, List.set_cons_succ])
        refine wpAnyH_take (i := 27) (oi := { dst := some 44, op := Op.move (Operand.tmp 5), type := 3, pos := "ckpt.go:41", after := #[{ on := 25, ground := Ground.guard }], guard := some (25, true) }) (v := ?_) rfl (by kernel_rfl) (by kernel_rfl) (by kernel_rfl) (fun _ _ _ h => h) (Or.inl ⟨by rfl, ?_⟩) (by assumption) ?_
        rotate_left
        · (intro w hSw; (try dsimp only at hSw); go_simp; (try with_reducible rfl))
        (try simp only [Act.put, List.setIfInBounds_toArray, List.set_cons_zero, List.set_cons_succ])
        refine wpAnyH_take (i := 28) (oi := { dst := some 45, op := Op.binOp BinOp.sub 3 (Operand.tmp 44) (Operand.const (Value.int IntKind.i64 1)) 3, type := 3, pos := "ckpt.go:41", after := #[{ on := 27, ground := Ground.data }, { on := 25, ground := Ground.guard }], guard := some (25, true) }) (v := ?_) rfl (by kernel_rfl) (by kernel_rfl) (by kernel_rfl) (fun _ _ _ h => h) (Or.inl ⟨by rfl, ?_⟩) (by assumption) ?_
        rotate_left
        · (intro w hSw; (try dsimp only at hSw); go_simp; (try with_reducible rfl))
        (try simp only [Act.put, List.setIfInBounds_toArray, List.set_cons_zero, List.set_cons_succ])
        refine wpAnyH_take (i := 29) (oi := { dst := some 46, op := Op.indexAddr 25 (Operand.tmp 43) (Operand.tmp 45), type := 0, pos := "ckpt.go:41", after := #[{ on := 26, ground := Ground.data }, { on := 28, ground := Ground.data }, { on := 25, ground := Ground.guard }], guard := some (25, true) }) (v := ?_) rfl (by kernel_rfl) (by kernel_rfl) (by kernel_rfl) (fun _ _ _ h => h) (Or.inl ⟨by rfl, ?_⟩) (by assumption) ?_
        rotate_left
        · (intro w hSw; (try dsimp only at hSw); go_simp; (try with_reducible rfl))
        (try simp only [Act.put, List.setIfInBounds_toArray, List.set_cons_zero, List.set_cons_succ])
        refine wpAnyH_take (i := 30) (oi := { dst := some 47, op := Op.load 88 (Operand.tmp 46), type := 88, pos := "ckpt.go:41", after := #[{ on := 29, ground := Ground.data }, { on := 25, ground := Ground.guard }], guard := some (25, true) }) (v := ?_) rfl (by kernel_rfl) (by kernel_rfl) (by kernel_rfl) (fun _ _ _ h => h) (Or.inl ⟨by rfl, ?_⟩) (by assumption) ?_
        rotate_left
        · (intro w hSw; (try dsimp only at hSw); go_simp; (try with_reducible rfl))
        (try simp only [Act.put, List.setIfInBounds_toArray, List.set_cons_zero, List.set_cons_succ])
        refine wpAnyH_take (i := 31) (oi := { dst := some 48, op := Op.load 88 (Operand.tmp 6), type := 88, pos := "ckpt.go:41", after := #[{ on := 25, ground := Ground.guard }], guard := some (25, true) }) (v := ?_) rfl (by kernel_rfl) (by kernel_rfl) (by kernel_rfl) (fun _ _ _ h => h) (Or.inl ⟨by rfl, ?_⟩) (by assumption) ?_
        rotate_left
        · (intro w hSw; (try dsimp only at hSw); go_simp; (try with_reducible rfl))
        (try simp only [Act.put, List.setIfInBounds_toArray, List.set_cons_zero, List.set_cons_succ])
        refine wpAnyH_ready (rs := [32]) (by kernel_rfl) (by simp) ?_
        refine (AllReadyH.cons (o := { dst := some 49, op := Op.call { callee := Callee.value (Operand.func 68), args := #[Operand.tmp 47, Operand.tmp 48], argTypes := #[88, 88] }, type := 3, pos := "ckpt.go:41", after := #[{ on := 30, ground := Ground.data }, { on := 31, ground := Ground.data }, { on := 25, ground := Ground.chain }, { on := 25, ground := Ground.guard }], guard := some (25, true) }) rfl (fun K hK => ?_) AllReadyH.nil)
        go_simp
        refine (compare_calls (qt, qb, qz, qk) (pt, pb, pz, pk) _).mono ?_
        rintro e w8 ⟨rfl, hb8⟩
        rw [HCC.out]
        have HB8 := Aside0.mk (below_go (below_drew (Below.refl X.heap.size X)) hb8)
        clear hb8
        refine hK.out _ _ ?_ (fun hHeld => ?_)
        · exact M12 (HM4.out.below HB8.out) (HP4.out.below HB8.out) (HQ4.out.below HB8.out)
        clear hK K
        (try simp only [Act.put, List.setIfInBounds_toArray, List.set_cons_zero, List.set_cons_succ])
        refine wpAnyH_take (i := 33) (oi := { dst := some 50, op := Op.binOp BinOp.geq 3 (Operand.tmp 49) (Operand.const (Value.int IntKind.i64 0)) 3, type := 4, pos := "ckpt.go:41", after := #[{ on := 32, ground := Ground.data }, { on := 25, ground := Ground.guard }], guard := some (25, true) }) (v := ?_) rfl (by kernel_rfl) (by kernel_rfl) (by kernel_rfl) (fun _ _ _ h => h) (Or.inl ⟨by rfl, ?_⟩) (by assumption) ?_
        rotate_left
        · (intro w hSw; (try dsimp only at hSw); go_simp; (try with_reducible rfl))
        (try simp only [Act.put, List.setIfInBounds_toArray, List.set_cons_zero, List.set_cons_succ])
        refine wpAnyH_take (i := 34) (oi := { dst := some 51, op := Op.pick (Operand.tmp 42) (Operand.tmp 50) (Operand.const (Value.bool false)), type := 4, pos := "ckpt.go:41", after := #[{ on := 25, ground := Ground.data }, { on := 33, ground := Ground.data }, { on := 22, ground := Ground.guard }], guard := some (22, false) }) (v := ?_) rfl (by kernel_rfl) (by kernel_rfl) (by kernel_rfl) (fun _ _ _ h => h) (Or.inl ⟨by rfl, ?_⟩) (by assumption) ?_
        rotate_left
        · (intro w hSw; (try dsimp only at hSw); go_simp; (try with_reducible rfl))
        (try simp only [Act.put, List.setIfInBounds_toArray, List.set_cons_zero, List.set_cons_succ])
        refine wpAnyH_take (i := 35) (oi := { dst := some 52, op := Op.pick (Operand.tmp 39) (Operand.const (Value.bool true)) (Operand.tmp 51), type := 4, pos := "ckpt.go:41", after := #[{ on := 22, ground := Ground.data }, { on := 34, ground := Ground.data }], guard := none }) (v := ?_) rfl (by kernel_rfl) (by kernel_rfl) (by kernel_rfl) (fun _ _ _ h => h) (Or.inl ⟨by rfl, ?_⟩) (by assumption) ?_
        rotate_left
        · (intro w hSw; (try dsimp only at hSw); go_simp; (try with_reducible rfl))
        (try simp only [Act.put, List.setIfInBounds_toArray, List.set_cons_zero, List.set_cons_succ])
        refine wpAnyH_done (by kernel_rfl) ?_ _
        cases t6 with
        | true =>
          have HNM := Aside0.mk (show decide (MayP z zb l) = false from decide_eq_false (fun hh => by
            have h1 := (rises_iff l).1 hh.2 k (by rw [HL.out]; exact hlt)
            rw [HQ.out, HP.out] at h1
            have h2 := HT6.out
            rw [decide_eq_true h1] at h2
            cases h2))
          go_wp2
          go_ret
          exact ⟨by rw [HNM.out]; rfl, below_go HBX.out HB8.out⟩
        | false =>
          go_wp2
          go_roundg (gk - 1)
          case measure => have := HK.out; omega
          case rel => exact ⟨k + 1 + 1, by congr 1, by omega, ⟨by have := HK.out; omega⟩, ⟨HIN2.out⟩, ⟨fun j hj => by
            by_cases hjk : j + 1 < k + 1
            · exact HRI.out j hjk
            · obtain rfl : j = k := by omega
              rw [HQ.out, HP.out]
              have h2 := HT6.out
              by_cases hb : Below2 (qt, qb, qz, qk) (pt, pb, pz, pk)
              · exact hb
              · rw [decide_eq_false hb] at h2
                cases h2⟩, ⟨(HB8.out.block g (Array.getElem?_eq_some_iff.1 HXS.out).1).trans HXS.out⟩, ⟨below_go HBX.out HB8.out⟩⟩
    · obtain rfl : i = n := by omega
      have hd0 : decide ((i : Int) < (i : Int)) = false := decide_eq_false (by omega)
      have HM := Aside0.mk (show decide (MayP z zb l) = true from decide_eq_true ⟨fun p hp => by
        obtain ⟨j, hj, rfl⟩ := List.mem_iff_getElem.1 hp
        have := HIN.out j (by rw [← HL.out]; exact hj)
        rwa [List.getD_eq_getElem?_getD, List.getElem?_eq_getElem hj] at this, (rises_iff l).2 (fun j hj => HRI.out j (by rw [← HL.out]; exact hj))⟩)
      go_wp2
      go_ret
      exact ⟨by rw [HM.out]; rfl, HBr.out⟩
end Go.Proofs.Ytkmeipblgdahoaa.Ck
