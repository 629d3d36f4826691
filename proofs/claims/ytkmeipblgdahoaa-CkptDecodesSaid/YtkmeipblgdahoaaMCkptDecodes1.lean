/- Part 1 of 5 of the proof of CkptDecodes: Base, Words2, CrcPure, RecPure, Wire, EncKit, Take, Take2, TakeKit, RefWire, CkptPure, CkptCmp, CkptItm. -/
import Derived.Test.YtkmeipblgdahoaaWWords
import Derived.Deep.Slices
import Derived.ChangeSame
import Derived.ChangeArms
import Derived.Lib.SmallJoins
import Derived.Test.YtkmeipblgdahoaaProg
import Derived.Test.YtkmeipblgdahoaaWMore
import Derived.Test.YtkmeipblgdahoaaWNEv
import Derived.Test.YtkmeipblgdahoaaWShare
import Derived.WalkKit
import Derived.KernelRfl
import Derived.Laws.BitsAllLaws
import Derived.Laws.BitsLemmas
import Derived.IntWalk
import Derived.Deep.LoopGhost
import Derived.Deep.QuietTactic
import Derived.BigQuiet
import Derived.WideLaws
import Derived.Outline
import Derived.Test.YtkmeipblgdahoaaWZeros
import Derived.Laws.CopyOwn
import Derived.Handy
import Derived.Recover
import Derived.RangeFuncBox
import Derived.Laws.Pointers
import Derived.WalkLawsBesides
import Derived.WideShapes
/- Words of this seat's proofs: kinds of values with their bounds, and how an argument's reading opens to such a kind. No function of the program in sight. -/
namespace Go.Proofs.Ytkmeipblgdahoaa.Base
open Go.RowKit Go.Deep Go.Proofs.YtkmeipblgdahoaaW.PrintWords
set_option linter.unusedVariables false

/-- A whole number within its kind. -/
def num (k : IntKind) : Kd Int where
  sz := 1
  E := []
  K := fun _ x cs => cs = [.int k x] ∧ (Lit.int k x).wf = true
  M := fun _ _ _ x cs => cs = [.int k x] ∧ (Lit.int k x).wf = true
  K_len := fun h => by rw [h.1]; rfl
  K_one := fun h u hu => by
    rw [h.1] at hu
    rw [List.mem_singleton.1 hu]
    rfl
  K_below := fun _ h => h
  K_of_M := fun h => h
  M_mono := fun _ h => h
  M_bound := fun h => h
  M_move := fun _ h => h
  M_lower := fun _ h => h
/-- A whole number of an unsigned kind, as a natural number. -/
def nat (k : IntKind) : Kd Nat where
  sz := 1
  E := []
  K := fun _ x cs => cs = [.int k (x : Int)] ∧ (Lit.int k (x : Int)).wf = true
  M := fun _ _ _ x cs => cs = [.int k (x : Int)] ∧ (Lit.int k (x : Int)).wf = true
  K_len := fun h => by rw [h.1]; rfl
  K_one := fun h u hu => by
    rw [h.1] at hu
    rw [List.mem_singleton.1 hu]
    rfl
  K_below := fun _ h => h
  K_of_M := fun h => h
  M_mono := fun _ h => h
  M_bound := fun h => h
  M_move := fun _ h => h
  M_lower := fun _ h => h
/-- A byte. -/
def byte : Kd UInt8 := Kd.scalar (fun b => .int .u8 (b.toNat : Int)) (fun _ => rfl)

theorem wf_u8 {x : Int} (h : (Lit.int .u8 x).wf = true) : 0 ≤ x ∧ x < 256 := by 
  have h' : 0 ≤ x ∧ x ≤ 255 := by simpa [Lit.wf, IntKind.min, IntKind.max, IntKind.bits, IntKind.signed] using h
  omega

theorem byte_at {w : World} {A : Option Addr} {n : Nat} {xs : List UInt8} (h : byte.C w A n xs) (i : Nat) (hi : i < n) :
    ∃ ad, A = some ad ∧ w.cell? (ad.add i) = some (.int .u8 ((xs.getD i 0).toNat : Int)) := by
  obtain ⟨ad, c, e, _, hK, hc⟩ := ReadsRow.get_ h 0 (i : Int) (by omega) (by omega)
  have hK' : c = [.int .u8 ((xs.getD i 0).toNat : Int)] := hK
  subst hK'
  refine ⟨ad, e, ?_⟩
  have := hc 0 _ rfl
  rwa [Int.toNat_natCast, show i * byte.sz + 0 = i from by show i * 1 + 0 = i; omega] at this
theorem bytes_at {e : Nat} {w : World} {A : Option Addr} {n : Nat} {xss : List (List UInt8)} (h : (Kd.slice e byte).C w A n xss) (i : Nat) (hi : i < n) :
    ∃ ad A0 c0, A = some ad ∧ w.cell? (ad.add i) = some (.slice A0 (xss.getD i []).length c0) ∧ (xss.getD i []).length ≤ c0 ∧ byte.C w A0 (xss.getD i []).length (xss.getD i []) := by
  obtain ⟨ad, c, e, _, hK, hc⟩ := ReadsRow.get_ h [] (i : Int) (by omega) (by omega)
  obtain ⟨A0, c0, rfl, h1, h2⟩ := hK
  rw [Int.toNat_natCast] at hc h1 h2
  refine ⟨ad, A0, c0, e, ?_, h1, h2⟩
  have := hc 0 _ rfl
  rwa [show i * (Kd.slice _ byte).sz + 0 = i from by show i * 1 + 0 = i; omega] at this
theorem byte_lt (b : UInt8) : (b.toNat : Int) < 256 := by have := b.toNat_lt; omega
theorem C_len {α : Type} {d : Kd α} {w : World} {A : Option Addr} {n : Nat} {xs : List α} (h : d.C w A n xs) : xs.length = n ∧ n ≤ 9223372036854775807 := ⟨h.1, h.2.1⟩
theorem drop_getD {α : Type} (xs : List α) (i : Nat) (d : α) (h : i < xs.length) : xs.drop i = xs.getD i d :: xs.drop (i + 1) := by
  rw [List.drop_eq_getElem_cons h, List.getD_eq_getElem?_getD, List.getElem?_eq_getElem h]; rfl

theorem wf_u16' {x : Int} (h : (Lit.int .u16 x).wf = true) : 0 ≤ x ∧ x < 65536 := by
  have h' : 0 ≤ x ∧ x ≤ 65535 := by simpa [Lit.wf, IntKind.min, IntKind.max, IntKind.bits, IntKind.signed] using h
  omega
theorem wf_u32' {x : Int} (h : (Lit.int .u32 x).wf = true) : 0 ≤ x ∧ x < 4294967296 := by
  have h' : 0 ≤ x ∧ x ≤ 4294967295 := by simpa [Lit.wf, IntKind.min, IntKind.max, IntKind.bits, IntKind.signed] using h
  omega
theorem wf_u64' {x : Int} (h : (Lit.int .u64 x).wf = true) : 0 ≤ x ∧ x < 18446744073709551616 := by
  have h' : 0 ≤ x ∧ x ≤ 18446744073709551615 := by simpa [Lit.wf, IntKind.min, IntKind.max, IntKind.bits, IntKind.signed] using h
  omega

/-- Cells that are so many values, each of kind d. -/
def Each {α : Type} (d : Kd α) (w : World) : List α → List Value → Prop
  | [], [] => True
  | x :: xs, v :: vs => d.K w x [v] ∧ Each d w xs vs
  | _, _ => False
theorem Each.len {α : Type} {d : Kd α} {w : World} : ∀ {xs : List α} {vs : List Value}, Each d w xs vs → vs.length = xs.length
  | [], [], _ => rfl
  | _ :: _, _ :: _, h => by simp [Each.len h.2]
theorem Each.get {α : Type} {d : Kd α} {w : World} : ∀ {xs : List α} {vs : List Value}, Each d w xs vs → ∀ (j : Nat) (x : α), xs[j]? = some x → ∃ v, vs[j]? = some v ∧ d.K w x [v]
  | x :: xs, v :: vs, h, 0, y, hy => ⟨v, rfl, by simp at hy; subst hy; exact h.1⟩
  | x :: xs, v :: vs, h, j + 1, y, hy => by
    obtain ⟨u, hu, hk⟩ := Each.get h.2 j y (by simpa using hy)
    exact ⟨u, by simpa using hu, hk⟩
  | [], [], _, j, y, hy => by simp at hy
theorem C_of_block {α : Type} {d : Kd α} (hs : d.sz = 1) {w : World} {b : Nat} {vs : Array Value} {t : TypeId} {fr : Nat × Nat} {xs : List α} (hb : w.heap[b]? = some (.cells vs t fr)) (h : Each d w xs vs.toList)
    (hm : xs.length ≤ 9223372036854775807) : d.C w (some ⟨b, 0, none⟩) xs.length xs := by
  refine ⟨rfl, hm, fun _ => ⟨_, rfl, fun j x hj => ?_⟩⟩
  obtain ⟨v, hv, hk⟩ := h.get j x hj
  refine ⟨[v], by rw [hs]; rfl, hk, fun i u hu => ?_⟩
  have hi : i = 0 := by have := (List.getElem?_eq_some_iff.1 hu).1; simp at this; exact this
  subst hi
  have hu' : v = u := by simpa using hu
  subst hu'
  rw [hs, Nat.mul_one, Nat.add_zero, add_plain]
  rw [Array.getElem?_toList] at hv
  simp [World.cell?, hb, hv]
theorem C_of_blockN {α : Type} {d : Kd α} {w : World} {b : Nat} {vs : Array Value} {t : TypeId} {fr : Nat × Nat} {xs : List α} (hb : w.heap[b]? = some (.cells vs t fr)) (hl : vs.size = xs.length * d.sz)
    (h : ∀ (j : Nat) (x : α), xs[j]? = some x → d.K w x ((vs.toList.drop (j * d.sz)).take d.sz)) (hm : xs.length ≤ 9223372036854775807) : d.C w (some ⟨b, 0, none⟩) xs.length xs := by
  refine ⟨rfl, hm, fun _ => ⟨_, rfl, fun j x hj => ⟨_, d.K_len (h j x hj), h j x hj, fun i u hu => ?_⟩⟩⟩
  have hi : i < d.sz := by have := (List.getElem?_eq_some_iff.1 hu).1; rw [d.K_len (h j x hj)] at this; exact this
  rw [List.getElem?_take_of_lt hi, List.getElem?_drop, Array.getElem?_toList] at hu
  rw [add_plain]
  simp [World.cell?, hb, hu]
theorem Each.mono {α : Type} {d : Kd α} {w w1 : World} (hb : Below w.heap.size w w1) : ∀ {xs : List α} {vs : List Value}, Each d w xs vs → Each d w1 xs vs
  | [], [], _ => trivial
  | _ :: _, _ :: _, h => ⟨d.K_below hb h.1, Each.mono hb h.2⟩
theorem alloc_below (w : World) (o : Obj) : Below w.heap.size w (w.alloc o) := (Below.refl _ _).alloc (Nat.le_refl _) o
/-- What a literal lays. -/
theorem C_lit {α : Type} {d : Kd α} (hs : d.sz = 1) {w : World} {vs : Array Value} {t : TypeId} {fr : Nat × Nat} {xs : List α} (h : Each d w xs vs.toList) {b n : Nat} (hb : b = w.heap.size) (hn : n = xs.length) (hm : xs.length ≤ 9223372036854775807) :
    d.C (w.alloc (.cells vs t fr)) (some ⟨b, 0, none⟩) n xs := by
  subst hb hn
  exact C_of_block hs (heap_alloc_new w _) (h.mono (alloc_below w _)) hm
theorem cell_fld {w : World} {ad : Addr} {m j : Nat} {u : Value} (h : w.cell? (ad.add (m + j)) = some u) (hj : 0 < j) : w.cell? ⟨(ad.add m).block, (ad.add m).off + j, none⟩ = some u := by rwa [add_field ad m j hj] at h
theorem grown_undrew {W w1 : World} {r : Option Nat} (h : W.drew.grownBy w1 r) : W.grownBy w1 r := ⟨h.os, h.tape, h.output, h.size, h.block⟩
theorem below_go {w w1 w2 : World} (h : Below w.heap.size w w1) (k : Below w1.heap.size w1 w2) : Below w.heap.size w w2 := below_then h h.size k
theorem blk_here {W : World} {o : Obj} {b : Nat} (hb : b = W.heap.size) : (W.alloc o).heap[b]? = some o := by subst hb; exact heap_alloc_new W o
theorem blk_past {W : World} {o x : Obj} {b : Nat} (h : W.heap[b]? = some x) : (W.alloc o).heap[b]? = some x := by
  have hlt : b < W.heap.size := (Array.getElem?_eq_some_iff.1 h).1
  rw [← h]
  exact ((alloc_below W o).block b hlt)
theorem blk_drawn {W : World} {x : Obj} {b : Nat} (h : W.heap[b]? = some x) : W.drew.heap[b]? = some x := h
theorem K_bytes {e : Nat} {w : World} {A : Option Addr} {n c : Nat} {xs : List UInt8} (h : byte.C w A n xs) (hc : n ≤ c) : (Kd.slice e byte).K w xs [.slice A n c] := by
  obtain ⟨hl, _⟩ := C_len h
  subst hl
  exact ⟨A, c, rfl, hc, h⟩

/-- What reads as type t is of kind d. -/
structure Opn {α : Type} (P : Program) (t : TypeId) (d : Kd α) : Prop where
  out : ∀ {H : Type} (enc : TypeId × Value → H) (w : World) (base : Nat) (spare : Nat → Bool) (held : Bool) (fuel : Nat) (cs : List Value) (x : DataW H × List MemPlace),
    DataW.trod enc P w base spare held fuel t cs = some x → ∃ a, d.K w a cs

section
variable {P : Program} {t e : TypeId}
theorem Opn.num {k : IntKind} (ht : P.underlying t = some (.int k)) : Opn P t (num k) := by
  refine ⟨fun {H} enc w base spare held fuel cs x h => ?_⟩
  obtain ⟨n, rfl, _, hw⟩ := DataW.trod_int ht h
  exact ⟨n, rfl, hw⟩
theorem Opn.nat {k : IntKind} (ht : P.underlying t = some (.int k)) (h0 : ∀ n : Int, (Lit.int k n).wf = true → 0 ≤ n) : Opn P t (nat k) := by
  refine ⟨fun {H} enc w base spare held fuel cs x h => ?_⟩
  obtain ⟨n, rfl, _, hw⟩ := DataW.trod_int ht h
  have h1 := h0 n hw
  refine ⟨n.toNat, ?_, ?_⟩
  · rw [show ((n.toNat : Nat) : Int) = n by omega]
  · rw [show ((n.toNat : Nat) : Int) = n by omega]; exact hw
theorem Opn.bool (ht : P.underlying t = some .bool) : Opn P t Kd.bool := by
  refine ⟨fun {H} enc w base spare held fuel cs x h => ?_⟩
  obtain ⟨b, rfl, _⟩ := DataW.trod_bool ht h
  exact ⟨b, rfl⟩
theorem Opn.byte (ht : P.underlying t = some (.int .u8)) : Opn P t byte := by
  refine ⟨fun {H} enc w base spare held fuel cs x h => ?_⟩
  obtain ⟨n, rfl, _, hw⟩ := DataW.trod_int ht h
  have hb := wf_u8 hw
  refine ⟨UInt8.ofNat n.toNat, ?_⟩
  show [Value.int .u8 n] = [Value.int .u8 _]
  have : ((UInt8.ofNat n.toNat).toNat : Int) = n := by
    rw [UInt8.toNat_ofNat']
    omega
  rw [this]
theorem Opn.iso {α β : Type} {d : Kd α} (f : β → α) (g : α → β) (hg : ∀ a, f (g a) = a) (h : Opn P t d) : Opn P t (d.iso f) := by
  refine ⟨fun {H} enc w base spare held fuel cs x hx => ?_⟩
  obtain ⟨a, ha⟩ := h.out enc w base spare held fuel cs x hx
  exact ⟨g a, by show d.K w (f (g a)) cs; rw [hg]; exact ha⟩
theorem Opn.slice {α : Type} {d : Kd α} (ht : P.underlying t = some (.slice e)) (hc : P.cellsOf e = d.sz) (h : Opn P e d) : Opn P t (Kd.slice e d) := by
  refine ⟨fun {H} enc w base spare held fuel cs x hx => ?_⟩
  rcases open_slice ht hx with ⟨rfl, _⟩ | ⟨a, len, cap, m, n, D, Pl, rfl, _, hl, hm, hmm, _, hel⟩
  · exact ⟨[], none, 0, rfl, Nat.le_refl _, rfl, by simp, fun hp => by simp at hp⟩
  · have hlm : len ≤ m := by rw [hmm]; split <;> omega
    have hel' : ∀ i, i < len → ∃ y : α, ∃ c, c.length = d.sz ∧ d.K w y c ∧ ∀ j u, c[j]? = some u → w.cell? (a.add (i * d.sz + j)) = some u := by
      intro i hi
      obtain ⟨cs', hcs, htr⟩ := hel i (by omega)
      obtain ⟨y, hy⟩ := h.out enc w base spare held n cs' _ htr
      refine ⟨y, cs', d.K_len hy, hy, fun j u hu => ?_⟩
      rw [hc] at hcs
      have hj : j < d.sz := by have := (List.getElem?_eq_some_iff.1 hu).1; rw [d.K_len hy] at this; exact this
      have := (World.cells?_some hcs).2.2 j hj
      rw [Go.Deep.add_add] at this
      rw [this, hu]
    have hne : ∀ i : Fin len, ∃ y : α, ∃ c, c.length = d.sz ∧ d.K w y c ∧ ∀ j u, c[j]? = some u → w.cell? (a.add (i.1 * d.sz + j)) = some u := fun i => hel' i.1 i.2
    obtain ⟨f, hf⟩ := Classical.axiomOfChoice hne
    refine ⟨List.ofFn f, some a, cap, by rw [List.length_ofFn], by rw [List.length_ofFn]; exact hl, by rw [List.length_ofFn], ?_, fun _ => ⟨a, rfl, ?_⟩⟩
    · rw [List.length_ofFn]; simp only [maxLen] at hm; omega
    · intro j p hj
      have hlt : j < len := by have := (List.getElem?_eq_some_iff.1 hj).1; rw [List.length_ofFn] at this; exact this
      rw [List.getElem?_ofFn] at hj
      simp only [hlt, dif_pos, Option.some.injEq] at hj
      subst hj
      exact hf ⟨j, hlt⟩

/-- The fields of a struct from an offset on. -/
structure OpnFs {α : Type} (P : Program) (fs : List Field) (off : Nat) (d : Kd α) : Prop where
  out : ∀ {H : Type} (enc : TypeId × Value → H) (w : World) (base : Nat) (spare : Nat → Bool) (held : Bool) (fuel : Nat) (cs : List Value),
    cs.length = off + d.sz → (∀ f ∈ fs, ∃ y, DataW.trod enc P w base spare held fuel f.type ((cs.drop f.offset).take (P.cellsOf f.type)) = some y) → ∃ a, d.K w a (cs.drop off)
theorem OpnFs.last {α : Type} {d : Kd α} {f : Field} {off : Nat} (ho : f.offset = off) (hc : P.cellsOf f.type = d.sz) (h : Opn P f.type d) : OpnFs P [f] off d := by
  refine ⟨fun {H} enc w base spare held fuel cs hl hf => ?_⟩
  obtain ⟨y, hy⟩ := hf f (by simp)
  rw [ho, hc, List.take_of_length_le (by rw [List.length_drop]; omega)] at hy
  exact h.out enc w base spare held fuel _ y hy
theorem OpnFs.cons {α β : Type} {a : Kd α} {b : Kd β} {f : Field} {fs : List Field} {off : Nat} (ho : f.offset = off) (hc : P.cellsOf f.type = a.sz) (h : Opn P f.type a) (hr : OpnFs P fs (off + a.sz) b) : OpnFs P (f :: fs) off (Kd.pair a b) := by
  refine ⟨fun {H} enc w base spare held fuel cs hl hf => ?_⟩
  have hsz : (Kd.pair a b).sz = a.sz + b.sz := rfl
  rw [hsz] at hl
  obtain ⟨y, hy⟩ := hf f (by simp)
  rw [ho, hc] at hy
  obtain ⟨x, hx⟩ := h.out enc w base spare held fuel _ y hy
  obtain ⟨z, hz⟩ := hr.out enc w base spare held fuel cs (by omega) (fun g hg => hf g (List.mem_cons_of_mem _ hg))
  refine ⟨(x, z), (cs.drop off).take a.sz, cs.drop (off + a.sz), ?_, hx, hz⟩
  rw [← List.drop_drop, List.take_append_drop]
theorem Opn.struct {α : Type} {d : Kd α} {fs : Array Field} (ht : P.underlying t = some (.struct fs)) (hc : P.cellsOf t = d.sz) (h : OpnFs P fs.toList 0 d) : Opn P t d := by
  refine ⟨fun {H} enc w base spare held fuel cs x hx => ?_⟩
  obtain ⟨xs, n, _, _, hl, hlen, hf⟩ := DataW.trod_struct ht hx
  have := h.out enc w base spare held n cs (by omega) (fun f hfm => by
    obtain ⟨i, hi, rfl⟩ := List.mem_iff_getElem.1 hfm
    have hi' : i < xs.length := by simpa [hlen] using hi
    have h1 := hf i _ (by rw [← Array.getElem?_toList]; exact List.getElem?_eq_getElem hi)
    rw [List.getElem?_eq_getElem hi'] at h1
    exact ⟨_, h1⟩)
  simpa using this
theorem open_kd {H : Type} {enc : TypeId × Value → H} {α : Type} {d : Kd α} (ht : P.underlying t = some (.slice e)) (hc : P.cellsOf e = d.sz) (ho : Opn P e d) {W : World} {base : Nat} {sp : Nat → Bool} {held : Bool} {a : Option Addr} {len cap : Nat} {x : DataW H} {p : List MemPlace}
    (h : DataW.Trod enc P W base sp held t (.slice a len cap) x p) : ∃ xs : List α, d.C W a len xs ∧ len ≤ cap := by
  obtain ⟨fuel, hf⟩ := h
  obtain ⟨xs, A, c, he, hl, hr⟩ := (Opn.slice ht hc ho).out enc W base sp held fuel _ _ hf
  have he' : Value.slice a len cap = .slice A xs.length c := by simpa [Value.cells] using he
  injection he' with h1 h2 h3
  subst h1 h2 h3
  exact ⟨xs, hr, hl⟩
theorem open_agg_kd {H : Type} {enc : TypeId × Value → H} {α : Type} {d : Kd α} {fs : Array Field} (ht : P.underlying t = some (.struct fs)) (ho : Opn P t d) {W : World} {r : Reach} {b0 base : Nat} {sp : Nat → Bool} {held : Bool} {v : Value} {x : DataW H} {p : List MemPlace}
    (hv : Value.okWide P W r b0 t v) (h : DataW.Trod enc P W base sp held t v x p) : ∃ (a : α) (cs : Array Value), v = .agg cs ∧ d.K W a cs.toList := by
  obtain ⟨cs, rfl, hsz⟩ := Go.WideShapes.okWide_struct ht hv
  obtain ⟨fuel, hf⟩ := h
  obtain ⟨a, ha⟩ := ho.out enc W base sp held fuel _ _ hf
  exact ⟨a, cs, rfl, by simpa [Value.cells] using ha⟩
theorem nat_of {k : IntKind} {m : Nat} {a : Int} (h : (Lit.int k a).wf = true) (hk : ∀ x : Int, (Lit.int k x).wf = true → 0 ≤ x ∧ x < m) : ∃ n : Nat, a = (n : Int) ∧ n < m := by
  have := hk a h
  exact ⟨a.toNat, by omega, by omega⟩
theorem wf_u16 {x : Int} (h : (Lit.int .u16 x).wf = true) : 0 ≤ x ∧ x < (65536 : Nat) := by
  have h' : 0 ≤ x ∧ x ≤ 65535 := by simpa [Lit.wf, IntKind.min, IntKind.max, IntKind.bits, IntKind.signed] using h
  omega
theorem wf_u32 {x : Int} (h : (Lit.int .u32 x).wf = true) : 0 ≤ x ∧ x < (4294967296 : Nat) := by
  have h' : 0 ≤ x ∧ x ≤ 4294967295 := by simpa [Lit.wf, IntKind.min, IntKind.max, IntKind.bits, IntKind.signed] using h
  omega
theorem wf_u64 {x : Int} (h : (Lit.int .u64 x).wf = true) : 0 ≤ x ∧ x < (18446744073709551616 : Nat) := by
  have h' : 0 ≤ x ∧ x ≤ 18446744073709551615 := by simpa [Lit.wf, IntKind.min, IntKind.max, IntKind.bits, IntKind.signed] using h
  omega
theorem wf_i64 {x : Int} (h : (Lit.int .i64 x).wf = true) : -9223372036854775808 ≤ x ∧ x ≤ 9223372036854775807 := by
  simpa [Lit.wf, IntKind.min, IntKind.max, IntKind.bits, IntKind.signed] using h
theorem byte_of {a : Int} (h : (Lit.int .u8 a).wf = true) : ∃ b : UInt8, a = (b.toNat : Int) := by
  have hb := wf_u8 h
  refine ⟨UInt8.ofNat a.toNat, ?_⟩
  rw [UInt8.toNat_ofNat']
  omega
end
end Go.Proofs.Ytkmeipblgdahoaa.Base

/- Laws of this seat's program at its appends of bytes; no function of the program in sight. -/
namespace Go.Proofs.Ytkmeipblgdahoaa.Base
open Go.RowKit Go.Proofs.YtkmeipblgdahoaaW.PrintWords
set_option linter.unusedVariables false

theorem below_of_grown {w w1 : World} (h : w.grownBy w1 none) : Below w.heap.size w w1 := ⟨h.os, h.tape, h.output, h.size, fun i hi => h.block i hi (by simp)⟩
theorem max2_mx (k k' : IntKind) (x y : Int) : Builtin.max2 (.int k x) (.int k' y) = pure (.int k (mx x y)) := by simp only [Builtin.max2, mx, gt_iff_lt]
theorem min2_mn (k k' : IntKind) (x y : Int) : Builtin.min2 (.int k x) (.int k' y) = pure (.int k (mn x y)) := by simp only [Builtin.min2, mn]
theorem mx0 (k : Int) (h : k ≤ 9223372036854775807) : 0 ≤ mx k 0 ∧ mx k 0 ≤ 9223372036854775807 := by unfold mx; split <;> omega
theorem info_u8 : (Try.prog.info? 5).map (fun i => (i.zero, i.size, i.bytes)) = some (some (.int .u8 0), 1, 1) := by kernel_rfl
def anyB : Nat → Prop := fun _ => True
/-- A row of bytes of the call's own, blocks from base on. -/
def Own (w : World) (base : Nat) (v : Value) (xs : List UInt8) : Prop := byte.R 5 w base anyB v xs
theorem Own.nil (w : World) (base : Nat) : Own w base (.slice none 0 0) [] := Kd.R_nil _ _ _ _ _
theorem Own.below {w w1 : World} {base : Nat} {v : Value} {xs : List UInt8} (h : Own w base v xs) (hb : Below w.heap.size w w1) : Own w1 base v xs := Kd.R_below h hb
theorem Own.reads {w : World} {base : Nat} {v : Value} {xs : List UInt8} (h : Own w base v xs) : ∃ A n c, v = .slice A n c ∧ n ≤ c ∧ byte.C w A n xs := by
  obtain ⟨A, c, h1, h2, h3⟩ := Kd.R_reads h
  exact ⟨A, _, c, h1, h2, h3⟩

/-- A store into a row of the call's own. -/
theorem Own.store {w : World} {base : Nat} {v : Value} {xs : List UInt8} (h : Own w base v xs) (i : Nat) (hi : i < xs.length) (c : UInt8) :
    ∃ g n cap, v = .slice (some ⟨g, 0, none⟩) n cap ∧ n = xs.length ∧ base ≤ g ∧ w.cell? ⟨g, i, none⟩ = some (.int .u8 ((xs.getD i 0).toNat : Int)) ∧ w.frozen? ⟨g, i, none⟩ = false ∧
      Own (w.setCell ⟨g, i, none⟩ (.int .u8 (c.toNat : Int))) base v (xs.set i c) := by
  obtain ⟨A, cap, rfl, hc, hr⟩ := Kd.R_reads h
  have hpos : 0 < xs.length := by omega
  obtain ⟨h0, inner, hown, hrep⟩ := h
  obtain ⟨g, cap', he, hb, _⟩ := hown.form hpos
  injection he with he1 _ he2
  subst he1 he2
  have hcell := byte_at hr i hi
  obtain ⟨ad, hA, hcell⟩ := hcell
  injection hA with hA
  subst hA
  rw [add_plain] at hcell
  refine ⟨g, xs.length, cap, rfl, rfl, hb, hcell, ?_, ?_⟩
  · exact hown.frozenAt i
  · exact Kd.R_putn ⟨h0, inner, hown, hrep⟩ (i : Int) c

section
variable {ops : Array Oper} {rest : List Oper} {o : Oper} {a : Act} {Q : Exit → Act → World → Prop}
/-- append(v, ys...) -/
theorem app_row {w0 W : World} (base : Nat) (s x : Operand) (hgd : o.guard = none) (ho : o.op = .call { callee := .builtin .append, args := #[s, x], argTypes := #[39, 39] })
    (v : Value) (xs ys : List UInt8) (A : Option Addr) (m c : Nat) (hs : a.eval s = v) (hx : a.eval x = .slice A m c)
    (HO : Own W base v xs) (HR : byte.C W A m ys) (HB : Below base w0 W) (hbase : base ≤ W.heap.size) (hl : xs.length + m ≤ 140737488355328)
    (h : ∀ v1 w1, Own w1 base v1 (xs ++ ys) → Below base w0 w1 → W.grownBy w1 v.ownBlock → wpList Try.prog ops Q rest (a.put o.dst v1) w1) : wpList Try.prog ops Q (o :: rest) a W :=
  Kd.R_append_row (w0 := w0) _ (0 : UInt8) base hgd s x 39 5 (.int .u8 0) 1 ho Try.underlying39 info_u8 rfl (by decide) v xs ys A m c anyB hs hx (fun _ _ => trivial) HO HR HB hbase (by omega)
    (fun v1 w1 h1 h2 h3 _ => h v1 w1 h1 h2 h3)
end

/-! Lists that are cut; lists of what came in that the call gathers. -/
theorem C_take {α : Type} {d : Kd α} {w : World} {A : Option Addr} {n : Nat} {xs : List α} (h : d.C w A n xs) (m : Nat) (hm : m ≤ n) : d.C w A m (xs.take m) := by
  obtain ⟨hl, hmx, hc⟩ := h
  refine ⟨by rw [List.length_take]; omega, by omega, fun hp => ?_⟩
  obtain ⟨ad, e, hc⟩ := hc (by omega)
  refine ⟨ad, e, fun j p hj => hc j p ?_⟩
  rw [List.getElem?_take] at hj
  split at hj
  · exact hj
  · cases hj
theorem C_drop {α : Type} {d : Kd α} {w : World} {A : Option Addr} {n c : Nat} {xs : List α} (h : d.C w A n xs) (hc : n ≤ c) (m : Nat) (hm : m ≤ n) :
    d.C w (if c = m then A else A.map (·.add (m * d.sz))) (n - m) (xs.drop m) := by
  obtain ⟨hl, hmx, hcc⟩ := h
  refine ⟨by rw [List.length_drop]; omega, by omega, fun hp => ?_⟩
  obtain ⟨ad, e, hcd⟩ := hcc (by omega)
  subst e
  rw [if_neg (by omega)]
  refine ⟨ad.add (m * d.sz), rfl, fun j p hj => ?_⟩
  rw [List.getElem?_drop] at hj
  obtain ⟨cs, h1, h2, h3⟩ := hcd (m + j) p hj
  refine ⟨cs, h1, h2, fun i u hu => ?_⟩
  rw [Go.Deep.add_add, ← Nat.add_assoc, ← Nat.add_mul]
  exact h3 i u hu
section
variable {P : Program} {ops : Array Oper} {rest : List Oper} {o : Oper} {a : Act} {Q : Exit → Act → World → Prop} {α : Type}
/-- append(v, ys...) where ys came in (or was made before w0). -/
theorem app_came (d : Kd α) (hd : Kd.Heap d) {w0 W : World} (s x : Operand) (t e : TypeId) (z : Value) (bytes : Nat) (hgd : o.guard = none)
    (ho : o.op = .call { callee := .builtin .append, args := #[s, x], argTypes := #[t, t] })
    (ht : P.underlying t = some (.slice e)) (hinfo : (P.info? e).map (fun i => (i.zero, i.size, i.bytes)) = some (some z, d.sz, bytes)) (hz : z.cells.size = d.sz) (hs0 : 0 < d.sz) (hb0 : 0 < bytes)
    (v : Value) (xs ys : List α) (A : Option Addr) (m c : Nat) (hs : a.eval s = v) (hx : a.eval x = .slice A m c)
    (HO : Kd.N d e W w0.heap.size anyB v xs) (HC : d.C w0 A m ys) (HB : Below w0.heap.size w0 W) (hl : (xs.length + m) * bytes ≤ 140737488355328)
    (h : ∀ v1 w1, Kd.N d e w1 w0.heap.size anyB v1 (xs ++ ys) → Below w0.heap.size w0 w1 → W.grownBy w1 v.ownBlock → wpList P ops Q rest (a.put o.dst v1) w1) : wpList P ops Q (o :: rest) a W :=
  Kd.N_append_rows d (w0 := w0) w0.heap.size hgd s x t e z bytes ho ht hinfo hz hs0 hb0 v xs ys A m c anyB (fun k => k < w0.heap.size) hs hx HO
    (Kd.F_step (Kd.C_F hd HC) (fun k hk _ => HB.block k hk)) (fun k hk => ⟨trivial, fun e => by have := Kd.N_base HO k e.symm; omega⟩) (fun _ _ => trivial) HB HB.size hl (fun v1 w1 h1 h2 h3 _ => h v1 w1 h1 h2 h3)
/-- append(v, x) where x's cells lead to what came in. -/
theorem app_came1 (d : Kd α) (hd : Kd.Heap d) {w0 W : World} (s x : Operand) (t e : TypeId) (z : Value) (bytes : Nat) (hgd : o.guard = none)
    (ho : o.op = .call { callee := .builtin .append, args := #[s, x], argTypes := #[t, t] })
    (ht : P.underlying t = some (.slice e)) (hinfo : (P.info? e).map (fun i => (i.zero, i.size, i.bytes)) = some (some z, d.sz, bytes)) (hz : z.cells.size = d.sz) (hs0 : 0 < d.sz) (hb0 : 0 < bytes)
    (v : Value) (xs : List α) (p : α) (cs : List Value) (hs : a.eval s = v) (hx : a.eval x = .slice (some ⟨W.heap.size, 0, none⟩) 1 1)
    (HO : Kd.N d e W w0.heap.size anyB v xs) (HC : d.K w0 p cs) (HB : Below w0.heap.size w0 W) (hl : (xs.length + 1) * bytes ≤ 140737488355328)
    (h : ∀ v1 w1, Kd.N d e w1 w0.heap.size anyB v1 (xs ++ [p]) → Below w0.heap.size w0 w1 → W.grownBy w1 v.ownBlock → wpList P ops Q rest (a.put o.dst v1) w1) : wpList P ops Q (o :: rest) a (W.alloc (.cells cs.toArray e)) :=
  Kd.N_append d (w0 := w0) w0.heap.size hgd s x t e z bytes ho ht hinfo hz hs0 hb0 v xs p cs anyB (fun k => k < w0.heap.size) hs hx
    (fun W' hW => hd.K (fun k hk => (hW k hk (Nat.lt_of_lt_of_le hk HB.size)).trans (HB.block k hk)) HC) (fun k hk => ⟨trivial, fun e => by have := Kd.N_base HO k e.symm; omega⟩) (fun _ _ => trivial) HO HB HB.size hl (fun v1 w1 h1 h2 h3 _ => h v1 w1 h1 h2 h3)
end
theorem heap_nat (k : IntKind) : Kd.Heap (nat k) := ⟨fun _ h => h⟩
theorem heap_num (k : IntKind) : Kd.Heap (num k) := ⟨fun _ h => h⟩
theorem heap_byte : Kd.Heap byte := Kd.heap_scalar
/-- What a row of the call's own reads as, the length a number of its own. -/
theorem N_open {α : Type} {d : Kd α} {e base : Nat} {ok : Nat → Prop} {w : World} {v : Value} {xs : List α} (h : Kd.N d e w base ok v xs) : ∃ A n c, v = .slice A n c ∧ n ≤ c ∧ d.C w A n xs := by
  obtain ⟨A, c, h1, h2, h3⟩ := Kd.N_reads h
  exact ⟨A, _, c, h1, h2, h3⟩
end Go.Proofs.Ytkmeipblgdahoaa.Base

/- Plain facts on the sums of the program: one step of the shift register, four and eight of them, and what tells two sums apart. No program in sight. -/
namespace Go.Proofs.Ytkmeipblgdahoaa.Crc

set_option linter.unusedVariables false
theorem xor_cancel_r {a b c : Nat} (h : a ^^^ c = b ^^^ c) : a = b := by
  have := congrArg (· ^^^ c) h
  simpa [Nat.xor_assoc] using this
theorem xor_cancel_l {a b c : Nat} (h : c ^^^ a = c ^^^ b) : a = b := by
  have := congrArg (c ^^^ ·) h
  simpa [← Nat.xor_assoc] using this

/-- One step. -/
def stp (n : Nat) : Nat := (n / 2) ^^^ (if n % 2 = 1 then 3988292384 else 0)
def half (n : Nat) : Nat := stp (stp (stp (stp n)))
def inv (n : Nat) : Nat := 4294967295 - n
/-- One byte more. -/
def nxt (s b : Nat) : Nat := inv (half (half (inv s ^^^ b)))
def sumFrom (c : Nat) : List Nat → Nat := fun l => l.foldl nxt c
def sum (l : List Nat) : Nat := sumFrom 0 l
def nat (l : List UInt8) : List Nat := l.map (·.toNat)
theorem nat_lt (l : List UInt8) : ∀ x ∈ nat l, x < 256 := by
  intro x hx
  obtain ⟨b, _, rfl⟩ := List.mem_map.1 hx
  exact b.toNat_lt
theorem nat_cons (b : UInt8) (l : List UInt8) : nat (b :: l) = b.toNat :: nat l := rfl
theorem nat_append (a b : List UInt8) : nat (a ++ b) = nat a ++ nat b := List.map_append

theorem stp_lt (n : Nat) (h : n < 4294967296) : stp n < 4294967296 := by
  unfold stp
  exact Nat.xor_lt_two_pow (n := 32) (by omega) (by split <;> omega)
theorem half_lt (n : Nat) (h : n < 4294967296) : half n < 4294967296 :=
  stp_lt _ (stp_lt _ (stp_lt _ (stp_lt _ h)))
theorem inv_lt (n : Nat) : inv n < 4294967296 := by unfold inv; omega
theorem nxt_lt (s b : Nat) : nxt s b < 4294967296 := inv_lt _
theorem sumFrom_lt (l : List Nat) : ∀ c, c < 4294967296 → sumFrom c l < 4294967296 := by
  induction l with
  | nil => intro c h; exact h
  | cons x l ih => intro c _; exact ih _ (nxt_lt c x)

theorem xor_byte_lt (s b : Nat) (hb : b < 256) : inv s ^^^ b < 4294967296 :=
  Nat.xor_lt_two_pow (n := 32) (inv_lt s) (by omega)

/-- The code's own step. -/
theorem step_code (c : Nat) (h : c < 4294967296) :
    bits .xor .u32 ((c : Int) / 2) (bits .and .u32 3988292384 ((-(bits .and .u32 (c : Int) 1)) % 4294967296)) = (stp c : Int) := by
  have e1 : bits .and .u32 (c : Int) 1 = ((c % 2 : Nat) : Int) := by
    have := u32_and_nat c 1 h (by omega)
    rw [show ((1 : Nat) : Int) = 1 from rfl] at this
    rw [this, Nat.and_one_is_mod]
  rw [e1]
  unfold stp
  rcases Nat.mod_two_eq_zero_or_one c with h0 | h0
  · rw [h0]
    have e2 : ((-((0 : Nat) : Int)) % 4294967296) = ((0 : Nat) : Int) := by omega
    have e3 := u32_and_nat 3988292384 0 (by omega) (by omega)
    rw [e2, show (3988292384 : Int) = ((3988292384 : Nat) : Int) from rfl, e3]
    have e4 := u32_xor_nat (c / 2) (3988292384 &&& 0) (by omega) (by simp)
    rw [show ((c : Int) / 2) = ((c / 2 : Nat) : Int) by omega, e4]
    simp
  · rw [h0]
    have e2 : ((-((1 : Nat) : Int)) % 4294967296) = ((4294967295 : Nat) : Int) := by omega
    have e3 := u32_and_nat 3988292384 4294967295 (by omega) (by omega)
    rw [e2, show (3988292384 : Int) = ((3988292384 : Nat) : Int) from rfl, e3]
    have e5 : 3988292384 &&& 4294967295 = 3988292384 := by decide
    rw [e5]
    have e4 := u32_xor_nat (c / 2) 3988292384 (by omega) (by omega)
    rw [show ((c : Int) / 2) = ((c / 2 : Nat) : Int) by omega, e4]
    simp

theorem stp_odd (c : Nat) (h0 : c % 2 = 1) : (c / 2) ^^^ 3988292384 = stp c := by unfold stp; rw [if_pos h0]
theorem stp_even (c : Nat) (h0 : ¬ c % 2 = 1) : c / 2 = stp c := by unfold stp; rw [if_neg h0]; simp

/-- The step tells its arguments apart: the top bit says whether the old number was odd. -/
theorem stp_inj (a b : Nat) (ha : a < 4294967296) (hb : b < 4294967296) (h : stp a = stp b) : a = b := by
  have top : ∀ c, c < 4294967296 → (stp c).testBit 31 = decide (c % 2 = 1) := by
    intro c hc
    unfold stp
    rw [Nat.testBit_xor]
    have h1 : (c / 2).testBit 31 = false := Nat.testBit_lt_two_pow (by omega)
    rw [h1]
    rcases Nat.mod_two_eq_zero_or_one c with h0 | h0 <;> rw [h0] <;> decide
  have hp : decide (a % 2 = 1) = decide (b % 2 = 1) := by rw [← top a ha, ← top b hb, h]
  have hq : a % 2 = b % 2 := by
    have := decide_eq_decide.1 hp
    omega
  have hd : a / 2 = b / 2 := by
    unfold stp at h
    rw [hq] at h
    exact xor_cancel_r h
  omega
theorem half_inj (a b : Nat) (ha : a < 4294967296) (hb : b < 4294967296) (h : half a = half b) : a = b := by
  unfold half at h
  exact stp_inj _ _ ha hb (stp_inj _ _ (stp_lt _ ha) (stp_lt _ hb) (stp_inj _ _ (stp_lt _ (stp_lt _ ha)) (stp_lt _ (stp_lt _ hb))
    (stp_inj _ _ (stp_lt _ (stp_lt _ (stp_lt _ ha))) (stp_lt _ (stp_lt _ (stp_lt _ hb))) h)))
theorem inv_inj (a b : Nat) (ha : a < 4294967296) (hb : b < 4294967296) (h : inv a = inv b) : a = b := by unfold inv at h; omega
theorem nxt_mid (s t x y : Nat) (hs : s < 4294967296) (ht : t < 4294967296) (hx : x < 256) (hy : y < 256) (h : nxt s x = nxt t y) : inv s ^^^ x = inv t ^^^ y := by
  unfold nxt at h
  have a1 := xor_byte_lt s x hx
  have a2 := xor_byte_lt t y hy
  exact half_inj _ _ a1 a2 (half_inj _ _ (half_lt _ a1) (half_lt _ a2) (inv_inj _ _ (half_lt _ (half_lt _ a1)) (half_lt _ (half_lt _ a2)) h))
theorem nxt_byte (s x y : Nat) (hs : s < 4294967296) (hx : x < 256) (hy : y < 256) (h : nxt s x = nxt s y) : x = y :=
  xor_cancel_l (nxt_mid s s x y hs hs hx hy h)
theorem nxt_sum (s t x : Nat) (hs : s < 4294967296) (ht : t < 4294967296) (hx : x < 256) (h : nxt s x = nxt t x) : s = t :=
  inv_inj _ _ hs ht (xor_cancel_r (nxt_mid s t x x hs ht hx hx h))

theorem sumFrom_append (c : Nat) (a b : List Nat) : sumFrom c (a ++ b) = sumFrom (sumFrom c a) b := List.foldl_append
theorem sumFrom_inj (l : List Nat) (hl : ∀ x ∈ l, x < 256) : ∀ s t, s < 4294967296 → t < 4294967296 → sumFrom s l = sumFrom t l → s = t := by
  induction l with
  | nil => intro s t _ _ h; exact h
  | cons x l ih =>
    intro s t hs ht h
    exact nxt_sum s t x hs ht (hl x (by simp)) (ih (fun y hy => hl y (by simp [hy])) _ _ (nxt_lt s x) (nxt_lt t x) h)

/-- Of bytes in which just one is another one the sum is another one. -/
theorem sum_one (l r : List Nat) (x y : Nat) (hr : ∀ z ∈ r, z < 256) (hx : x < 256) (hy : y < 256) (h : sum (l ++ x :: r) = sum (l ++ y :: r)) : x = y := by
  unfold sum at h
  rw [sumFrom_append, sumFrom_append] at h
  have h1 : sumFrom (nxt (sumFrom 0 l) x) r = sumFrom (nxt (sumFrom 0 l) y) r := h
  exact nxt_byte _ x y (sumFrom_lt l 0 (by omega)) hx hy (sumFrom_inj r hr _ _ (nxt_lt _ x) (nxt_lt _ y) h1)

theorem known_sum : sum [49, 50, 51, 52, 53, 54, 55, 56, 57] = 3421780262 := by decide +kernel

end Go.Proofs.Ytkmeipblgdahoaa.Crc

/- Plain facts on records: numbers as bytes; what a block with a record is; which blocks are records. No program in sight. -/
namespace Go.Proofs.Ytkmeipblgdahoaa.Rc
open Go.Proofs.Ytkmeipblgdahoaa.Crc (sum nat)
set_option linter.unusedVariables false

/-- A width that there is. -/
def wd (n : Int) : Nat := if n = 1 ∨ n = 2 ∨ n = 4 then n.toNat else 8
theorem wd_pos (n : Int) : 0 < wd n ∧ wd n ≤ 8 := by unfold wd; split <;> omega
/-- A number as so many bytes, the highest first. -/
def be : Nat → Nat → List UInt8
  | 0, _ => []
  | k + 1, v => UInt8.ofNat (v / 256 ^ k) :: be k v
/-- Bytes as a number, from one on. -/
def unF (n : Nat) (l : List UInt8) : Nat := l.foldl (fun n x => n * 256 + x.toNat) n
def un (l : List UInt8) : Nat := unF 0 l
theorem be_len (k v : Nat) : (be k v).length = k := by
  induction k with
  | zero => rfl
  | succ k ih => simp [be, ih]
theorem unF_append (n : Nat) (a b : List UInt8) : unF n (a ++ b) = unF (unF n a) b := List.foldl_append
theorem unF_lt : ∀ (l : List UInt8) (n m : Nat), n < m → unF n l < m * 256 ^ l.length
  | [], n, m, h => by simpa [unF] using h
  | x :: l, n, m, h => by
    have hx := x.toNat_lt
    have := unF_lt l (n * 256 + x.toNat) (m * 256) (by omega)
    rw [List.length_cons, Nat.pow_succ, Nat.mul_comm (256 ^ l.length), ← Nat.mul_assoc]
    exact this
theorem un_lt (l : List UInt8) : un l < 256 ^ l.length := by
  have := unF_lt l 0 1 (by omega)
  rwa [Nat.one_mul] at this
theorem unF_be : ∀ (k n v : Nat), unF n (be k v) = n * 256 ^ k + v % 256 ^ k
  | 0, n, v => by simp [be, unF, Nat.mod_one]
  | k + 1, n, v => by
    show unF (n * 256 + (UInt8.ofNat (v / 256 ^ k)).toNat) (be k v) = _
    have e1 : (UInt8.ofNat (v / 256 ^ k)).toNat = v / 256 ^ k % 256 := UInt8.toNat_ofNat'
    have e2 : v % 256 ^ (k + 1) = v % 256 ^ k + 256 ^ k * (v / 256 ^ k % 256) := by rw [Nat.pow_succ]; exact Nat.mod_mul
    have e3 : (n * 256 + v / 256 ^ k % 256) * 256 ^ k = n * 256 ^ (k + 1) + 256 ^ k * (v / 256 ^ k % 256) := by
      rw [Nat.add_mul, Nat.mul_assoc, Nat.pow_succ, Nat.mul_comm 256, Nat.mul_comm (v / 256 ^ k % 256)]
    rw [unF_be k, e1, e2, e3]
    omega
theorem un_be (k v : Nat) (h : v < 256 ^ k) : un (be k v) = v := by
  unfold un
  rw [unF_be, Nat.mod_eq_of_lt h]
  omega
theorem be_mod (k v w : Nat) (h : v % 256 ^ k = w % 256 ^ k) : be k v = be k w := by
  induction k with
  | zero => rfl
  | succ k ih =>
    have hp : 0 < 256 ^ k := Nat.pos_of_ne_zero (by simp)
    have e : ∀ x : Nat, x % 256 ^ k = x % 256 ^ (k + 1) % 256 ^ k := fun x => by
      rw [Nat.pow_succ, Nat.mod_mul_right_mod]
    have e2 : ∀ x : Nat, x / 256 ^ k % 256 = x % 256 ^ (k + 1) / 256 ^ k := fun x => by
      rw [Nat.pow_succ, Nat.mod_mul_right_div_self]
    show UInt8.ofNat _ :: _ = UInt8.ofNat _ :: _
    rw [ih (by rw [e v, e w, h])]
    congr 1
    apply UInt8.toNat_inj.1
    rw [UInt8.toNat_ofNat', UInt8.toNat_ofNat', show (2 : Nat) ^ 8 = 256 from rfl, e2, e2, h]
theorem be_unF : ∀ (l : List UInt8) (n : Nat), be l.length (unF n l) = l
  | [], _ => rfl
  | x :: l, n => by
    show UInt8.ofNat (unF (n * 256 + x.toNat) l / 256 ^ l.length) :: be l.length (unF (n * 256 + x.toNat) l) = _
    rw [be_unF l]
    congr 1
    have h : unF (n * 256 + x.toNat) l / 256 ^ l.length = n * 256 + x.toNat := by
      have h1 := unF_be l.length (n * 256 + x.toNat) (unF 0 l)
      have h2 : 0 < 256 ^ l.length := Nat.pos_of_ne_zero (by simp)
      rw [be_unF l 0] at h1
      rw [h1, Nat.mul_comm, Nat.mul_add_div h2, Nat.div_eq_of_lt (Nat.mod_lt _ h2), Nat.add_zero]
    rw [h]
    apply UInt8.toNat_inj.1
    rw [UInt8.toNat_ofNat', show (2 : Nat) ^ 8 = 256 from rfl]
    have := x.toNat_lt
    omega
theorem be_un (k : Nat) (l : List UInt8) (h : l.length = k) : be k (un l) = l := by subst h; exact be_unF l 0
theorem be_inj (k v w : Nat) (hv : v < 256 ^ k) (hw : w < 256 ^ k) (h : be k v = be k w) : v = w := by
  rw [← un_be k v hv, h, un_be k w hw]

/-- Numbers as bytes, each of its width. -/
def pack : List Int → List Nat → List UInt8
  | w :: ws, v :: vs => be (wd w) v ++ pack ws vs
  | _, _ => []
/-- Numbers at the front, and what stands behind. -/
def take (b : List UInt8) : List Int → Option (List Nat × List UInt8)
  | [] => some ([], b)
  | w :: ws => if b.length < wd w then none else (take (b.drop (wd w)) ws).map fun p => (un (b.take (wd w)) :: p.1, p.2)

/-! Records. -/
/-- tenant, block, kind, sum, end -/
abbrev Itm := Nat × Nat × Nat × Nat × Nat
def ItmOk (x : Itm) : Prop := x.1 < 4294967296 ∧ x.2.1 < 18446744073709551616 ∧ x.2.2.1 < 256 ∧ x.2.2.2.1 < 4294967296 ∧ x.2.2.2.2 < 65536
def may (x : Itm) : Prop := (x.2.2.2.2 ≤ 4096 ∧ x.2.2.1 = 1) ∨ (x.2.2.1 = 2 ∧ x.2.2.2.1 = 0 ∧ x.2.2.2.2 = 0)
instance (x : Itm) : Decidable (may x) := by unfold may; infer_instance
def itB (x : Itm) : List UInt8 := be 4 x.1 ++ (be 8 x.2.1 ++ (be 1 x.2.2.1 ++ (be 4 x.2.2.2.1 ++ be 2 x.2.2.2.2)))
theorem itB_len (x : Itm) : (itB x).length = 19 := by simp [itB, be_len]
def itsB (l : List Itm) : List UInt8 := (l.map itB).flatten
theorem itsB_len (l : List Itm) : (itsB l).length = 19 * l.length := by
  unfold itsB
  induction l with
  | nil => rfl
  | cons x l ih => rw [List.map_cons, List.flatten_cons, List.length_append, ih, itB_len, List.length_cons]; omega
theorem itsB_snoc (l : List Itm) (x : Itm) : itsB (l ++ [x]) = itsB l ++ itB x := by simp [itsB]
/-- A record's room in a block. -/
def rmN (b : Nat) : Nat := if b = 64 ∨ b = 128 ∨ b = 256 ∨ b = 512 ∨ b = 1024 ∨ b = 2048 ∨ b = 4096 then (b - 19) / 19 else 0
theorem rmN_le (b : Nat) (h : 0 < rmN b) : 64 ≤ b ∧ b ≤ 4096 ∧ 19 * rmN b + 19 ≤ b ∧ rmN b ≤ 214 := by
  unfold rmN at h ⊢
  split at h
  · rename_i hb
    rw [if_pos hb]
    omega
  · omega
abbrev magic : Nat := 1129074503
/-- Noughts in the sum's place. -/
def zr (b : List UInt8) : List UInt8 := b.take 4 ++ ([0, 0, 0, 0] ++ b.drop 8)
def sumOf (b : List UInt8) : Nat := sum (nat (zr b))
/-- A block with noughts in the sum's place. -/
def pre (q : Nat) (l : List Itm) (n : Nat) : List UInt8 := be 4 magic ++ (be 4 0 ++ (be 8 q ++ (be 2 l.length ++ (itsB l ++ (List.replicate (n - 19 - 19 * l.length) 0 ++ [0xe7])))))
/-- With a sum in its place. -/
def put4 (b : List UInt8) (s : Nat) : List UInt8 := b.take 4 ++ (be 4 s ++ b.drop 8)
def enc (q : Nat) (l : List Itm) (n : Nat) : List UInt8 := put4 (pre q l n) (sum (nat (pre q l n)))
def RecOk (q : Nat) (l : List Itm) (n : Nat) : Prop := 0 < l.length ∧ l.length ≤ rmN n ∧ ∀ x ∈ l, may x
instance (q : Nat) (l : List Itm) (n : Nat) : Decidable (RecOk q l n) := by unfold RecOk; infer_instance
theorem sum_lt (b : List Nat) : sum b < 4294967296 := by
  unfold Crc.sum
  exact Crc.sumFrom_lt _ _ (by omega)
theorem pre_len (q : Nat) (l : List Itm) (n : Nat) (h : 19 * l.length + 19 ≤ n) : (pre q l n).length = n := by
  simp only [pre, List.length_append, be_len, itsB_len, List.length_replicate, List.length_cons, List.length_nil]
  omega
theorem put4_len (b : List UInt8) (s : Nat) (h : 8 ≤ b.length) : (put4 b s).length = b.length := by
  simp only [put4, List.length_append, be_len, List.length_take, List.length_drop]
  omega
theorem enc_len (q : Nat) (l : List Itm) (n : Nat) (h : 19 * l.length + 19 ≤ n) : (enc q l n).length = n := by
  unfold enc
  rw [put4_len _ _ (by rw [pre_len _ _ _ h]; omega), pre_len _ _ _ h]

/-! Reading. -/
def itAt (r : List UInt8) : Itm := (un (r.take 4), un ((r.drop 4).take 8), un ((r.drop 12).take 1), un ((r.drop 13).take 4), un ((r.drop 17).take 2))
def itsOf : Nat → List UInt8 → List Itm
  | 0, _ => []
  | k + 1, r => itAt r :: itsOf k (r.drop 19)
theorem itsOf_len (k : Nat) : ∀ r, (itsOf k r).length = k := by
  induction k with
  | zero => intro r; rfl
  | succ k ih => intro r; simp [itsOf, ih]
theorem take_app {α : Type} (a b : List α) (k : Nat) (h : a.length = k) : (a ++ b).take k = a := by
  subst h; exact List.take_left
theorem drop_app {α : Type} (a b : List α) (k : Nat) (h : a.length = k) : (a ++ b).drop k = b := by
  subst h; exact List.drop_left
theorem itAt_itB (x : Itm) (h : ItmOk x) (r : List UInt8) : itAt (itB x ++ r) = x := by
  obtain ⟨a, b, c, d, e⟩ := x
  obtain ⟨h1, h2, h3, h4, h5⟩ := h
  dsimp only at h1 h2 h3 h4 h5
  have q1 : itB (a, b, c, d, e) ++ r = be 4 a ++ (be 8 b ++ (be 1 c ++ (be 4 d ++ (be 2 e ++ r)))) := by simp [itB]
  have q2 : (itB (a, b, c, d, e) ++ r).drop 4 = be 8 b ++ (be 1 c ++ (be 4 d ++ (be 2 e ++ r))) := by rw [q1, drop_app _ _ _ (be_len _ _)]
  have q3 : (itB (a, b, c, d, e) ++ r).drop 12 = be 1 c ++ (be 4 d ++ (be 2 e ++ r)) := by
    rw [show (12 : Nat) = 4 + 8 from rfl, ← List.drop_drop, q2, drop_app _ _ _ (be_len _ _)]
  have q4 : (itB (a, b, c, d, e) ++ r).drop 13 = be 4 d ++ (be 2 e ++ r) := by
    rw [show (13 : Nat) = 12 + 1 from rfl, ← List.drop_drop, q3, drop_app _ _ _ (be_len _ _)]
  have q5 : (itB (a, b, c, d, e) ++ r).drop 17 = be 2 e ++ r := by
    rw [show (17 : Nat) = 13 + 4 from rfl, ← List.drop_drop, q4, drop_app _ _ _ (be_len _ _)]
  unfold itAt
  rw [q2, q3, q4, q5, q1, take_app _ _ _ (be_len _ _), take_app _ _ _ (be_len _ _), take_app _ _ _ (be_len _ _), take_app _ _ _ (be_len _ _), take_app _ _ _ (be_len _ _)]
  rw [un_be _ _ (by omega), un_be _ _ (by omega), un_be _ _ (by omega), un_be _ _ (by omega), un_be _ _ (by omega)]
theorem itB_itAt (r : List UInt8) (h : 19 ≤ r.length) : itB (itAt r) ++ r.drop 19 = r := by
  unfold itB itAt
  dsimp only
  rw [be_un _ _ (by rw [List.length_take]; omega), be_un _ _ (by rw [List.length_take, List.length_drop]; omega), be_un _ _ (by rw [List.length_take, List.length_drop]; omega),
    be_un _ _ (by rw [List.length_take, List.length_drop]; omega), be_un _ _ (by rw [List.length_take, List.length_drop]; omega)]
  have e1 : (r.drop 17).take 2 ++ r.drop 19 = r.drop 17 := by rw [show (19 : Nat) = 17 + 2 from rfl, ← List.drop_drop, List.take_append_drop]
  have e2 : (r.drop 13).take 4 ++ r.drop 17 = r.drop 13 := by rw [show (17 : Nat) = 13 + 4 from rfl, ← List.drop_drop, List.take_append_drop]
  have e3 : (r.drop 12).take 1 ++ r.drop 13 = r.drop 12 := by rw [show (13 : Nat) = 12 + 1 from rfl, ← List.drop_drop, List.take_append_drop]
  have e4 : (r.drop 4).take 8 ++ r.drop 12 = r.drop 4 := by rw [show (12 : Nat) = 4 + 8 from rfl, ← List.drop_drop, List.take_append_drop]
  simp only [List.append_assoc]
  rw [e1, e2, e3, e4, List.take_append_drop]
theorem itAt_ok (r : List UInt8) : ItmOk (itAt r) := by
  have h : ∀ (l : List UInt8) (k : Nat), un (l.take k) < 256 ^ k := fun l k => by
    refine Nat.lt_of_lt_of_le (un_lt _) (Nat.pow_le_pow_right (by omega) ?_)
    rw [List.length_take]; omega
  exact ⟨h _ 4, h _ 8, h _ 1, h _ 4, h _ 2⟩
theorem itsOf_ok (k : Nat) : ∀ r, ∀ x ∈ itsOf k r, ItmOk x := by
  induction k with
  | zero => intro r x hx; simp [itsOf] at hx
  | succ k ih =>
    intro r x hx
    rcases List.mem_cons.1 hx with rfl | hx
    · exact itAt_ok r
    · exact ih _ x hx
theorem itsOf_itsB (l : List Itm) (h : ∀ x ∈ l, ItmOk x) : ∀ r, itsOf l.length (itsB l ++ r) = l := by
  induction l with
  | nil => intro r; rfl
  | cons x l ih =>
    intro r
    have e : itsB (x :: l) ++ r = itB x ++ (itsB l ++ r) := by simp [itsB]
    rw [e]
    show itAt _ :: itsOf l.length ((itB x ++ (itsB l ++ r)).drop 19) = _
    rw [itAt_itB x (h x (by simp)), drop_app _ _ _ (itB_len x), ih (fun y hy => h y (by simp [hy]))]
theorem itsB_itsOf (k : Nat) : ∀ r : List UInt8, 19 * k ≤ r.length → itsB (itsOf k r) ++ r.drop (19 * k) = r := by
  induction k with
  | zero => intro r _; simp [itsOf, itsB]
  | succ k ih =>
    intro r h
    have e : itsB (itsOf (k + 1) r) = itB (itAt r) ++ itsB (itsOf k (r.drop 19)) := by simp [itsOf, itsB]
    rw [e, List.append_assoc, show 19 * (k + 1) = 19 + 19 * k from by omega, ← List.drop_drop, ih _ (by rw [List.length_drop]; omega), itB_itAt r (by omega)]
theorem itsOf_snoc (k : Nat) : ∀ r : List UInt8, itsOf (k + 1) r = itsOf k r ++ [itAt (r.drop (19 * k))] := by
  induction k with
  | zero => intro r; simp [itsOf]
  | succ k ih =>
    intro r
    show itAt r :: itsOf (k + 1) (r.drop 19) = (itAt r :: itsOf k (r.drop 19)) ++ _
    rw [ih, List.cons_append, List.drop_drop, show 19 + 19 * k = 19 * (k + 1) from by omega]

def mgN (b : List UInt8) : Nat := un (b.take 4)
def smN (b : List UInt8) : Nat := un ((b.drop 4).take 4)
def sqN (b : List UInt8) : Nat := un ((b.drop 8).take 8)
def ctN (b : List UInt8) : Nat := un ((b.drop 16).take 2)
def itN (b : List UInt8) : List Itm := itsOf (ctN b) (b.drop 18)
/-- What the program looks at. -/
def RecIs (b : List UInt8) : Prop := 0 < rmN b.length ∧ mgN b = magic ∧ smN b = sumOf b ∧ 0 < ctN b ∧ ctN b ≤ rmN b.length ∧ (∀ x ∈ itN b, may x) ∧
  b.drop (18 + 19 * ctN b) = List.replicate (b.length - 19 - 19 * ctN b) 0 ++ [0xe7]
instance (b : List UInt8) : Decidable (RecIs b) := by unfold RecIs; infer_instance
theorem enc_eq (q : Nat) (l : List Itm) (n : Nat) : enc q l n = be 4 magic ++ (be 4 (sum (nat (pre q l n))) ++ (be 8 q ++ (be 2 l.length ++ (itsB l ++ (List.replicate (n - 19 - 19 * l.length) 0 ++ [0xe7]))))) := by
  have e1 : (pre q l n).take 4 = be 4 magic := take_app _ _ _ (be_len _ _)
  have e2 : (pre q l n).drop 8 = be 8 q ++ (be 2 l.length ++ (itsB l ++ (List.replicate (n - 19 - 19 * l.length) 0 ++ [0xe7]))) := by
    unfold pre
    rw [show (8 : Nat) = 4 + 4 from rfl, ← List.drop_drop, drop_app _ _ _ (be_len _ _), drop_app _ _ _ (be_len _ _)]
  unfold enc put4
  rw [e1, e2]
theorem zr_enc (q : Nat) (l : List Itm) (n : Nat) : zr (enc q l n) = pre q l n := by
  unfold zr
  rw [enc_eq]
  rw [take_app _ _ _ (be_len _ _), show (8 : Nat) = 4 + 4 from rfl, ← List.drop_drop, drop_app _ _ _ (be_len _ _), drop_app _ _ _ (be_len _ _)]
  rfl
theorem pow_vals : (256 : Nat) ^ 4 = 4294967296 ∧ (256 : Nat) ^ 8 = 18446744073709551616 ∧ (256 : Nat) ^ 2 = 65536 ∧ (256 : Nat) ^ 1 = 256 := ⟨rfl, rfl, rfl, rfl⟩
/-- What is read of a block that was written. -/
theorem read_enc (q : Nat) (l : List Itm) (n : Nat) (hq : q < 18446744073709551616) (hl : l.length < 65536) (ho : ∀ x ∈ l, ItmOk x) :
    mgN (enc q l n) = magic ∧ smN (enc q l n) = sumOf (enc q l n) ∧ sqN (enc q l n) = q ∧ ctN (enc q l n) = l.length ∧ itN (enc q l n) = l ∧
      (enc q l n).drop (18 + 19 * l.length) = List.replicate (n - 19 - 19 * l.length) 0 ++ [0xe7] := by
  have d4 : (enc q l n).drop 4 = be 4 (sum (nat (pre q l n))) ++ (be 8 q ++ (be 2 l.length ++ (itsB l ++ (List.replicate (n - 19 - 19 * l.length) 0 ++ [0xe7])))) := by
    rw [enc_eq, drop_app _ _ _ (be_len _ _)]
  have d8 : (enc q l n).drop 8 = be 8 q ++ (be 2 l.length ++ (itsB l ++ (List.replicate (n - 19 - 19 * l.length) 0 ++ [0xe7]))) := by
    rw [show (8 : Nat) = 4 + 4 from rfl, ← List.drop_drop, d4, drop_app _ _ _ (be_len _ _)]
  have d16 : (enc q l n).drop 16 = be 2 l.length ++ (itsB l ++ (List.replicate (n - 19 - 19 * l.length) 0 ++ [0xe7])) := by
    rw [show (16 : Nat) = 8 + 8 from rfl, ← List.drop_drop, d8, drop_app _ _ _ (be_len _ _)]
  have d18 : (enc q l n).drop 18 = itsB l ++ (List.replicate (n - 19 - 19 * l.length) 0 ++ [0xe7]) := by
    rw [show (18 : Nat) = 16 + 2 from rfl, ← List.drop_drop, d16, drop_app _ _ _ (be_len _ _)]
  obtain ⟨p4, p8, p2, p1⟩ := pow_vals
  have hct : ctN (enc q l n) = l.length := by unfold ctN; rw [d16, take_app _ _ _ (be_len _ _), un_be _ _ (by omega)]
  refine ⟨?_, ?_, ?_, hct, ?_, ?_⟩
  · unfold mgN; rw [enc_eq, take_app _ _ _ (be_len _ _), un_be _ _ (by rw [p4]; decide)]
  · unfold smN sumOf; rw [zr_enc, d4, take_app _ _ _ (be_len _ _), un_be _ _ (by rw [p4]; exact sum_lt _)]
  · unfold sqN; rw [d8, take_app _ _ _ (be_len _ _), un_be _ _ (by omega)]
  · unfold itN; rw [hct, d18, itsOf_itsB l ho]
  · rw [← List.drop_drop, d18, drop_app _ _ _ (itsB_len l)]
theorem RecIs.of_enc {q : Nat} {l : List Itm} {n : Nat} (hq : q < 18446744073709551616) (ho : ∀ x ∈ l, ItmOk x) (h : RecOk q l n) : RecIs (enc q l n) := by
  obtain ⟨h1, h2, h3⟩ := h
  obtain ⟨b1, b2, b3, b4⟩ := rmN_le n (by omega)
  obtain ⟨r1, r2, r3, r4, r5, r6⟩ := read_enc q l n hq (by omega) ho
  have hn := enc_len q l n (by omega)
  refine ⟨by rw [hn]; omega, r1, r2, by rw [r4]; exact h1, by rw [r4, hn]; exact h2, by rw [r5]; exact h3, by rw [r4, hn]; exact r6⟩
theorem RecIs.enc {b : List UInt8} (h : RecIs b) : RecOk (sqN b) (itN b) b.length ∧ enc (sqN b) (itN b) b.length = b := by
  obtain ⟨h1, h2, h3, h4, h5, h6, h7⟩ := h
  obtain ⟨b1, b2, b3, b4⟩ := rmN_le _ h1
  have hil : (itN b).length = ctN b := itsOf_len _ _
  refine ⟨⟨by rw [hil]; exact h4, by rw [hil]; exact h5, h6⟩, ?_⟩
  have e18 : itsB (itN b) ++ (List.replicate (b.length - 19 - 19 * ctN b) 0 ++ [0xe7]) = b.drop 18 := by
    rw [← h7, ← List.drop_drop]
    exact itsB_itsOf _ _ (by rw [List.length_drop]; omega)
  have e16 : be 2 (ctN b) ++ b.drop 18 = b.drop 16 := by
    unfold ctN
    rw [be_un _ _ (by rw [List.length_take, List.length_drop]; omega), show (18 : Nat) = 16 + 2 from rfl, ← List.drop_drop, List.take_append_drop]
  have e8 : be 8 (sqN b) ++ b.drop 16 = b.drop 8 := by
    unfold sqN
    rw [be_un _ _ (by rw [List.length_take, List.length_drop]; omega), show (16 : Nat) = 8 + 8 from rfl, ← List.drop_drop, List.take_append_drop]
  have e4 : be 4 magic = b.take 4 := by
    rw [← h2]
    exact be_un _ _ (by rw [List.length_take]; omega)
  have hpre : pre (sqN b) (itN b) b.length = zr b := by
    unfold pre zr
    rw [hil, e18, e16, e8, e4]
    rfl
  rw [enc_eq, hpre, hil, e18, e16, e8, e4]
  have hs : be 4 (sum (nat (zr b))) = (b.drop 4).take 4 := by
    have : smN b = sum (nat (zr b)) := h3
    rw [← this]
    exact be_un _ _ (by rw [List.length_take, List.length_drop]; omega)
  rw [hs]
  have : (b.drop 4).take 4 ++ b.drop 8 = b.drop 4 := by rw [show (8 : Nat) = 4 + 4 from rfl, ← List.drop_drop, List.take_append_drop]
  rw [this, List.take_append_drop]
/-- Just these blocks are records. -/
theorem recIs_iff (b : List UInt8) : RecIs b ↔ (ctN b ≤ rmN b.length ∧ RecOk (sqN b) (itN b) b.length ∧ enc (sqN b) (itN b) b.length = b) := by
  constructor
  · intro h
    exact ⟨h.2.2.2.2.1, h.enc⟩
  · rintro ⟨h0, h1, h2⟩
    have := RecIs.of_enc (q := sqN b) (l := itN b) (n := b.length) ?_ (itsOf_ok _ _) h1
    · rw [h2] at this; exact this
    · have h : un ((b.drop 8).take 8) < 256 ^ 8 := Nat.lt_of_lt_of_le (un_lt _) (Nat.pow_le_pow_right (by omega) (by rw [List.length_take]; omega))
      exact h
theorem sqN_lt (b : List UInt8) : sqN b < 18446744073709551616 := by
  have h : un ((b.drop 8).take 8) < 256 ^ 8 := Nat.lt_of_lt_of_le (un_lt _) (Nat.pow_le_pow_right (by omega) (by rw [List.length_take]; omega))
  exact h
/-- Of two blocks of one length that differ at one byte one has a wrong sum. -/
theorem sum_byte {b : List UInt8} (b1 : 64 ≤ b.length) (h3 : smN b = sumOf b) (at_ : Nat) (ha : at_ < b.length) (c : UInt8) (g3 : smN (b.set at_ c) = sumOf (b.set at_ c)) : b.getD at_ 0 = c := by
  by_cases hin : 4 ≤ at_ ∧ at_ < 8
  · -- the sum's place
    have hz : zr (b.set at_ c) = zr b := by
      unfold zr
      rw [List.take_set_of_le (by omega), List.drop_set, if_pos (by omega)]
    have hs : smN (b.set at_ c) = smN b := by rw [g3, h3]; unfold sumOf; rw [hz]
    unfold smN at hs
    have hl1 : ((b.drop 4).take 4).length = 4 := by rw [List.length_take, List.length_drop]; omega
    have hl2 : (((b.set at_ c).drop 4).take 4).length = 4 := by rw [List.length_take, List.length_drop, List.length_set]; omega
    have he : ((b.set at_ c).drop 4).take 4 = (b.drop 4).take 4 := by
      rw [← be_un 4 _ hl1, ← be_un 4 _ hl2, hs]
    have := congrArg (fun l => l[at_ - 4]?) he
    simp only [List.getElem?_take, List.getElem?_drop] at this
    rw [if_pos (by omega), if_pos (by omega), show 4 + (at_ - 4) = at_ from by omega, List.getElem?_set_self ha] at this
    rw [List.getD_eq_getElem?_getD, ← this]
    rfl
  · have hsm : smN (b.set at_ c) = smN b := by
      unfold smN
      congr 1
      apply List.ext_getElem?
      intro i
      simp only [List.getElem?_take, List.getElem?_drop]
      split
      · rw [List.getElem?_set_ne (by omega)]
      · rfl
    have hss : sumOf (b.set at_ c) = sumOf b := by rw [← g3, ← h3, hsm]
    -- noughts in the sum's place: one byte is another
    have key : ∀ (x : UInt8), ∃ L R, zr (b.set at_ x) = L ++ x :: R ∧ ∀ y, zr (b.set at_ y) = L ++ y :: R := by
      intro x
      by_cases hlo : at_ < 4
      · refine ⟨b.take at_, (b.drop (at_ + 1)).take (3 - at_) ++ ([0, 0, 0, 0] ++ b.drop 8), ?_⟩
        have : ∀ y, zr (b.set at_ y) = b.take at_ ++ y :: ((b.drop (at_ + 1)).take (3 - at_) ++ ([0, 0, 0, 0] ++ b.drop 8)) := by
          intro y
          unfold zr
          rw [List.drop_set, if_pos (by omega), List.set_eq_take_append_cons_drop, if_pos ha, List.take_append, List.length_take, Nat.min_eq_left (by omega),
            List.take_take, Nat.min_eq_right (by omega), show 4 - at_ = (3 - at_) + 1 from by omega, List.take_succ_cons]
          simp
        exact ⟨this x, this⟩
      · refine ⟨b.take 4 ++ ([0, 0, 0, 0] ++ (b.drop 8).take (at_ - 8)), b.drop (at_ + 1), ?_⟩
        have : ∀ y, zr (b.set at_ y) = (b.take 4 ++ ([0, 0, 0, 0] ++ (b.drop 8).take (at_ - 8))) ++ y :: b.drop (at_ + 1) := by
          intro y
          unfold zr
          rw [List.take_set_of_le (by omega), List.drop_set, if_neg (by omega), List.set_eq_take_append_cons_drop, if_pos (by rw [List.length_drop]; omega), List.drop_drop, show 8 + (at_ - 8 + 1) = at_ + 1 from by omega]
          simp
        exact ⟨this x, this⟩
    obtain ⟨L, R, hx, hall⟩ := key (b.getD at_ 0)
    have hb : b.set at_ (b.getD at_ 0) = b := by
      rw [List.getD_eq_getElem?_getD, List.getElem?_eq_getElem ha]
      exact List.set_getElem_self ha
    rw [hb] at hx
    have e1 : nat (zr b) = nat L ++ (b.getD at_ 0).toNat :: nat R := by rw [hx, Crc.nat_append, Crc.nat_cons]
    have e2 : nat (zr (b.set at_ c)) = nat L ++ c.toNat :: nat R := by rw [hall c, Crc.nat_append, Crc.nat_cons]
    have := Crc.sum_one (nat L) (nat R) (b.getD at_ 0).toNat c.toNat (Crc.nat_lt R) (b.getD at_ 0).toNat_lt c.toNat_lt (by rw [← e1, ← e2]; exact hss.symm)
    exact UInt8.toNat_inj.1 this
/-- Of two records of one length that differ at one byte one is none. -/
theorem one_byte {b : List UInt8} (h : RecIs b) (at_ : Nat) (ha : at_ < b.length) (c : UInt8) (h2 : RecIs (b.set at_ c)) : b.getD at_ 0 = c :=
  sum_byte (rmN_le _ h.1).1 h.2.2.1 at_ ha c h2.2.2.1
theorem recIs_last {b : List UInt8} (h : RecIs b) : b.getD (b.length - 1) 0 = 0xe7 := by
  obtain ⟨h1, _, _, _, h5, _, h7⟩ := h
  obtain ⟨b1, b2, b3, b4⟩ := rmN_le _ h1
  have := congrArg (fun l => l[b.length - 19 - 19 * ctN b]?) h7
  simp only [List.getElem?_drop] at this
  rw [show 18 + 19 * ctN b + (b.length - 19 - 19 * ctN b) = b.length - 1 from by omega, List.getElem?_append_right (by simp)] at this
  rw [List.getD_eq_getElem?_getD, this]
  simp
theorem recIs_front {b : List UInt8} (h : RecIs b) : b.getD 0 0 = 0x43 ∧ b.getD 1 0 = 0x4c := by
  obtain ⟨h1, h2, _⟩ := h
  obtain ⟨b1, b2, b3, b4⟩ := rmN_le _ h1
  have he : be 4 magic = b.take 4 := by
    rw [← h2]
    exact be_un _ _ (by rw [List.length_take]; omega)
  have e0 := congrArg (fun l => l[0]?) he
  have e1 := congrArg (fun l => l[1]?) he
  simp only [List.getElem?_take] at e0 e1
  rw [if_pos (by omega)] at e0 e1
  rw [List.getD_eq_getElem?_getD, List.getD_eq_getElem?_getD, ← e0, ← e1]
  decide
end Go.Proofs.Ytkmeipblgdahoaa.Rc

/- Numbers as bytes: wire.width, wire.Pack. -/
namespace Go.Proofs.Ytkmeipblgdahoaa.Rc
open Go.RowKit Go.Proofs.YtkmeipblgdahoaaW.PrintWords Go.Proofs.YtkmeipblgdahoaaW.PrintMore Go.Proofs.Ytkmeipblgdahoaa.Base
set_option linter.unusedVariables false
set_option linter.unusedSimpArgs false

theorem width_calls (n : Int) (w : World) :
    Calls Try.prog 85 #[.int .i64 n] w fun e w' => e = .returned (.int .i64 (wd n : Int)) ∧ w = w' := by
  by_cases h1 : n = 1
  · subst h1
    go_enter Try.func85, Try.ntmps85
    go_wp2
    go_ret
    exact ⟨rfl, rfl⟩
  by_cases h2 : n = 2
  · subst h2
    go_enter Try.func85, Try.ntmps85
    go_wp2
    go_ret
    exact ⟨rfl, rfl⟩
  by_cases h4 : n = 4
  · subst h4
    go_enter Try.func85, Try.ntmps85
    go_wp2
    go_ret
    exact ⟨rfl, rfl⟩
  have HW := Aside0.mk (show wd n = 8 from if_neg (by omega))
  have e1 : (n == 1) = false := by rw [beq_eq_false_iff_ne]; exact h1
  have e2 : (n == 2) = false := by rw [beq_eq_false_iff_ne]; exact h2
  have e4 : (n == 4) = false := by rw [beq_eq_false_iff_ne]; exact h4
  clear h1 h2 h4
  go_enter Try.func85, Try.ntmps85
  go_wp2
  go_ret
  exact ⟨by rw [HW.out]; rfl, rfl⟩

theorem num_at {k : IntKind} {w : World} {A : Option Addr} {n : Nat} {xs : List Int} (h : (num k).C w A n xs) (i : Nat) (hi : i < n) :
    ∃ ad, A = some ad ∧ w.cell? (ad.add i) = some (.int k (xs.getD i 0)) ∧ (Lit.int k (xs.getD i 0)).wf = true := by
  obtain ⟨ad, c, e, _, hK, hc⟩ := ReadsRow.get_ h 0 (i : Int) (by omega) (by omega)
  obtain ⟨rfl, hw⟩ := hK
  refine ⟨ad, e, ?_, hw⟩
  have := hc 0 _ rfl
  rwa [Int.toNat_natCast, show i * (num k).sz + 0 = i from by show i * 1 + 0 = i; omega] at this
theorem nat_at {k : IntKind} {w : World} {A : Option Addr} {n : Nat} {xs : List Nat} (h : (nat k).C w A n xs) (i : Nat) (hi : i < n) :
    ∃ ad, A = some ad ∧ w.cell? (ad.add i) = some (.int k ((xs.getD i 0 : Nat) : Int)) ∧ (Lit.int k ((xs.getD i 0 : Nat) : Int)).wf = true := by
  obtain ⟨ad, c, e, _, hK, hc⟩ := ReadsRow.get_ h 0 (i : Int) (by omega) (by omega)
  obtain ⟨rfl, hw⟩ := hK
  refine ⟨ad, e, ?_, hw⟩
  have := hc 0 _ rfl
  rwa [Int.toNat_natCast, show i * (nat k).sz + 0 = i from by show i * 1 + 0 = i; omega] at this
theorem pack_cons (ws : List Int) (vs : List Nat) (i : Nat) (h1 : i < ws.length) (h2 : i < vs.length) : pack (ws.take (i + 1)) (vs.take (i + 1)) = pack (ws.take i) (vs.take i) ++ be (wd (ws.getD i 0)) (vs.getD i 0) := by
  induction i generalizing ws vs with
  | zero =>
    obtain ⟨w, ws, rfl⟩ := List.exists_cons_of_length_pos h1
    obtain ⟨v, vs, rfl⟩ := List.exists_cons_of_length_pos h2
    simp [pack]
  | succ i ih =>
    obtain ⟨w, ws, rfl⟩ := List.exists_cons_of_length_pos (show 0 < ws.length by omega)
    obtain ⟨v, vs, rfl⟩ := List.exists_cons_of_length_pos (show 0 < vs.length by omega)
    have := ih ws vs (by simpa using h1) (by simpa using h2)
    simp only [List.take_succ_cons, pack, this, List.append_assoc]
    rfl
theorem pack_short (ws : List Int) : ∀ (vs : List Nat) (i : Nat), i = min ws.length vs.length → pack (ws.take i) (vs.take i) = pack ws vs := by
  induction ws with
  | nil => intro vs i h; simp [pack]
  | cons w ws ih =>
    intro vs i h
    cases vs with
    | nil => simp [pack]
    | cons v vs =>
      cases i with
      | zero => simp at h
      | succ i => simp only [List.take_succ_cons, pack]; rw [ih vs i (by simp at h; omega)]
theorem pack_len (ws : List Int) : ∀ (vs : List Nat), (pack ws vs).length ≤ 8 * ws.length := by
  induction ws with
  | nil => intro vs; simp [pack]
  | cons w ws ih =>
    intro vs
    cases vs with
    | nil => simp [pack]
    | cons v vs =>
      have := ih vs
      have := (wd_pos w).2
      simp only [pack, List.length_append, be_len, List.length_cons]
      omega
attribute [local go_sem] min2_mn min_two
theorem p256 (r : Nat) : (2 : Nat) ^ (8 * r) = 256 ^ r := by rw [Nat.pow_mul]
theorem shr_byte (y r : Nat) : ((y : Int) / 2 ^ (8 * (r + 1) - 8) % 256) = ((UInt8.ofNat (y / 256 ^ r)).toNat : Int) := by
  have e : (UInt8.ofNat (y / 256 ^ r)).toNat = y / 256 ^ r % 256 := UInt8.toNat_ofNat'
  rw [e, ← p256, show 8 * (r + 1) - 8 = 8 * r from by omega, Int.natCast_emod, Int.natCast_ediv, Int.natCast_pow]
  rfl
theorem byte_lit (W : World) (y r : Nat) : byte.C (W.alloc (.cells #[.int .u8 ((y : Int) / 2 ^ (8 * (r + 1) - 8) % 256)] 5)) (some ⟨W.heap.size, 0, none⟩) 1 [UInt8.ofNat (y / 256 ^ r)] :=
  C_lit rfl (by exact ⟨by show [Value.int .u8 _] = [Value.int .u8 _]; rw [shr_byte], trivial⟩) rfl rfl (by simp)
set_option maxRecDepth 100000 in
set_option maxHeartbeats 2000000 in
theorem pack_calls (A : Option Addr) (n c : Nat) (ws : List Int) (B : Option Addr) (m d : Nat) (vs : List Nat) (w : World) (h : (num .i64).C w A n ws) (g : (nat .u64).C w B m vs) (hn : n ≤ 1000) (hm : m ≤ 1000) :
    Calls Try.prog 69 #[.slice A n c, .slice B m d] w fun e w' => ∃ v, e = .returned v ∧ Base.Own w' w.heap.size v (pack ws vs) ∧ Below w.heap.size w w' := by
  obtain ⟨hl, hmx⟩ := C_len h
  obtain ⟨gl, gmx⟩ := C_len g
  have HL := Aside0.mk hl
  have GL := Aside0.mk gl
  have HC := Aside0.mk h
  have GC := Aside0.mk g
  have HM := Aside0.mk (show mn (n : Int) (m : Int) = ((min n m : Nat) : Int) by unfold mn; split <;> omega)
  obtain ⟨q, hq⟩ : ∃ q, min n m = q := ⟨_, rfl⟩
  have HQ := Aside0.mk hq
  have hqn : q ≤ n := by omega
  have hqm : q ≤ m := by omega
  have HM2 := Aside0.mk (show mn (n : Int) (m : Int) = (q : Int) by rw [HM.out, hq])
  clear h g hl gl HM hq
  have hmn := HM2.out
  go_enter Try.func69, Try.ntmps69
  go_wp2
  clear hmn
  go_loopg [5, 13] q (fun k v5 v13 wr => ∃ (i : Nat) (l : List UInt8), v13 = .int .i64 (i : Int) ∧ i ≤ q ∧ Aside0 (k + i = q) ∧ Aside0 (l = pack (ws.take i) (vs.take i)) ∧ Aside0 (Base.Own wr w.heap.size v5 l) ∧ Aside0 (Below w.heap.size w wr))
  case atStart => exact ⟨0, [], rfl, by omega, ⟨rfl⟩, ⟨by simp [pack]⟩, ⟨Base.Own.nil _ _⟩, ⟨Below.refl _ _⟩⟩
  case round =>
    obtain ⟨i, l, rfl, hi, HK, HP, HO, HB⟩ := hrel
    by_cases hlt : i < q
    · obtain ⟨pa, rfl, e0, hwf⟩ := num_at (Kd.C_below HC.out HB.out) i (by omega)
      obtain ⟨x, hx⟩ : ∃ x, ws.getD i 0 = x := ⟨_, rfl⟩
      rw [hx] at e0 hwf
      have HX := Aside0.mk hx
      have hlt' : (i : Int) < (q : Int) := by omega
      have hd0 : decide ((i : Int) < (q : Int)) = true := decide_eq_true hlt'
      have HWF := Aside0.mk hwf
      have hw8 := wd_pos x
      clear hx hwf
      go_wp2_with fail
      refine (width_calls x _).mono ?_
      rintro e w2 ⟨rfl, rfl⟩
      obtain ⟨k, hk⟩ : ∃ k, wd x = k := ⟨_, rfl⟩
      rw [hk] at hw8 ⊢
      have HKW := Aside0.mk hk
      clear hk
      obtain ⟨pv, rfl, f0, hwv⟩ := nat_at (Kd.C_below GC.out HB.out) i (by omega)
      obtain ⟨y, hy⟩ : ∃ y, vs.getD i 0 = y := ⟨_, rfl⟩
      rw [hy] at f0 hwv
      have HY := Aside0.mk hy
      have HWV := Aside0.mk hwv
      have F0 := Aside0.mk f0
      have HIM := Aside0.mk (show i < m from by omega)
      clear hy hwv f0
      go_wp2
      clear e0
      obtain ⟨wo, rfl⟩ : ∃ wo : World, wo = wr := ⟨_, rfl⟩
      go_loopg [5, 7] k (fun g v5 v7 wr => ∃ (r : Nat) (l1 : List UInt8), v7 = .int .i64 (8 * (r : Int)) ∧ r ≤ k ∧ Aside0 (g = r) ∧ Aside0 (l1 ++ be r y = l ++ be k y) ∧ Aside0 (Base.Own wr w.heap.size v5 l1) ∧ Aside0 (Below w.heap.size w wr))
      case atStart => exact ⟨k, l, rfl, by omega, ⟨rfl⟩, ⟨rfl⟩, HO, HB⟩
      case round =>
        obtain ⟨r, l1, rfl, hr, HG1, HP1, HO1, HB1⟩ := hrel
        cases r with
        | zero =>
          go_wp2
          go_roundg (q - (i + 1))
          case measure => have := HK.out; omega
          case rel =>
            refine ⟨i + 1, l1, by congr 1, by omega, ⟨by omega⟩, ⟨?_⟩, HO1, HB1⟩
            have h1 := HP1.out
            have h2 := HL.out
            have h3 := GL.out
            rw [pack_cons ws vs i (by omega) (by omega), HX.out, HY.out, HKW.out, ← HP.out, ← h1]
            simp [be]
        | succ r =>
          obtain ⟨pv', hpv, f0, -⟩ := nat_at (Kd.C_below GC.out HB1.out) i HIM.out
          injection hpv with hpv
          subst hpv
          rw [HY.out] at f0
          obtain ⟨A1, n1, c1, rfl, hc1, hC1⟩ := HO1.out.reads
          have HLE := Aside0.mk (show l1.length ≤ 100000 from by
            have h1 := congrArg List.length HP1.out
            have h2 := pack_len (ws.take i) (vs.take i)
            rw [← HP.out, List.length_take] at h2
            simp only [List.length_append, be_len] at h1
            omega)
          go_wp2_with (at_builtin; (refine app_row (w0 := w) w.heap.size (.tmp 26) (.tmp 34) rfl rfl _ l1 [UInt8.ofNat (y / 256 ^ r)] _ _ _ rfl rfl (HO1.out.below (alloc_below _ _)) (byte_lit wr y r) (below_alloc HB1.out _) (below_alloc HB1.out _).size (by have := HLE.out; omega) ?_); intro v2 w2 hO2 hB2 _; (have HO2 := Aside0.mk hO2; have HB2 := Aside0.mk hB2; clear hO2 hB2))
          go_wp2
          go_roundg r
          case measure => have := HG1.out; omega
          case rel => exact ⟨r, _, by congr 1; omega, by omega, ⟨rfl⟩, ⟨by rw [← HP1.out]; simp [be]⟩, HO2, HB2⟩
    · obtain rfl : i = q := by omega
      have hd0 : decide ((i : Int) < (i : Int)) = false := decide_eq_false (by omega)
      go_wp2
      go_ret
      refine ⟨_, rfl, ?_, HB.out⟩
      have h1 := HO.out
      rw [HP.out, pack_short ws vs i (by rw [HL.out, GL.out]; exact HQ.out.symm)] at h1
      exact h1
end Go.Proofs.Ytkmeipblgdahoaa.Rc

/- Words for what packs numbers into blocks: literals, appends of noughts, copies. -/
namespace Go.Proofs.Ytkmeipblgdahoaa.Rc
open Go.RowKit Go.Proofs.YtkmeipblgdahoaaW.PrintWords Go.Proofs.YtkmeipblgdahoaaW.PrintMore Go.Proofs.Ytkmeipblgdahoaa.Base
set_option linter.unusedVariables false
set_option linter.unusedSimpArgs false

theorem wfN {k : IntKind} {n : Nat} (hs : k.signed = false) (h : (n : Int) < 2 ^ k.bits) : (Lit.int k (n : Int)).wf = true := by
  simp only [Lit.wf, IntKind.min, IntKind.max, hs, decide_eq_true_eq, Bool.and_eq_true, Bool.false_eq_true, if_false]
  exact ⟨by omega, by omega⟩
theorem own_typed {w : World} {b : Nat} {v : Value} {xs : List UInt8} (h : Base.Own w b v xs) : w.ownsRow b 5 1 v xs.length (xs.map fun x => .int .u8 (x.toNat : Int)) := Kd.own_of_R h
theorem own_mk {w : World} {b : Nat} {v : Value} {xs : List UInt8} (h : w.ownsRow b 5 1 v xs.length (xs.map fun x => .int .u8 (x.toNat : Int))) : Base.Own w b v xs := Kd.R_of_own h (fun _ _ => trivial)
section
variable {ops : Array Oper} {rest : List Oper} {o : Oper} {a : Act} {Q : Exit → Act → World → Prop} {K : Act → World → Prop} {E : Prop}
/-- copy(out[k:], ys) -/
theorem copy_step {w0 W : World} (base : Nat) (hgd : o.guard = none) (d s : Operand) (ho : o.op = .call { callee := .builtin .copy, args := #[d, s], argTypes := #[39, 39] })
    (g n c : Nat) (xs ys : List UInt8) (k : Nat) (B : Option Addr) (m c' : Nat) (hd : a.eval d = .slice (some ⟨g, k, none⟩) (n - k) (c - k)) (hs : a.eval s = .slice B m c')
    (HO : Base.Own W base (.slice (some ⟨g, 0, none⟩) n c) xs) (HR : byte.C W B m ys) (hk : k + m ≤ n) (hm : 0 < m) (HB : Below base w0 W)
    (h : ∀ w', Base.Own w' base (.slice (some ⟨g, 0, none⟩) n c) (xs.take k ++ (ys ++ xs.drop (k + m))) → Below base w0 w' → K (a.put o.dst (.int .i64 (m : Int))) w') :
    if Region.wanted o (yielded ops a.tmps) = true then Oper.wp Try.prog o a W K Q else E := by
  obtain ⟨hl, hh⟩ := own_typed HO
  have hn : xs.length = n := by obtain ⟨A, q, he, _, _⟩ := Kd.R_reads HO; injection he with _ he; exact he.symm
  rcases hh with ⟨he, _⟩ | ⟨g', cap, cur, he, hbg, hblk, hnc, hcm, hcs, htk⟩
  · cases he
  · simp only [Value.slice.injEq, Option.some.injEq, Addr.mk.injEq, and_true] at he
    obtain ⟨rfl, -, rfl⟩ := he
    have hys : ys.length = m := HR.1
    have hcl : cur.toList.length = c := by simpa using hcs
    refine step_copy_splice hgd d s 39 39 ho 5 Try.underlying39 (by kernel_rfl) _ B (n - k) (c - k) m c' hd hs g k cur.toList 5 (by simpa using hblk) (ys.map fun x => .int .u8 (x.toNat : Int))
      (by rw [List.length_map, hys]; exact (Nat.min_eq_left (by omega)).symm) (fun _ => ⟨rfl, ?_⟩) (by rw [List.length_map, hys, hcl]; omega) (by intro v hv; obtain ⟨x, _, rfl⟩ := List.mem_map.1 hv; rfl) base w0 HB hbg (fun w' hw' hB' => ?_)
    · obtain ⟨ad, hA, -⟩ := byte_at HR 0 hm
      refine ⟨ad, hA, fun j v hv => ?_⟩
      rw [List.getElem?_map] at hv
      obtain ⟨x, hx, rfl⟩ := Option.map_eq_some_iff.1 hv
      have hj : j < m := by have := (List.getElem?_eq_some_iff.1 hx).1; omega
      obtain ⟨ad', hA', hc⟩ := byte_at HR j hj
      rw [hA] at hA'
      injection hA' with hA'
      subst hA'
      rw [List.getD_eq_getElem?_getD, hx] at hc
      exact hc
    · have hres : goInt (ys.map fun x => Value.int .u8 (x.toNat : Int)).length = .int .i64 (m : Int) := by rw [List.length_map, hys]; rfl
      rw [hres]
      refine h w' (own_mk ⟨by rw [List.length_map, Nat.mul_one], .inr ⟨g, c, _, ?_, hbg, hw'.out, ?_, hcm, ?_, ?_⟩⟩) hB'
      · rw [show (xs.take k ++ (ys ++ xs.drop (k + m))).length = n from by simp only [List.length_append, List.length_take, List.length_drop]; omega]
      · simp only [List.length_append, List.length_take, List.length_drop]; omega
      · have := length_splice cur.toList k (ys.map fun x => Value.int .u8 (x.toNat : Int)) (by rw [List.length_map]; omega)
        simp only [List.size_toArray, this, hcl, Nat.mul_one]
      · have e : (xs.take k ++ (ys ++ xs.drop (k + m))).length * 1 = n := by simp only [List.length_append, List.length_take, List.length_drop]; omega
        rw [e]
        have htk' : cur.toList.take n = xs.map fun x => .int .u8 (x.toNat : Int) := by rw [← htk, hn, Nat.mul_one]
        simp only [splice, List.length_map, hys, List.map_append, List.map_take, List.map_drop]
        rw [← htk']
        rw [List.take_append, List.take_append, List.length_take, List.length_map, hys, List.take_take, List.take_take, List.drop_take, List.take_of_length_le (l := ys.map _) (by rw [List.length_map]; omega)]
        rw [hcl, Nat.min_eq_left (show k ≤ c by omega), Nat.min_eq_right (show k ≤ n by omega), Nat.min_eq_left (show k ≤ n by omega), show n - k - m = n - (k + m) from by omega]
end
theorem wid_lit (W : World) (ws : List Int) (vs : Array Value) (hv : vs.toList = ws.map fun x => .int .i64 x) (hw : ∀ x ∈ ws, (Lit.int .i64 x).wf = true) (hl : ws.length ≤ 1000) : (num .i64).C (W.alloc (.cells vs 3)) (some ⟨W.heap.size, 0, none⟩) ws.length ws := by
  refine C_lit rfl ?_ rfl rfl (by omega)
  rw [hv]
  clear hv hl
  induction ws with
  | nil => exact trivial
  | cons x l ih => exact ⟨⟨rfl, hw x (by simp)⟩, ih (fun y hy => hw y (by simp [hy]))⟩
theorem val_lit (W : World) (ws : List Nat) (vs : Array Value) (hv : vs.toList = ws.map fun (x : Nat) => .int .u64 (x : Int)) (hw : ∀ x ∈ ws, x < 18446744073709551616) (hl : ws.length ≤ 1000) : (nat .u64).C (W.alloc (.cells vs 24)) (some ⟨W.heap.size, 0, none⟩) ws.length ws := by
  refine C_lit rfl ?_ rfl rfl (by omega)
  rw [hv]
  clear hv hl
  induction ws with
  | nil => exact trivial
  | cons x l ih => exact ⟨⟨rfl, wfN rfl (by have := hw x (by simp); show (x : Int) < 18446744073709551616; omega)⟩, ih (fun y hy => hw y (by simp [hy]))⟩
/-- Pack of literals. -/
theorem pack_lits (w W : World) (ws : List Int) (vs : List Nat) (wv vv : Array Value) (B : World) (hB : B = (W.alloc (.cells wv 3)).alloc (.cells vv 24)) (g1 g2 n1 n2 : Nat) (h1 : g1 = W.heap.size) (h2 : g2 = W.heap.size + 1) (e1 : n1 = ws.length) (e2 : n2 = vs.length)
    (hwv : wv.toList = ws.map fun x => .int .i64 x) (hw : ∀ x ∈ ws, (Lit.int .i64 x).wf = true) (hvv : vv.toList = vs.map fun (x : Nat) => .int .u64 (x : Int)) (hv : ∀ x ∈ vs, x < 18446744073709551616) (hwl : ws.length ≤ 1000) (hvl : vs.length ≤ 1000) (hb : Below w.heap.size w W) :
    Calls Try.prog 69 #[.slice (some ⟨g1, 0, none⟩) n1 n1, .slice (some ⟨g2, 0, none⟩) n2 n2] B fun e w' => ∃ v, e = .returned v ∧ Base.Own w' W.heap.size v (pack ws vs) ∧ Below w.heap.size w w' ∧ Below W.heap.size W w' := by
  subst hB h1 h2 e1 e2
  have c1 := Kd.C_below (wid_lit W ws wv hwv hw hwl) (alloc_below (W.alloc (.cells wv 3)) (.cells vv 24))
  have c2 := val_lit (W.alloc (.cells wv 3)) vs vv hvv hv hvl
  have hz : (W.alloc (.cells wv 3)).heap.size = W.heap.size + 1 := by simp
  rw [hz] at c2
  refine (pack_calls _ _ _ ws _ _ _ vs _ c1 c2 hwl hvl).mono ?_
  rintro e w' ⟨v, rfl, hO, hb'⟩
  have hbW : Below W.heap.size W w' := below_go (below_alloc (alloc_below W _) _) hb'
  exact ⟨v, rfl, Kd.R_lower hO (by simp; omega), below_go hb hbW, hbW⟩
section
variable {ops : Array Oper} {rest : List Oper} {o : Oper} {a : Act} {Q : Exit → Act → World → Prop}
/-- append(v, make([]byte, n)...) -/
theorem app_zeros {w0 W : World} (base : Nat) (s x : Operand) (hgd : o.guard = none) (ho : o.op = .call { callee := .builtin .append, args := #[s, x], argTypes := #[39, 3] })
    (v : Value) (xs : List UInt8) (n : Int) (hs : a.eval s = v) (hx : a.eval x = .int .i64 n) (HO : Base.Own W base v xs) (h0 : 0 ≤ n) (HB : Below base w0 W) (hbase : base ≤ W.heap.size) (hl : xs.length + n.toNat ≤ 140737488355328)
    (h : ∀ v1 w1, Base.Own w1 base v1 (xs ++ List.replicate n.toNat 0) → Below base w0 w1 → W.grownBy w1 v.ownBlock → wpList Try.prog ops Q rest (a.put o.dst v1) w1) : wpList Try.prog ops Q (o :: rest) a W :=
  Kd.R_append_zeros byte (w0 := w0) base hgd s x 39 3 5 (.int .u8 0) 1 ho Try.underlying39 Try.underlying3 info_u8 rfl (by decide) (by decide) v xs 0 n anyB hs hx rfl (fun _ _ => trivial) HO h0 HB hbase (by omega) (fun v1 w1 h1 h2 h3 _ => h v1 w1 h1 h2 h3)
/-- The same, a byte being stored at the end then. -/
theorem app_zeros2 {w0 W : World} (base : Nat) (s x : Operand) (hgd : o.guard = none) (ho : o.op = .call { callee := .builtin .append, args := #[s, x], argTypes := #[39, 3] })
    (v : Value) (xs : List UInt8) (n : Int) (hs : a.eval s = v) (hx : a.eval x = .int .i64 n) (HO : Base.Own W base v xs) (h0 : 0 ≤ n) (HB : Below base w0 W) (hbase : base ≤ W.heap.size) (hl : xs.length + n.toNat ≤ 140737488355328)
    (m : Nat) (hm : xs.length + n.toNat = m) (hm0 : 0 < m) (e : UInt8)
    (h : ∀ g c w1, base ≤ g → w1.cell? ⟨g, m - 1, none⟩ = some (.int .u8 ((((xs ++ List.replicate n.toNat (0 : UInt8)).getD (m - 1) 0).toNat : Nat) : Int)) → w1.frozen? ⟨g, m - 1, none⟩ = false →
      Base.Own (w1.setCell ⟨g, m - 1, none⟩ (.int .u8 (e.toNat : Int))) base (.slice (some ⟨g, 0, none⟩) m c) ((xs ++ List.replicate n.toNat 0).set (m - 1) e) → m ≤ c → Below base w0 w1 → wpList Try.prog ops Q rest (a.put o.dst (.slice (some ⟨g, 0, none⟩) m c)) w1) : wpList Try.prog ops Q (o :: rest) a W := by
  refine app_zeros base s x hgd ho v xs n hs hx HO h0 HB hbase hl (fun v1 w1 h1 h2 h3 => ?_)
  have hml : (xs ++ List.replicate n.toNat (0 : UInt8)).length = m := by rw [List.length_append, List.length_replicate]; exact hm
  obtain ⟨g, n8, c8, rfl, hn8, hg8, hc8, hz8, hO9⟩ := h1.store (m - 1) (by omega) e
  obtain rfl : n8 = m := by omega
  obtain ⟨A, q, he, hq, _⟩ := Kd.R_reads h1
  simp only [Value.slice.injEq] at he
  exact h g c8 w1 hg8 hc8 hz8 hO9 (by omega) h2
end
theorem own_C {w : World} {b g n c : Nat} {xs : List UInt8} (h : Base.Own w b (.slice (some ⟨g, 0, none⟩) n c) xs) : byte.C w (some ⟨g, 0, none⟩) n xs := by
  obtain ⟨A, n', c', he, _, hC⟩ := h.reads
  simp only [Value.slice.injEq] at he
  obtain ⟨rfl, rfl, rfl⟩ := he
  exact hC
theorem own_cap {w : World} {b g n c : Nat} {xs : List UInt8} (h : Base.Own w b (.slice (some ⟨g, 0, none⟩) n c) xs) : c ≤ 9223372036854775807 := by
  obtain ⟨_, hh⟩ := own_typed h
  rcases hh with ⟨he, _⟩ | ⟨g', cap, cur, he, _, _, _, hcm, _, _⟩
  · cases he
  · simp only [Value.slice.injEq] at he
    obtain ⟨-, -, rfl⟩ := he
    simpa [maxLen] using hcm
theorem pack4_C {w : World} {A : Option Addr} {n sm : Nat} (h : byte.C w A n (pack [4] [sm])) : byte.C w A 4 (pack [4] [sm]) ∧ n = 4 := by
  have h1 := h.1
  have h2 : (pack [4] [sm]).length = 4 := by simp [pack, wd, be_len]
  obtain rfl : n = 4 := by omega
  exact ⟨h, rfl⟩
theorem wrap_u64_in {x : Int} (h0 : 0 ≤ x) (h1 : x < 18446744073709551616) : IntKind.u64.wrap x = x := by
  have e : IntKind.u64.wrap x = x % 18446744073709551616 := by simp [IntKind.wrap, IntKind.signed, IntKind.bits]
  rw [e]; omega
end Go.Proofs.Ytkmeipblgdahoaa.Rc

/- Numbers at the front of bytes: (*reader).number, wire.Take. -/
namespace Go.Proofs.Ytkmeipblgdahoaa.Rc
open Go.RowKit Go.Proofs.YtkmeipblgdahoaaW.PrintWords Go.Proofs.YtkmeipblgdahoaaW.PrintMore Go.Proofs.Ytkmeipblgdahoaa.Base
set_option linter.unusedVariables false
set_option linter.unusedSimpArgs false

theorem or_byte (y x : Nat) (hx : x < 256) (hy : y < 72057594037927936) : bits .or .u64 ((y : Int) * 256) (x : Int) = ((y * 256 + x : Nat) : Int) := by
  have h := u64_or_nat (y * 256) x (by omega) (by omega)
  rw [Int.natCast_mul] at h
  refine h.trans ?_
  have := Nat.two_pow_add_eq_or_of_lt (i := 8) (b := x) (by omega) y
  rw [show (2 : Nat) ^ 8 = 256 from rfl, Nat.mul_comm] at this
  rw [this]
theorem un_lt7 (l : List UInt8) (h : l.length ≤ 7) : un l < 72057594037927936 := by
  have h1 := un_lt l
  have h2 : 256 ^ l.length ≤ 256 ^ 7 := Nat.pow_le_pow_right (by omega) h
  have : (256 : Nat) ^ 7 = 72057594037927936 := by decide
  omega
theorem un_snoc (l : List UInt8) (x : UInt8) : un (l ++ [x]) = un l * 256 + x.toNat := by unfold un; rw [unF_append]; rfl
theorem take_snocD {α : Type} (l : List α) (d : α) (i : Nat) (h : i < l.length) : l.take (i + 1) = l.take i ++ [l.getD i d] := by
  rw [List.take_add_one, List.getD_eq_getElem?_getD, List.getElem?_eq_getElem h]; rfl
/-- A reader's bytes. -/
structure Rd (w0 w : World) (g : Nat) (A : Option Addr) (n c : Nat) (b : List UInt8) : Prop where
  blk : Boxed w g 146 (.slice A n c)
  byt : byte.C w0 A n b
  cap : n ≤ c
  bel : Below w0.heap.size w0 w
  new : w0.heap.size ≤ g
theorem Rd.cell {w0 w : World} {g : Nat} {A : Option Addr} {n c : Nat} {b : List UInt8} (h : Rd w0 w g A n c b) : w.cell? ⟨g, 0, none⟩ = some (.slice A n c) ∧ w.frozen? ⟨g, 0, none⟩ = false :=
  ⟨h.blk.cell, h.blk.frozen⟩
set_option maxHeartbeats 1000000 in
theorem number_calls (w0 w : World) (g : Nat) (A : Option Addr) (n c : Nat) (b : List UInt8) (k : Nat) (h : Rd w0 w g A n c b) (hk : k ≤ n) (hk8 : k ≤ 8) :
    Calls Try.prog 88 #[.pointer (some ⟨g, 0, none⟩), .int .i64 (k : Int)] w fun e w' => e = .returned (.int .u64 ((un (b.take k) : Nat) : Int)) ∧
      w.setCell ⟨g, 0, none⟩ (.slice (if c = k then A else A.map (·.add k)) (n - k) (c - k)) = w' := by
  obtain ⟨r0, r1⟩ := h.cell
  have HR := Aside0.mk h
  obtain ⟨hl, hm⟩ := C_len h.byt
  have hcap := h.cap
  have hd : decide ((n : Int) < (k : Int)) = false := decide_eq_false (by omega)
  have hd' : decide (n < k) = false := decide_eq_false (by omega)
  clear h
  go_enter Try.func88, Try.ntmps88
  go_wp2
  go_loopg [4, 30] k (fun g4 v4 v30 wr => ∃ (i y : Nat), v30 = .int .i64 (i : Int) ∧ v4 = .int .u64 (y : Int) ∧ i ≤ k ∧ Aside0 (g4 + i = k) ∧ Aside0 (y = un (b.take i)) ∧ w = wr)
  case atStart => exact ⟨0, 0, rfl, rfl, by omega, ⟨rfl⟩, ⟨rfl⟩, rfl⟩
  case round =>
    obtain ⟨i, y, rfl, rfl, hi, HK, HY, rfl⟩ := hrel
    by_cases hlt : i < k
    · obtain ⟨pa, hpa, e0⟩ := byte_at (Kd.C_below HR.out.byt HR.out.bel) i (by omega)
      subst hpa
      obtain ⟨x, hx⟩ : ∃ x, b.getD i 0 = x := ⟨_, rfl⟩
      rw [hx] at e0
      have HX := Aside0.mk hx
      have hx8 := x.toNat_lt
      have hy7 : y < 72057594037927936 := by rw [HY.out]; exact un_lt7 _ (by rw [List.length_take]; omega)
      have hor := or_byte y x.toNat hx8 hy7
      clear hx
      go_wp2
      go_roundg (gk - 1)
      case measure => have := HK.out; omega
      case rel => exact ⟨i + 1, y * 256 + x.toNat, by congr 1, by congr 1, by omega, ⟨by have := HK.out; omega⟩, ⟨by rw [take_snocD b 0 i (by omega), un_snoc, HX.out, HY.out]⟩, rfl⟩
    · obtain rfl : i = k := by omega
      have hd0 : decide ((i : Int) < (i : Int)) = false := decide_eq_false (by omega)
      by_cases hck : c = i
      · subst hck
        go_wp2
        go_ret
        exact ⟨by rw [HY.out]; rfl, rfl⟩
      · have HCK := Aside0.mk hck
        go_wp2
        go_ret
        exact ⟨by rw [HY.out]; rfl, rfl⟩
theorem number_next {M : Nat} (w0 w : World) (g : Nat) (A : Option Addr) (n c : Nat) (b : List UInt8) (k : Nat) (h : Rd w0 w g A n c b) (hk : k ≤ n) (hk8 : k ≤ 8) (hc : c ≤ M) :
    Calls Try.prog 88 #[.pointer (some ⟨g, 0, none⟩), .int .i64 (k : Int)] w fun e w' => e = .returned (.int .u64 ((un (b.take k) : Nat) : Int)) ∧
      (∃ A' c', c' ≤ M ∧ Rd w0 w' g A' (n - k) c' (b.drop k)) ∧ w.grownBy w' (some g) := by
  refine (number_calls w0 w g A n c b k h hk hk8).mono ?_
  rintro e w' ⟨rfl, rfl⟩
  have hg := grownBy_setCell' w g (.slice (if c = k then A else A.map (·.add k)) (n - k) (c - k))
  refine ⟨rfl, ⟨_, c - k, by omega, h.blk.set _, ?_, by have := h.cap; omega, ?_, h.new⟩, hg⟩
  · have := C_drop h.byt h.cap k hk
    rwa [show k * byte.sz = k from by show k * 1 = k; omega] at this
  · exact h.bel.setCell h.new _
set_option maxHeartbeats 1000000 in
theorem number_short (w0 w : World) (g : Nat) (A : Option Addr) (n c : Nat) (b : List UInt8) (k : Nat) (h : Rd w0 w g A n c b) (hk : n < k) (hk8 : k ≤ 8) :
    Calls Try.prog 88 #[.pointer (some ⟨g, 0, none⟩), .int .i64 (k : Int)] w fun e w' => ∃ u pv, e = .panicked [{ v := .iface u pv, recovered := false }] ∧ Below w.heap.size w w' := by
  obtain ⟨r0, r1⟩ := h.cell
  have HR := Aside0.mk h
  obtain ⟨hl, hm⟩ := C_len h.byt
  have hcap := h.cap
  have hd : decide ((n : Int) < (k : Int)) = true := decide_eq_true (by omega)
  have hd' : decide (n < k) = true := decide_eq_true (by omega)
  clear h
  go_enter Try.func88, Try.ntmps88
  go_wp2
  exact ⟨rfl, _, _, rfl, Below.refl _ _⟩

/-! The deferred closure. -/
theorem Boxed.far {W : World} {B B' : Nat} {t : TypeId} {v : Value} (h : Boxed W B t v) (hne : B ≠ B') (u : Value) : Boxed (W.setCell ⟨B', 0, none⟩ u) B t v := h.kept (grownBy_setCell' W B' u) (fun e => hne (by injection e))
theorem catch_panicking (gl gr gi : Nat) (vl vr vi : Value) (u : TypeId) (pv : Value) (w : World) (h0 : Boxed w gl 92 vl) (h1 : Boxed w gr 39 vr) (h2 : Boxed w gi 4 vi) (h01 : gl ≠ gr) (h02 : gl ≠ gi) (h12 : gr ≠ gi) :
    CallsD Try.prog 87 #[.pointer (some ⟨gl, 0, none⟩), .pointer (some ⟨gr, 0, none⟩), .pointer (some ⟨gi, 0, none⟩)] (.panicking ({ v := .iface u pv, recovered := false } :: [])) w fun e u' w' =>
      e = .returned (.tuple #[]) ∧ u' = .panicking ({ v := .iface u pv, recovered := true } :: []) ∧ w' = ((w.setCell ⟨gl, 0, none⟩ (.slice none 0 0)).setCell ⟨gr, 0, none⟩ (.slice none 0 0)).setCell ⟨gi, 0, none⟩ (.bool false) := by
  have c0 := h0.cell
  have z0 := h0.frozen
  have c1 := (Boxed.far h1 h01.symm (.slice none 0 0)).cell
  have z1 := (Boxed.far h1 h01.symm (.slice none 0 0)).frozen
  have c2 := (Boxed.far (Boxed.far h2 h02.symm (.slice none 0 0)) h12.symm (.slice none 0 0)).cell
  have z2 := (Boxed.far (Boxed.far h2 h02.symm (.slice none 0 0)) h12.symm (.slice none 0 0)).frozen
  refine callsD_of_wpS Try.func87 rfl fun c₀ cs hu => ?_
  apply wpS_seq
  apply wpS_region
  simp [wpOpsS, go_sem, recoverD, hu, Try.ntmps87, Exit.thenS]
  apply wpS_seq
  apply wpS_region
  simp [wpOpsS, go_sem, Exit.thenS]
  refine wpS_cond (t := true) (by simp [Act.eval, Array.replicate]) ?_
  simp only [if_true]
  apply wpS_region
  simp [wpOpsS, go_sem, c0, z0, c1, z1, c2, z2, bodyPostS, results, Try.results87]
theorem catch_idle (gl gr gi : Nat) (w : World) :
    CallsD Try.prog 87 #[.pointer (some ⟨gl, 0, none⟩), .pointer (some ⟨gr, 0, none⟩), .pointer (some ⟨gi, 0, none⟩)] .returning w fun e u' w' => e = .returned (.tuple #[]) ∧ u' = .returning ∧ w' = w := by
  refine callsD_of_wpS Try.func87 rfl fun c₀ cs hu => ?_
  apply wpS_seq
  apply wpS_region
  simp [wpOpsS, go_sem, recoverD, hu, Try.ntmps87, Exit.thenS]
  apply wpS_seq
  apply wpS_region
  simp [wpOpsS, go_sem, Exit.thenS]
  refine wpS_cond (t := false) (by simp [Act.eval, Array.replicate]) ?_
  simp only [Bool.false_eq_true, if_false]
  refine wpS_of_wp (wp_skip ?_)
  cases c₀
  simp_all [bodyPostS, results, Try.results87]
end Go.Proofs.Ytkmeipblgdahoaa.Rc

/- wire.Take: numbers at the front of bytes; too few bytes: the reader's panic, recovered. -/
namespace Go.Proofs.Ytkmeipblgdahoaa.Rc
open Go.RowKit Go.Proofs.YtkmeipblgdahoaaW.PrintWords Go.Proofs.YtkmeipblgdahoaaW.PrintMore Go.Proofs.Ytkmeipblgdahoaa.Base
set_option linter.unusedVariables false
set_option linter.unusedSimpArgs false
/-- A row of numbers of the call's own. -/
def OwnU (w : World) (base : Nat) (v : Value) (xs : List Nat) : Prop := (nat .u64).R 24 w base anyB v xs
def TakeP (w : World) (r : Option (List Nat × List UInt8)) (e : Ending) (w' : World) : Prop :=
  Below w.heap.size w w' ∧ match r with
    | some (l, x) => ∃ vl vr, e = .returned (.tuple #[vl, vr, .bool true]) ∧ OwnU w' w.heap.size vl l ∧ Base.Own w' w.heap.size vr x
    | none => e = .returned (.tuple #[.slice none 0 0, .slice none 0 0, .bool false])
/-- What holds at a round's head. -/
structure TkR (w W : World) (gl : Nat) (vl : Value) (l : List Nat) (A : Option Addr) (n c : Nat) (b : List UInt8) : Prop where
  bl : Boxed W gl 92 vl
  br : Boxed W (gl + 1) 39 (.slice none 0 0)
  bi : Boxed W (gl + 1 + 1) 4 (.bool false)
  row : OwnU W w.heap.size vl l
  rd : Rd w W (gl + 1 + 1 + 1) A n c b
  glb : w.heap.size ≤ gl
section
variable {w W W' : World} {gl : Nat} {vl : Value} {l : List Nat} {A A' : Option Addr} {n c n' c' : Nat} {b b' : List UInt8}
theorem Rd.below (h : Rd w W gl A n c b) (hb : Below W.heap.size W W') : Rd w W' gl A n c b :=
  ⟨h.blk.kept (grown_of_below hb none) (by simp), h.byt, h.cap, below_go h.bel hb, h.new⟩
theorem TkR.below (h : TkR w W gl vl l A n c b) (hb : Below W.heap.size W W') : TkR w W' gl vl l A n c b :=
  ⟨h.bl.kept (grown_of_below hb none) (by simp), h.br.kept (grown_of_below hb none) (by simp), h.bi.kept (grown_of_below hb none) (by simp), Kd.R_below h.row hb, h.rd.below hb, h.glb⟩
theorem TkR.num (h : TkR w W gl vl l A n c b) (hr : Rd w W' (gl + 1 + 1 + 1) A' n' c' b') (hg : W.grownBy W' (some (gl + 1 + 1 + 1))) : TkR w W' gl vl l A' n' c' b' :=
  ⟨h.bl.kept hg (by simp; omega), h.br.kept hg (by simp), h.bi.kept hg (by simp), Kd.R_grown1 h.row rfl hg (Kd.R_ne h.row (show W.heap[gl + 1 + 1 + 1]? = _ from h.rd.blk) (by decide)), hr, h.glb⟩
theorem TkR.put (h : TkR w W gl vl l A n c b) {v1 : Value} {y : Nat} (hr : OwnU W' w.heap.size v1 (l ++ [y])) (hg : W.grownBy W' vl.ownBlock) : TkR w (W'.setCell ⟨gl, 0, none⟩ v1) gl v1 (l ++ [y]) A n c b := by
  have n0 := Kd.R_ne h.row (show W.heap[gl]? = _ from h.bl) (by decide)
  have n1 := Kd.R_ne h.row (show W.heap[gl + 1]? = _ from h.br) (by decide)
  have n2 := Kd.R_ne h.row (show W.heap[gl + 1 + 1]? = _ from h.bi) (by decide)
  have n3 := Kd.R_ne h.row (show W.heap[gl + 1 + 1 + 1]? = _ from h.rd.blk) (by decide)
  have b0 : Boxed W' gl 92 vl := h.bl.kept hg n0
  have hgs := grownBy_setCell' W' gl v1
  refine ⟨b0.set v1, Boxed.far (h.br.kept hg n1) (by omega) _, Boxed.far (h.bi.kept hg n2) (by omega) _, Kd.R_grown1 hr rfl hgs (Kd.R_ne hr (show W'.heap[gl]? = _ from b0) (by decide)), ⟨Boxed.far (h.rd.blk.kept hg n3) (by omega) _, h.rd.byt, h.rd.cap, ?_, h.rd.new⟩, h.glb⟩
  have hgl : w.heap.size ≤ gl := by have := h.glb; omega
  exact ((h.rd.bel.grown hg h.rd.bel.size (fun k hk => Kd.R_base h.row k hk))).setCell hgl _
end
section
variable {ops : Array Oper} {o : Oper} {a : Act} {Q : Exit → Act → World → Prop} {Kc : Act → World → Prop}
theorem info_u64 : (Try.prog.info? 24).map (fun i => (i.zero, i.size, i.bytes)) = some (some (.int .u64 0), 1, 8) := by kernel_rfl
/-- append(v, x) in a region that draws: a number. -/
theorem app_u64_step {W : World} (base : Nat) (s x : Operand) (hw : Region.wanted o (yielded ops a.tmps) = true) (ho : o.op = .call { callee := .builtin .append, args := #[s, x], argTypes := #[92, 92] })
    (v : Value) (xs : List Nat) (y : Nat) (hy : (Lit.int .u64 (y : Int)).wf = true) (hs : a.eval s = v) (hx : a.eval x = .slice (some ⟨W.heap.size, 0, none⟩) 1 1)
    (HO : OwnU W base v xs) (hbase : base ≤ W.heap.size) (hl : xs.length ≤ 100000)
    (h : ∀ v1 w1, OwnU w1 base v1 (xs ++ [y]) → W.grownBy w1 v.ownBlock → Kc (a.put o.dst v1) w1) :
    if Region.wanted o (yielded ops a.tmps) = true then Oper.wp Try.prog o a (W.alloc (.cells #[.int .u64 (y : Int)] 24)) Kc Q else Kc (a.put o.dst undef) (W.alloc (.cells #[.int .u64 (y : Int)] 24)) :=
  Kd.R_append_step (nat .u64) (w0 := W) base hw s x 92 24 (.int .u64 0) 8 ho Try.underlying92 info_u64 rfl (by decide) (by decide) v xs y [.int .u64 (y : Int)] anyB (fun _ => False) hs hx ⟨rfl, hy⟩ (fun _ h => h.elim) (fun _ _ => trivial) HO (Below.refl _ _) hbase (by omega) (fun v1 w1 h1 _ h3 _ => h v1 w1 h1 h3)
end
theorem wf_un (l : List UInt8) (h : l.length ≤ 8) : (Lit.int .u64 ((un l : Nat) : Int)).wf = true := by
  have h1 := un_lt l
  have h2 : 256 ^ l.length ≤ 256 ^ 8 := Nat.pow_le_pow_right (by omega) h
  have h3 : (256 : Nat) ^ 8 = 18446744073709551616 := by decide
  simp only [Lit.wf, IntKind.min, IntKind.max, IntKind.bits, IntKind.signed, decide_eq_true_eq, Bool.and_eq_true, Bool.false_eq_true, if_false]
  have h4 : un l ≤ 18446744073709551615 := by omega
  refine ⟨by omega, ?_⟩
  have : ((2 : Int) ^ 64 - 1) = 18446744073709551615 := by decide
  omega

theorem take_more {b : List UInt8} {ws : List Int} {i : Nat} {x : Int} (hi : i < ws.length) (hx : ws.getD i 0 = x) (hb : wd x ≤ b.length) (l : List Nat) :
    (take b (ws.drop i)).map (fun p => (l ++ p.1, p.2)) = (take (b.drop (wd x)) (ws.drop (i + 1))).map (fun p => ((l ++ [un (b.take (wd x))]) ++ p.1, p.2)) := by
  rw [drop_getD ws i 0 hi, hx, take, if_neg (by omega), Option.map_map]
  congr 1
  funext p
  simp
theorem take_less {b : List UInt8} {ws : List Int} {i : Nat} {x : Int} (hi : i < ws.length) (hx : ws.getD i 0 = x) (hb : b.length < wd x) : take b (ws.drop i) = none := by
  rw [drop_getD ws i 0 hi, hx, take, if_pos hb]
theorem own_empty (w : World) (base : Nat) (hb : base ≤ w.heap.size) : Base.Own (w.alloc (.cells #[] 5)) base (.slice (some ⟨w.heap.size, 0, none⟩) 0 0) [] :=
  ⟨fun _ _ => trivial, [], ⟨rfl, .inr ⟨w.heap.size, 0, #[], rfl, hb, heap_alloc_new w _, Nat.le_refl _, Nat.zero_le _, rfl, rfl⟩⟩, rfl, fun j p hj => by simp at hj⟩
set_option maxRecDepth 100000 in
theorem clone_calls (A : Option Addr) (n cap : Nat) (xs : List UInt8) (hn : n ≤ 140737488355328) (w : World) (h : byte.C w A n xs) :
    Calls Try.prog 64 #[.slice A n cap] w fun e w' => ∃ v, e = .returned v ∧ Base.Own w' w.heap.size v xs ∧ Below w.heap.size w w' := by
  have H := Aside0.mk h
  have hnil : ∀ (c : Nat) (W : World), (binOp .eql 39 (.slice none 0 c) (.slice none 0 0)).run Try.prog W = .ok (.bool true) W := fun _ _ => by kernel_rfl
  have hnot : ∀ (a : Addr) (m c : Nat) (W : World), (binOp .eql 39 (.slice (some a) m c) (.slice none 0 0)).run Try.prog W = .ok (.bool false) W := fun _ _ _ _ => by kernel_rfl
  cases A with
  | none =>
    have hn0 : n = 0 := by
      rcases Nat.eq_zero_or_pos n with h0 | h0
      · exact h0
      · obtain ⟨ad, he, _⟩ := h.2.2 h0
        cases he
    subst hn0
    have hx : xs = [] := List.eq_nil_of_length_eq_zero h.1
    subst hx
    clear h
    go_enter Try.func64, Try.ntmps64
    go_wp2
    go_ret
    exact ⟨_, rfl, Base.Own.nil _ _, Below.refl _ _⟩
  | some ad =>
    have HC := Aside0.mk (Kd.C_below h (alloc_below w (.cells #[] 5)))
    have HO := Aside0.mk (own_empty w w.heap.size (Nat.le_refl _))
    have HB := Aside0.mk (alloc_below w (.cells #[] 5))
    clear h
    go_enter Try.func64, Try.ntmps64
    go_wp2_with (at_builtin; go_loud (refine app_row (w0 := w) w.heap.size (.tmp 5) (.tmp 6) rfl rfl _ [] xs (some ad) n cap rfl rfl HO.out HC.out HB.out (by simp) (by simp; omega) ?_); intro v1 w1 hO hB _; have HO1 := Aside0.mk hO; have HB1 := Aside0.mk hB; clear hO hB)
    go_ret
    exact ⟨_, rfl, HO1.out, HB1.out⟩
theorem door_panic (w W : World) (r : Option (List Nat × List UInt8)) (gl : Nat) (vl : Value) (l : List Nat) (A : Option Addr) (n c : Nat) (b : List UInt8) (h : TkR w W gl vl l A n c b) (hr : r = none) (T : Array Value) (u : TypeId) (pv : Value)
    (h4 : T[4]?.getD undef = .pointer (some ⟨gl, 0, none⟩)) (h5 : T[5]?.getD undef = .pointer (some ⟨gl + 1, 0, none⟩)) (h6 : T[6]?.getD undef = .pointer (some ⟨gl + 1 + 1, 0, none⟩)) :
    Leaves Try.prog Try.f74 T (TakeP w r) [{ target := .fn (.func 87) #[.pointer (some ⟨gl, 0, none⟩), .pointer (some ⟨gl + 1, 0, none⟩), .pointer (some ⟨gl + 1 + 1, 0, none⟩)], args := #[] }] (.panicking [{ v := .iface u pv, recovered := false }]) W := by
  subst hr
  refine leaves_cons (f := 87) (args := #[.pointer (some ⟨gl, 0, none⟩), .pointer (some ⟨gl + 1, 0, none⟩), .pointer (some ⟨gl + 1 + 1, 0, none⟩)]) (by simp) (by simp [go_sem]) ?_
  refine (catch_panicking gl (gl + 1) (gl + 1 + 1) _ _ _ u pv W h.bl h.br h.bi (by omega) (by omega) (by omega)).mono ?_
  rintro e u' w'' ⟨rfl, rfl, rfl⟩
  have b0 := Boxed.far (Boxed.far (h.bl.set (.slice none 0 0)) (by omega : gl ≠ gl + 1) (.slice none 0 0)) (by omega : gl ≠ gl + 1 + 1) (.bool false)
  have b1 := Boxed.far ((Boxed.far h.br (by omega : gl + 1 ≠ gl) (.slice none 0 0)).set (.slice none 0 0)) (by omega : gl + 1 ≠ gl + 1 + 1) (.bool false)
  have b2 := (Boxed.far (Boxed.far h.bi (by omega : gl + 1 + 1 ≠ gl) (.slice none 0 0)) (by omega : gl + 1 + 1 ≠ gl + 1) (.slice none 0 0)).set (.bool false)
  have c0 := b0.cell
  have c1 := b1.cell
  have c2 := b2.cell
  have hg := h.glb
  have hb := (((h.rd.bel.setCell (p := ⟨gl, 0, none⟩) hg (.slice none 0 0)).setCell (p := ⟨gl + 1, 0, none⟩) (by show w.heap.size ≤ gl + 1; omega) (.slice none 0 0)).setCell (p := ⟨gl + 1 + 1, 0, none⟩) (by show w.heap.size ≤ gl + 1 + 1; omega) (.bool false))
  generalize ((W.setCell ⟨gl, 0, none⟩ (.slice none 0 0)).setCell ⟨gl + 1, 0, none⟩ (.slice none 0 0)).setCell ⟨gl + 1 + 1, 0, none⟩ (.bool false) = W9 at *
  refine ⟨.tuple #[.slice none 0 0, .slice none 0 0, .bool false], ?_, hb, rfl⟩
  simp [results, Try.results74, go_sem, h4, h5, h6, c0, c1, c2]
theorem last_u {w W : World} {gl : Nat} {vl : Value} {l : List Nat} {A : Option Addr} {n c : Nat} {b : List UInt8} (h : TkR w W gl vl l A n c b) : Boxed (W.setCell ⟨gl, 0, none⟩ vl) (gl + 1) 39 (.slice none 0 0) ∧ Boxed (W.setCell ⟨gl, 0, none⟩ vl) gl 92 vl :=
  ⟨Boxed.far h.br (by omega) _, h.bl.set _⟩
theorem last_u2 {w W : World} {gl : Nat} {vl : Value} {l : List Nat} {A : Option Addr} {n c : Nat} {b : List UInt8} (h : TkR w W gl vl l A n c b) (v : Value) : Boxed ((W.setCell ⟨gl, 0, none⟩ vl).setCell ⟨gl + 1, 0, none⟩ v) (gl + 1 + 1) 4 (.bool false) :=
  Boxed.far (Boxed.far h.bi (by omega) _) (by omega) _
theorem own_lower {w : World} {b b' : Nat} {v : Value} {xs : List UInt8} (h : Base.Own w b v xs) (hb : b' ≤ b) : Base.Own w b' v xs := Kd.R_lower h hb
theorem own_box {w : World} {b B t : Nat} {v u v' : Value} {xs : List UInt8} (h : Base.Own w b v xs) (hB : Boxed w B t u) (ht : 5 ≠ t) : Base.Own (w.setCell ⟨B, 0, none⟩ v') b v xs :=
  Kd.R_grown1 h rfl (grownBy_setCell' w B v') (Kd.R_ne h (show w.heap[B]? = _ from hB) ht)
theorem ownU_box {w : World} {b B t : Nat} {v u v' : Value} {xs : List Nat} (h : OwnU w b v xs) (hB : Boxed w B t u) (ht : 24 ≠ t) : OwnU (w.setCell ⟨B, 0, none⟩ v') b v xs :=
  Kd.R_grown1 h rfl (grownBy_setCell' w B v') (Kd.R_ne h (show w.heap[B]? = _ from hB) ht)
theorem door_ret (w W : World) (r : Option (List Nat × List UInt8)) (gl : Nat) (vl : Value) (l : List Nat) (A : Option Addr) (n c : Nat) (b x : List UInt8) (v : Value) (h : TkR w W gl vl l A n c b) (hO : Base.Own W w.heap.size v x) (hr : r = some (l, x)) (T : Array Value)
    (h4 : T[4]?.getD undef = .pointer (some ⟨gl, 0, none⟩)) (h5 : T[5]?.getD undef = .pointer (some ⟨gl + 1, 0, none⟩)) (h6 : T[6]?.getD undef = .pointer (some ⟨gl + 1 + 1, 0, none⟩)) :
    Leaves Try.prog Try.f74 T (TakeP w r) [{ target := .fn (.func 87) #[.pointer (some ⟨gl, 0, none⟩), .pointer (some ⟨gl + 1, 0, none⟩), .pointer (some ⟨gl + 1 + 1, 0, none⟩)], args := #[] }] .returning (((W.setCell ⟨gl, 0, none⟩ vl).setCell ⟨gl + 1, 0, none⟩ v).setCell ⟨gl + 1 + 1, 0, none⟩ (.bool true)) := by
  subst hr
  refine leaves_cons (f := 87) (args := #[.pointer (some ⟨gl, 0, none⟩), .pointer (some ⟨gl + 1, 0, none⟩), .pointer (some ⟨gl + 1 + 1, 0, none⟩)]) (by simp) (by simp [go_sem]) ?_
  refine (catch_idle gl (gl + 1) (gl + 1 + 1) _).mono ?_
  rintro e u' w'' ⟨rfl, rfl, rfl⟩
  obtain ⟨a1, a0⟩ := last_u h
  have a2 := last_u2 h v
  have b0 := Boxed.far (Boxed.far a0 (by omega : gl ≠ gl + 1) v) (by omega : gl ≠ gl + 1 + 1) (.bool true)
  have b1 := Boxed.far (a1.set v) (by omega : gl + 1 ≠ gl + 1 + 1) (.bool true)
  have b2 := a2.set (.bool true)
  have c0 := b0.cell
  have c1 := b1.cell
  have c2 := b2.cell
  have hg := h.glb
  have hb := (((h.rd.bel.setCell (p := ⟨gl, 0, none⟩) hg vl).setCell (p := ⟨gl + 1, 0, none⟩) (by show w.heap.size ≤ gl + 1; omega) v).setCell (p := ⟨gl + 1 + 1, 0, none⟩) (by show w.heap.size ≤ gl + 1 + 1; omega) (.bool true))
  have o1 := own_box (v' := .bool true) (own_box (v' := v) (own_box (v' := vl) hO h.bl (by decide)) a1 (by decide)) a2 (by decide)
  have u1 := ownU_box (v' := .bool true) (ownU_box (v' := v) (ownU_box (v' := vl) h.row h.bl (by decide)) a1 (by decide)) a2 (by decide)
  generalize ((W.setCell ⟨gl, 0, none⟩ vl).setCell ⟨gl + 1, 0, none⟩ v).setCell ⟨gl + 1 + 1, 0, none⟩ (.bool true) = W9 at *
  refine ⟨.tuple #[vl, v, .bool true], ?_, hb, vl, v, rfl, u1, o1⟩
  simp [results, Try.results74, go_sem, h4, h5, h6, c0, c1, c2]
theorem ownU_open {w : World} {b : Nat} {v : Value} {xs : List Nat} (h : OwnU w b v xs) : ∃ A n c, v = .slice A n c := by
  obtain ⟨A, c, h1⟩ := Kd.R_slice h
  exact ⟨A, _, c, h1⟩
theorem leaves_congr {P : Program} {fn : Func} {t t' : Array Value} {R : Ending → World → Prop} (h : results fn t = results fn t') : ∀ (ds : List Deferred) (u : FrameMode) (w : World), Leaves P fn t R ds u w → Leaves P fn t' R ds u w := by
  intro ds
  induction ds with
  | nil =>
    intro u w hl
    cases u with
    | run => exact hl
    | returning => obtain ⟨v, h1, h2⟩ := hl; exact ⟨v, by rw [← h]; exact h1, h2⟩
    | panicking c => exact hl
  | cons d ds ih =>
    intro u w hl
    obtain ⟨h1, fv, cap, f, args, h2, h3, h4⟩ := hl
    refine ⟨h1, fv, cap, f, args, h2, h3, h4.mono ?_⟩
    intro e u' w' hh
    cases e with
    | returned v => exact ih _ _ hh
    | panicked c => exact ih _ _ hh
    | outgrown => exact hh
theorem take_put {R : Ending → World → Prop} {a : Act} {d : Nat} {v : Value} {c : List PanicEntry} {w : World} (hd : 7 ≤ d) (h : Leaves Try.prog Try.f74 (a.put (some d) v).tmps R (a.put (some d) v).defers (.panicking c) w) : Leaves Try.prog Try.f74 a.tmps R a.defers (.panicking c) w := by
  refine leaves_congr ?_ _ _ _ h
  have h4 : (a.tmps.setIfInBounds d v)[4]? = a.tmps[4]? := Array.getElem?_setIfInBounds_ne (by omega)
  have h5 : (a.tmps.setIfInBounds d v)[5]? = a.tmps[5]? := Array.getElem?_setIfInBounds_ne (by omega)
  have h6 : (a.tmps.setIfInBounds d v)[6]? = a.tmps[6]? := Array.getElem?_setIfInBounds_ne (by omega)
  simp [results, Try.results74, Act.put, h4, h5, h6]
theorem take_first (w : World) (gl : Nat) (A : Option Addr) (n c : Nat) (b : List UInt8) (h : byte.C w A n b) (hc : n ≤ c) (hg : gl = w.heap.size) :
    TkR w ((((w.alloc (.cells #[.slice none 0 0] 92)).alloc (.cells #[.slice none 0 0] 39)).alloc (.cells #[.bool false] 4)).alloc (.cells #[.slice A n c] 146)) gl (.slice none 0 0) [] A n c b := by
  subst hg
  have b1 := Boxed.new w 92 (.slice none 0 0)
  have b2 := Boxed.new (w.alloc (.cells #[.slice none 0 0] 92)) 39 (.slice none 0 0)
  have b3 := Boxed.new ((w.alloc (.cells #[.slice none 0 0] 92)).alloc (.cells #[.slice none 0 0] 39)) 4 (.bool false)
  have b4 := Boxed.new (((w.alloc (.cells #[.slice none 0 0] 92)).alloc (.cells #[.slice none 0 0] 39)).alloc (.cells #[.bool false] 4)) 146 (.slice A n c)
  refine ⟨((b1.alloc _).alloc _).alloc _, ?_, ?_, Kd.R_nil _ _ _ _ _, ⟨?_, h, hc, ?_, by omega⟩, Nat.le_refl _⟩
  · simpa using (b2.alloc _).alloc _
  · simpa using b3.alloc _
  · simpa using b4
  · exact below_alloc (below_alloc (below_alloc (alloc_below _ _) _) _) _
set_option maxRecDepth 100000 in
set_option maxHeartbeats 4000000 in
theorem take_callsU (A : Option Addr) (n c : Nat) (b : List UInt8) (B : Option Addr) (m d : Nat) (ws : List Int) (w : World) (h : byte.C w A n b) (hnc : n ≤ c) (hn : n ≤ 100000000) (hw : (num .i64).C w B m ws) (hm : m ≤ 1000) :
    Calls Try.prog 74 #[.slice A n c, .slice B m d] w (TakeP w (take b ws)) := by
  have hmf : ∀ (fn : Fn) (first cap : Array Value) (w : World), (Instr.makeFunc fn first cap).run Try.prog w = .ok (.func fn first cap) w := fun _ _ _ _ => rfl
  obtain ⟨wl, wmx⟩ := C_len hw
  have HWL := Aside0.mk wl
  have HWC := Aside0.mk hw
  have HT := Aside0.mk (take_first w _ A n c b h hnc rfl)
  clear h hw wl
  go_enter_defers Try.func74, Try.ntmps74
  go_wp2
  obtain ⟨W, hW⟩ : ∃ W, ((((w.alloc (.cells #[.slice none 0 0] 92)).alloc (.cells #[.slice none 0 0] 39)).alloc (.cells #[.bool false] 4)).alloc (.cells #[.slice A n c] 146)) = W := ⟨_, rfl⟩
  obtain ⟨gl, hgl⟩ : ∃ gl, w.heap.size = gl := ⟨_, rfl⟩
  rw [hW, hgl] at HT
  rw [hW, hgl]
  have HGL := Aside0.mk hgl
  clear hW hgl
  go_loopg [16] m (fun g v16 wr => ∃ (i : Nat) (vl : Value) (l : List Nat) (A1 : Option Addr) (n1 c1 : Nat) (b1 : List UInt8), v16 = .int .i64 (i : Int) ∧ i ≤ m ∧ n1 ≤ 100000000 ∧ c1 ≤ c ∧ l.length ≤ 1000 ∧ Aside0 (g + i = m) ∧ Aside0 (l.length = i) ∧ Aside0 (TkR w wr gl vl l A1 n1 c1 b1) ∧ Aside0 ((take b1 (ws.drop i)).map (fun p => (l ++ p.1, p.2)) = take b ws))
  case atStart => exact ⟨0, _, [], A, n, c, b, rfl, by omega, hn, Nat.le_refl _, by simp, ⟨rfl⟩, ⟨rfl⟩, HT, ⟨by simp⟩⟩
  case round =>
    obtain ⟨i, vl, l, A1, n1, c1, b1, rfl, hi, hn1, hc1, hl1, HK, HL1, HR, HP⟩ := hrel
    by_cases hlt : i < m
    · obtain ⟨Al, nl, cl, rfl⟩ := ownU_open HR.out.row
      obtain ⟨pa, hpa, e0, hwf⟩ := num_at (Kd.C_below HWC.out HR.out.rd.bel) i (by omega)
      subst hpa
      obtain ⟨x, hx⟩ : ∃ x, ws.getD i 0 = x := ⟨_, rfl⟩
      rw [hx] at e0 hwf
      have HX := Aside0.mk hx
      have hlt' : (i : Int) < (m : Int) := by omega
      have hd0 : decide ((i : Int) < (m : Int)) = true := decide_eq_true hlt'
      obtain ⟨hbl, hnb⟩ := C_len HR.out.rd.byt
      have hw8 := wd_pos x
      have HB1 := Aside0.mk hbl
      clear hx hwf hbl hnb
      go_wp2
      clear e0
      have HD := Aside0.mk (HR.out.below (below_drew (Below.refl _ _)))
      have hbw : w.heap.size ≤ wr.heap.size := HR.out.rd.bel.size
      have z0 : wr.cell? ⟨gl, 0, none⟩ = some (.slice Al nl cl) := HR.out.bl.cell
      by_cases hsh : b1.length < wd x
      · have HNone := Aside0.mk (show take b ws = none by rw [← HP.out, take_less (by rw [HWL.out]; exact hlt) HX.out hsh]; rfl)
        have HSH := Aside0.mk hsh
        clear hsh
        refine wp_region_any (by kernel_rfl) ?_
        rw [show ({ wr with drawn := wr.drawn + 1 } : World) = wr.drew from rfl]
        refine wpAny_take (i := 1) (oi := { dst := some 21, op := Op.move (Operand.tmp 7), type := 144, pos := "wire.go:53", after := #[], guard := none }) (v := ?_) rfl (by kernel_rfl) (by kernel_rfl) (by kernel_rfl) (fun _ _ _ h => take_put (by omega) h) (Or.inl ⟨by rfl, ?_⟩) ?_
        rotate_left
        · (intro w; go_simp; (try with_reducible rfl))
        (try simp only [Act.put, List.setIfInBounds_toArray, List.set_cons_zero, List.set_cons_succ])
        refine wpAny_take (i := 2) (oi := { dst := some 22, op := Op.move (Operand.tmp 9), type := 3, pos := "wire.go:53", after := #[], guard := none }) (v := ?_) rfl (by kernel_rfl) (by kernel_rfl) (by kernel_rfl) (fun _ _ _ h => take_put (by omega) h) (Or.inl ⟨by rfl, ?_⟩) ?_
        rotate_left
        · (intro w; go_simp; (try with_reducible rfl))
        (try simp only [Act.put, List.setIfInBounds_toArray, List.set_cons_zero, List.set_cons_succ])
        refine wpAny_ready (rs := [0, 3]) (by kernel_rfl) (by simp) ?_
        refine (AllReady.cons (o := { dst := some 20, op := Op.load 92 (Operand.tmp 4), type := 92, pos := "wire.go:53", after := #[], guard := none }) rfl (fun K hK => ?_) (AllReady.cons (o := { dst := some 23, op := Op.call { callee := Callee.value (Operand.func 85), args := #[Operand.tmp 22], argTypes := #[3] }, type := 3, pos := "wire.go:53", after := #[{ on := 2, ground := Ground.data }], guard := none }) rfl (fun K hK => ?_) AllReady.nil))
        · go_simp
          refine hK _ _ ?_
          clear hK K
          (try simp only [Act.put, List.setIfInBounds_toArray, List.set_cons_zero, List.set_cons_succ])
          refine wpAny_ready (rs := [3]) (by kernel_rfl) (by simp) ?_
          refine (AllReady.cons (o := { dst := some 23, op := Op.call { callee := Callee.value (Operand.func 85), args := #[Operand.tmp 22], argTypes := #[3] }, type := 3, pos := "wire.go:53", after := #[{ on := 2, ground := Ground.data }], guard := none }) rfl (fun K hK => ?_) AllReady.nil)
          go_simp
          refine (width_calls x _).mono ?_
          rintro e w7 ⟨rfl, rfl⟩
          refine hK _ _ ?_
          clear hK K
          (try simp only [Act.put, List.setIfInBounds_toArray, List.set_cons_zero, List.set_cons_succ])
          refine wpAny_ready (rs := [4]) (by kernel_rfl) (by simp) ?_
          refine (AllReady.cons (o := { dst := some 24, op := Op.call { callee := Callee.value (Operand.func 88), args := #[Operand.tmp 21, Operand.tmp 23], argTypes := #[144, 3] }, type := 24, pos := "wire.go:53", after := #[{ on := 1, ground := Ground.data }, { on := 3, ground := Ground.data }, { on := 3, ground := Ground.chain }], guard := none }) rfl (fun K hK => ?_) AllReady.nil)
          go_simp
          refine (number_short w _ (gl + 1 + 1 + 1) A1 n1 c1 b1 (wd x) HD.out.rd (by have := HSH.out; have := HB1.out; omega) hw8.2).mono ?_
          rintro e w8 ⟨u, pv, rfl, hb8⟩
          exact door_panic w w8 _ gl _ l A1 n1 c1 b1 (HD.out.below hb8) HNone.out _ u pv rfl rfl rfl
        · go_simp
          refine (width_calls x _).mono ?_
          rintro e w7 ⟨rfl, rfl⟩
          refine hK _ _ ?_
          clear hK K
          (try simp only [Act.put, List.setIfInBounds_toArray, List.set_cons_zero, List.set_cons_succ])
          refine wpAny_ready (rs := [0, 4]) (by kernel_rfl) (by simp) ?_
          refine (AllReady.cons (o := { dst := some 20, op := Op.load 92 (Operand.tmp 4), type := 92, pos := "wire.go:53", after := #[], guard := none }) rfl (fun K hK => ?_) (AllReady.cons (o := { dst := some 24, op := Op.call { callee := Callee.value (Operand.func 88), args := #[Operand.tmp 21, Operand.tmp 23], argTypes := #[144, 3] }, type := 24, pos := "wire.go:53", after := #[{ on := 1, ground := Ground.data }, { on := 3, ground := Ground.data }, { on := 3, ground := Ground.chain }], guard := none }) rfl (fun K hK => ?_) AllReady.nil))
          · go_simp
            refine hK _ _ ?_
            clear hK K
            (try simp only [Act.put, List.setIfInBounds_toArray, List.set_cons_zero, List.set_cons_succ])
            refine wpAny_ready (rs := [4]) (by kernel_rfl) (by simp) ?_
            refine (AllReady.cons (o := { dst := some 24, op := Op.call { callee := Callee.value (Operand.func 88), args := #[Operand.tmp 21, Operand.tmp 23], argTypes := #[144, 3] }, type := 24, pos := "wire.go:53", after := #[{ on := 1, ground := Ground.data }, { on := 3, ground := Ground.data }, { on := 3, ground := Ground.chain }], guard := none }) rfl (fun K hK => ?_) AllReady.nil)
            go_simp
            refine (number_short w _ (gl + 1 + 1 + 1) A1 n1 c1 b1 (wd x) HD.out.rd (by have := HSH.out; have := HB1.out; omega) hw8.2).mono ?_
            rintro e w8 ⟨u, pv, rfl, hb8⟩
            exact door_panic w w8 _ gl _ l A1 n1 c1 b1 (HD.out.below hb8) HNone.out _ u pv rfl rfl rfl
          · go_simp
            refine (number_short w _ (gl + 1 + 1 + 1) A1 n1 c1 b1 (wd x) HD.out.rd (by have := HSH.out; have := HB1.out; omega) hw8.2).mono ?_
            rintro e w8 ⟨u, pv, rfl, hb8⟩
            exact door_panic w w8 _ gl _ l A1 n1 c1 b1 (HD.out.below hb8) HNone.out _ u pv rfl rfl rfl
      · have HTM := Aside0.mk (take_more (by rw [HWL.out]; exact hlt) HX.out (by omega : wd x ≤ b1.length) l)
        have HSH := Aside0.mk hsh
        have HNL := Aside0.mk (show l.length ≤ 100000 by omega)
        clear hsh
        refine wp_region_any (by kernel_rfl) ?_
        rw [show ({ wr with drawn := wr.drawn + 1 } : World) = wr.drew from rfl]
        refine wpAny_take (i := 1) (oi := { dst := some 21, op := Op.move (Operand.tmp 7), type := 144, pos := "wire.go:53", after := #[], guard := none }) (v := ?_) rfl (by kernel_rfl) (by kernel_rfl) (by kernel_rfl) (fun _ _ _ h => take_put (by omega) h) (Or.inl ⟨by rfl, ?_⟩) ?_
        rotate_left
        · (intro w; go_simp; (try with_reducible rfl))
        (try simp only [Act.put, List.setIfInBounds_toArray, List.set_cons_zero, List.set_cons_succ])
        refine wpAny_take (i := 2) (oi := { dst := some 22, op := Op.move (Operand.tmp 9), type := 3, pos := "wire.go:53", after := #[], guard := none }) (v := ?_) rfl (by kernel_rfl) (by kernel_rfl) (by kernel_rfl) (fun _ _ _ h => take_put (by omega) h) (Or.inl ⟨by rfl, ?_⟩) ?_
        rotate_left
        · (intro w; go_simp; (try with_reducible rfl))
        (try simp only [Act.put, List.setIfInBounds_toArray, List.set_cons_zero, List.set_cons_succ])
        refine wpAny_ready (rs := [0, 3]) (by kernel_rfl) (by simp) ?_
        refine (AllReady.cons (o := { dst := some 20, op := Op.load 92 (Operand.tmp 4), type := 92, pos := "wire.go:53", after := #[], guard := none }) rfl (fun K hK => ?_) (AllReady.cons (o := { dst := some 23, op := Op.call { callee := Callee.value (Operand.func 85), args := #[Operand.tmp 22], argTypes := #[3] }, type := 3, pos := "wire.go:53", after := #[{ on := 2, ground := Ground.data }], guard := none }) rfl (fun K hK => ?_) AllReady.nil))
        · go_simp
          refine hK _ _ ?_
          clear hK K
          (try simp only [Act.put, List.setIfInBounds_toArray, List.set_cons_zero, List.set_cons_succ])
          refine wpAny_ready (rs := [3]) (by kernel_rfl) (by simp) ?_
          refine (AllReady.cons (o := { dst := some 23, op := Op.call { callee := Callee.value (Operand.func 85), args := #[Operand.tmp 22], argTypes := #[3] }, type := 3, pos := "wire.go:53", after := #[{ on := 2, ground := Ground.data }], guard := none }) rfl (fun K hK => ?_) AllReady.nil)
          go_simp
          refine (width_calls x _).mono ?_
          rintro e w7 ⟨rfl, rfl⟩
          refine hK _ _ ?_
          clear hK K
          (try simp only [Act.put, List.setIfInBounds_toArray, List.set_cons_zero, List.set_cons_succ])
          refine wpAny_ready (rs := [4]) (by kernel_rfl) (by simp) ?_
          refine (AllReady.cons (o := { dst := some 24, op := Op.call { callee := Callee.value (Operand.func 88), args := #[Operand.tmp 21, Operand.tmp 23], argTypes := #[144, 3] }, type := 24, pos := "wire.go:53", after := #[{ on := 1, ground := Ground.data }, { on := 3, ground := Ground.data }, { on := 3, ground := Ground.chain }], guard := none }) rfl (fun K hK => ?_) AllReady.nil)
          go_simp
          refine (number_next w _ (gl + 1 + 1 + 1) A1 n1 c1 b1 (wd x) HD.out.rd (by have := HSH.out; have := HB1.out; omega) hw8.2 hc1).mono ?_
          rintro e w8 ⟨rfl, ⟨A2, c2, hc2, hrd⟩, hg8⟩
          have HT8 := Aside0.mk (HD.out.num hrd hg8)
          have hs8 : wr.heap.size ≤ w8.heap.size := hg8.size
          have z0 : w8.cell? ⟨gl, 0, none⟩ = some (.slice Al nl cl) := HT8.out.bl.cell
          clear hrd hg8
          refine hK _ _ ?_
          clear hK K
          (try simp only [Act.put, List.setIfInBounds_toArray, List.set_cons_zero, List.set_cons_succ])
          refine wpAny_ready (rs := [5]) (by kernel_rfl) (by simp) ?_
          refine (AllReady.cons (o := { dst := some 25, op := Op.buildSlice 92 1 #[(0, Operand.tmp 24)], type := 92, pos := "wire.go:53", after := #[{ on := 4, ground := Ground.data }], guard := none }) rfl (fun K hK => ?_) AllReady.nil)
          go_simp
          refine hK _ _ ?_
          clear hK K
          (try simp only [Act.put, List.setIfInBounds_toArray, List.set_cons_zero, List.set_cons_succ])
          refine wpAny_ready (rs := [6]) (by kernel_rfl) (by simp) ?_
          refine (AllReady.cons (o := { dst := some 26, op := Op.call { callee := Callee.builtin Builtin.append, args := #[Operand.tmp 20, Operand.tmp 25], argTypes := #[92, 92] }, type := 92, pos := "wire.go:53", after := #[{ on := 0, ground := Ground.data }, { on := 5, ground := Ground.data }, { on := 4, ground := Ground.chain }], guard := none }) rfl (fun K hK => ?_) AllReady.nil)
          refine app_u64_step w.heap.size (.tmp 20) (.tmp 25) (by rfl) rfl _ l (un (b1.take (wd x))) (wf_un _ (by rw [List.length_take]; omega)) rfl (by simp [Act.eval]) HT8.out.row (by omega) HNL.out ?_
          intro v9 w9 hR9 hg9
          obtain ⟨A9, n9, c9, rfl⟩ := ownU_open hR9
          have HT9 := Aside0.mk (HT8.out.put hR9 hg9)
          have z9 : w9.cell? ⟨gl, 0, none⟩ = some (.slice Al nl cl) := (HT8.out.bl.kept hg9 (Kd.R_ne HT8.out.row (show w8.heap[gl]? = _ from HT8.out.bl) (by decide))).cell
          have zf9 : w9.frozen? ⟨gl, 0, none⟩ = false := (HT8.out.bl.kept hg9 (Kd.R_ne HT8.out.row (show w8.heap[gl]? = _ from HT8.out.bl) (by decide))).frozen
          clear hR9 hg9
          refine hK _ _ ?_
          clear hK K
          (try simp only [Act.put, List.setIfInBounds_toArray, List.set_cons_zero, List.set_cons_succ])
          refine wpAny_ready (rs := [7]) (by kernel_rfl) (by simp) ?_
          refine (AllReady.cons (o := { dst := none, op := Op.store 92 (Operand.tmp 4) (Operand.tmp 26), type := 0, pos := "wire.go:53", after := #[{ on := 6, ground := Ground.data }, { on := 6, ground := Ground.chain }, { on := 0, ground := Ground.phase }, { on := 1, ground := Ground.phase }, { on := 2, ground := Ground.phase }, { on := 3, ground := Ground.phase }, { on := 4, ground := Ground.phase }, { on := 5, ground := Ground.phase }, { on := 6, ground := Ground.phase }], guard := none }) rfl (fun K hK => ?_) AllReady.nil)
          go_simp
          refine hK _ _ ?_
          clear hK K
          (try simp only [Act.put, List.setIfInBounds_toArray, List.set_cons_zero, List.set_cons_succ])
          refine wpAny_done (by kernel_rfl) ?_ _
          go_wp2
          go_roundg (gk - 1)
          case measure => have := HK.out; omega
          case rel => exact ⟨i + 1, _, l ++ [un (b1.take (wd x))], A2, n1 - wd x, c2, b1.drop (wd x), by congr 1, by omega, by omega, hc2, by rw [List.length_append]; have := HL1.out; simp; omega, ⟨by have := HK.out; omega⟩, ⟨by rw [List.length_append, HL1.out]; rfl⟩, HT9, ⟨by rw [← HTM.out]; exact HP.out⟩⟩
        · go_simp
          refine (width_calls x _).mono ?_
          rintro e w7 ⟨rfl, rfl⟩
          refine hK _ _ ?_
          clear hK K
          (try simp only [Act.put, List.setIfInBounds_toArray, List.set_cons_zero, List.set_cons_succ])
          refine wpAny_ready (rs := [0, 4]) (by kernel_rfl) (by simp) ?_
          refine (AllReady.cons (o := { dst := some 20, op := Op.load 92 (Operand.tmp 4), type := 92, pos := "wire.go:53", after := #[], guard := none }) rfl (fun K hK => ?_) (AllReady.cons (o := { dst := some 24, op := Op.call { callee := Callee.value (Operand.func 88), args := #[Operand.tmp 21, Operand.tmp 23], argTypes := #[144, 3] }, type := 24, pos := "wire.go:53", after := #[{ on := 1, ground := Ground.data }, { on := 3, ground := Ground.data }, { on := 3, ground := Ground.chain }], guard := none }) rfl (fun K hK => ?_) AllReady.nil))
          · go_simp
            refine hK _ _ ?_
            clear hK K
            (try simp only [Act.put, List.setIfInBounds_toArray, List.set_cons_zero, List.set_cons_succ])
            refine wpAny_ready (rs := [4]) (by kernel_rfl) (by simp) ?_
            refine (AllReady.cons (o := { dst := some 24, op := Op.call { callee := Callee.value (Operand.func 88), args := #[Operand.tmp 21, Operand.tmp 23], argTypes := #[144, 3] }, type := 24, pos := "wire.go:53", after := #[{ on := 1, ground := Ground.data }, { on := 3, ground := Ground.data }, { on := 3, ground := Ground.chain }], guard := none }) rfl (fun K hK => ?_) AllReady.nil)
            go_simp
            refine (number_next w _ (gl + 1 + 1 + 1) A1 n1 c1 b1 (wd x) HD.out.rd (by have := HSH.out; have := HB1.out; omega) hw8.2 hc1).mono ?_
            rintro e w8 ⟨rfl, ⟨A2, c2, hc2, hrd⟩, hg8⟩
            have HT8 := Aside0.mk (HD.out.num hrd hg8)
            have hs8 : wr.heap.size ≤ w8.heap.size := hg8.size
            have z0 : w8.cell? ⟨gl, 0, none⟩ = some (.slice Al nl cl) := HT8.out.bl.cell
            clear hrd hg8
            refine hK _ _ ?_
            clear hK K
            (try simp only [Act.put, List.setIfInBounds_toArray, List.set_cons_zero, List.set_cons_succ])
            refine wpAny_ready (rs := [5]) (by kernel_rfl) (by simp) ?_
            refine (AllReady.cons (o := { dst := some 25, op := Op.buildSlice 92 1 #[(0, Operand.tmp 24)], type := 92, pos := "wire.go:53", after := #[{ on := 4, ground := Ground.data }], guard := none }) rfl (fun K hK => ?_) AllReady.nil)
            go_simp
            refine hK _ _ ?_
            clear hK K
            (try simp only [Act.put, List.setIfInBounds_toArray, List.set_cons_zero, List.set_cons_succ])
            refine wpAny_ready (rs := [6]) (by kernel_rfl) (by simp) ?_
            refine (AllReady.cons (o := { dst := some 26, op := Op.call { callee := Callee.builtin Builtin.append, args := #[Operand.tmp 20, Operand.tmp 25], argTypes := #[92, 92] }, type := 92, pos := "wire.go:53", after := #[{ on := 0, ground := Ground.data }, { on := 5, ground := Ground.data }, { on := 4, ground := Ground.chain }], guard := none }) rfl (fun K hK => ?_) AllReady.nil)
            refine app_u64_step w.heap.size (.tmp 20) (.tmp 25) (by rfl) rfl _ l (un (b1.take (wd x))) (wf_un _ (by rw [List.length_take]; omega)) rfl (by simp [Act.eval]) HT8.out.row (by omega) HNL.out ?_
            intro v9 w9 hR9 hg9
            obtain ⟨A9, n9, c9, rfl⟩ := ownU_open hR9
            have HT9 := Aside0.mk (HT8.out.put hR9 hg9)
            have z9 : w9.cell? ⟨gl, 0, none⟩ = some (.slice Al nl cl) := (HT8.out.bl.kept hg9 (Kd.R_ne HT8.out.row (show w8.heap[gl]? = _ from HT8.out.bl) (by decide))).cell
            have zf9 : w9.frozen? ⟨gl, 0, none⟩ = false := (HT8.out.bl.kept hg9 (Kd.R_ne HT8.out.row (show w8.heap[gl]? = _ from HT8.out.bl) (by decide))).frozen
            clear hR9 hg9
            refine hK _ _ ?_
            clear hK K
            (try simp only [Act.put, List.setIfInBounds_toArray, List.set_cons_zero, List.set_cons_succ])
            refine wpAny_ready (rs := [7]) (by kernel_rfl) (by simp) ?_
            refine (AllReady.cons (o := { dst := none, op := Op.store 92 (Operand.tmp 4) (Operand.tmp 26), type := 0, pos := "wire.go:53", after := #[{ on := 6, ground := Ground.data }, { on := 6, ground := Ground.chain }, { on := 0, ground := Ground.phase }, { on := 1, ground := Ground.phase }, { on := 2, ground := Ground.phase }, { on := 3, ground := Ground.phase }, { on := 4, ground := Ground.phase }, { on := 5, ground := Ground.phase }, { on := 6, ground := Ground.phase }], guard := none }) rfl (fun K hK => ?_) AllReady.nil)
            go_simp
            refine hK _ _ ?_
            clear hK K
            (try simp only [Act.put, List.setIfInBounds_toArray, List.set_cons_zero, List.set_cons_succ])
            refine wpAny_done (by kernel_rfl) ?_ _
            go_wp2
            go_roundg (gk - 1)
            case measure => have := HK.out; omega
            case rel => exact ⟨i + 1, _, l ++ [un (b1.take (wd x))], A2, n1 - wd x, c2, b1.drop (wd x), by congr 1, by omega, by omega, hc2, by rw [List.length_append]; have := HL1.out; simp; omega, ⟨by have := HK.out; omega⟩, ⟨by rw [List.length_append, HL1.out]; rfl⟩, HT9, ⟨by rw [← HTM.out]; exact HP.out⟩⟩
          · go_simp
            refine (number_next w _ (gl + 1 + 1 + 1) A1 n1 c1 b1 (wd x) HD.out.rd (by have := HSH.out; have := HB1.out; omega) hw8.2 hc1).mono ?_
            rintro e w8 ⟨rfl, ⟨A2, c2, hc2, hrd⟩, hg8⟩
            have HT8 := Aside0.mk (HD.out.num hrd hg8)
            have hs8 : wr.heap.size ≤ w8.heap.size := hg8.size
            have z0 : w8.cell? ⟨gl, 0, none⟩ = some (.slice Al nl cl) := HT8.out.bl.cell
            clear hrd hg8
            refine hK _ _ ?_
            clear hK K
            (try simp only [Act.put, List.setIfInBounds_toArray, List.set_cons_zero, List.set_cons_succ])
            refine wpAny_ready (rs := [0, 5]) (by kernel_rfl) (by simp) ?_
            refine (AllReady.cons (o := { dst := some 20, op := Op.load 92 (Operand.tmp 4), type := 92, pos := "wire.go:53", after := #[], guard := none }) rfl (fun K hK => ?_) (AllReady.cons (o := { dst := some 25, op := Op.buildSlice 92 1 #[(0, Operand.tmp 24)], type := 92, pos := "wire.go:53", after := #[{ on := 4, ground := Ground.data }], guard := none }) rfl (fun K hK => ?_) AllReady.nil))
            · go_simp
              refine hK _ _ ?_
              clear hK K
              (try simp only [Act.put, List.setIfInBounds_toArray, List.set_cons_zero, List.set_cons_succ])
              refine wpAny_ready (rs := [5]) (by kernel_rfl) (by simp) ?_
              refine (AllReady.cons (o := { dst := some 25, op := Op.buildSlice 92 1 #[(0, Operand.tmp 24)], type := 92, pos := "wire.go:53", after := #[{ on := 4, ground := Ground.data }], guard := none }) rfl (fun K hK => ?_) AllReady.nil)
              go_simp
              refine hK _ _ ?_
              clear hK K
              (try simp only [Act.put, List.setIfInBounds_toArray, List.set_cons_zero, List.set_cons_succ])
              refine wpAny_ready (rs := [6]) (by kernel_rfl) (by simp) ?_
              refine (AllReady.cons (o := { dst := some 26, op := Op.call { callee := Callee.builtin Builtin.append, args := #[Operand.tmp 20, Operand.tmp 25], argTypes := #[92, 92] }, type := 92, pos := "wire.go:53", after := #[{ on := 0, ground := Ground.data }, { on := 5, ground := Ground.data }, { on := 4, ground := Ground.chain }], guard := none }) rfl (fun K hK => ?_) AllReady.nil)
              refine app_u64_step w.heap.size (.tmp 20) (.tmp 25) (by rfl) rfl _ l (un (b1.take (wd x))) (wf_un _ (by rw [List.length_take]; omega)) rfl (by simp [Act.eval]) HT8.out.row (by omega) HNL.out ?_
              intro v9 w9 hR9 hg9
              obtain ⟨A9, n9, c9, rfl⟩ := ownU_open hR9
              have HT9 := Aside0.mk (HT8.out.put hR9 hg9)
              have z9 : w9.cell? ⟨gl, 0, none⟩ = some (.slice Al nl cl) := (HT8.out.bl.kept hg9 (Kd.R_ne HT8.out.row (show w8.heap[gl]? = _ from HT8.out.bl) (by decide))).cell
              have zf9 : w9.frozen? ⟨gl, 0, none⟩ = false := (HT8.out.bl.kept hg9 (Kd.R_ne HT8.out.row (show w8.heap[gl]? = _ from HT8.out.bl) (by decide))).frozen
              clear hR9 hg9
              refine hK _ _ ?_
              clear hK K
              (try simp only [Act.put, List.setIfInBounds_toArray, List.set_cons_zero, List.set_cons_succ])
              refine wpAny_ready (rs := [7]) (by kernel_rfl) (by simp) ?_
              refine (AllReady.cons (o := { dst := none, op := Op.store 92 (Operand.tmp 4) (Operand.tmp 26), type := 0, pos := "wire.go:53", after := #[{ on := 6, ground := Ground.data }, { on := 6, ground := Ground.chain }, { on := 0, ground := Ground.phase }, { on := 1, ground := Ground.phase }, { on := 2, ground := Ground.phase }, { on := 3, ground := Ground.phase }, { on := 4, ground := Ground.phase }, { on := 5, ground := Ground.phase }, { on := 6, ground := Ground.phase }], guard := none }) rfl (fun K hK => ?_) AllReady.nil)
              go_simp
              refine hK _ _ ?_
              clear hK K
              (try simp only [Act.put, List.setIfInBounds_toArray, List.set_cons_zero, List.set_cons_succ])
              refine wpAny_done (by kernel_rfl) ?_ _
              go_wp2
              go_roundg (gk - 1)
              case measure => have := HK.out; omega
              case rel => exact ⟨i + 1, _, l ++ [un (b1.take (wd x))], A2, n1 - wd x, c2, b1.drop (wd x), by congr 1, by omega, by omega, hc2, by rw [List.length_append]; have := HL1.out; simp; omega, ⟨by have := HK.out; omega⟩, ⟨by rw [List.length_append, HL1.out]; rfl⟩, HT9, ⟨by rw [← HTM.out]; exact HP.out⟩⟩
            · go_simp
              refine hK _ _ ?_
              clear hK K
              (try simp only [Act.put, List.setIfInBounds_toArray, List.set_cons_zero, List.set_cons_succ])
              have z0 := pw_cell_below (alloc_below w8 (.cells #[.int .u64 ((un (b1.take (wd x)) : Nat) : Int)] 24)) z0
              refine wpAny_ready (rs := [0]) (by kernel_rfl) (by simp) ?_
              refine (AllReady.cons (o := { dst := some 20, op := Op.load 92 (Operand.tmp 4), type := 92, pos := "wire.go:53", after := #[], guard := none }) rfl (fun K hK => ?_) AllReady.nil)
              go_simp
              refine hK _ _ ?_
              clear hK K
              (try simp only [Act.put, List.setIfInBounds_toArray, List.set_cons_zero, List.set_cons_succ])
              refine wpAny_ready (rs := [6]) (by kernel_rfl) (by simp) ?_
              refine (AllReady.cons (o := { dst := some 26, op := Op.call { callee := Callee.builtin Builtin.append, args := #[Operand.tmp 20, Operand.tmp 25], argTypes := #[92, 92] }, type := 92, pos := "wire.go:53", after := #[{ on := 0, ground := Ground.data }, { on := 5, ground := Ground.data }, { on := 4, ground := Ground.chain }], guard := none }) rfl (fun K hK => ?_) AllReady.nil)
              refine app_u64_step w.heap.size (.tmp 20) (.tmp 25) (by rfl) rfl _ l (un (b1.take (wd x))) (wf_un _ (by rw [List.length_take]; omega)) rfl (by simp [Act.eval]) HT8.out.row (by omega) HNL.out ?_
              intro v9 w9 hR9 hg9
              obtain ⟨A9, n9, c9, rfl⟩ := ownU_open hR9
              have HT9 := Aside0.mk (HT8.out.put hR9 hg9)
              have z9 : w9.cell? ⟨gl, 0, none⟩ = some (.slice Al nl cl) := (HT8.out.bl.kept hg9 (Kd.R_ne HT8.out.row (show w8.heap[gl]? = _ from HT8.out.bl) (by decide))).cell
              have zf9 : w9.frozen? ⟨gl, 0, none⟩ = false := (HT8.out.bl.kept hg9 (Kd.R_ne HT8.out.row (show w8.heap[gl]? = _ from HT8.out.bl) (by decide))).frozen
              clear hR9 hg9
              refine hK _ _ ?_
              clear hK K
              (try simp only [Act.put, List.setIfInBounds_toArray, List.set_cons_zero, List.set_cons_succ])
              refine wpAny_ready (rs := [7]) (by kernel_rfl) (by simp) ?_
              refine (AllReady.cons (o := { dst := none, op := Op.store 92 (Operand.tmp 4) (Operand.tmp 26), type := 0, pos := "wire.go:53", after := #[{ on := 6, ground := Ground.data }, { on := 6, ground := Ground.chain }, { on := 0, ground := Ground.phase }, { on := 1, ground := Ground.phase }, { on := 2, ground := Ground.phase }, { on := 3, ground := Ground.phase }, { on := 4, ground := Ground.phase }, { on := 5, ground := Ground.phase }, { on := 6, ground := Ground.phase }], guard := none }) rfl (fun K hK => ?_) AllReady.nil)
              go_simp
              refine hK _ _ ?_
              clear hK K
              (try simp only [Act.put, List.setIfInBounds_toArray, List.set_cons_zero, List.set_cons_succ])
              refine wpAny_done (by kernel_rfl) ?_ _
              go_wp2
              go_roundg (gk - 1)
              case measure => have := HK.out; omega
              case rel => exact ⟨i + 1, _, l ++ [un (b1.take (wd x))], A2, n1 - wd x, c2, b1.drop (wd x), by congr 1, by omega, by omega, hc2, by rw [List.length_append]; have := HL1.out; simp; omega, ⟨by have := HK.out; omega⟩, ⟨by rw [List.length_append, HL1.out]; rfl⟩, HT9, ⟨by rw [← HTM.out]; exact HP.out⟩⟩
    · obtain rfl : i = m := by omega
      obtain ⟨Al, nl, cl, rfl⟩ := ownU_open HR.out.row
      have hd0 : decide ((i : Int) < (i : Int)) = false := decide_eq_false (by omega)
      go_wp2
      have HRes := Aside0.mk (show take b ws = some (l, b1) by
        have h1 := HP.out
        rw [List.drop_of_length_le (by rw [HWL.out]; omega)] at h1
        rw [← h1]
        simp [take])
      have HD := Aside0.mk (HR.out.below (below_drew (Below.refl _ _)))
      have hbw : w.heap.size ≤ wr.heap.size := HR.out.rd.bel.size
      have z0 : wr.cell? ⟨gl, 0, none⟩ = some (.slice Al nl cl) := HR.out.bl.cell
      have zr : wr.cell? ⟨gl + 1 + 1 + 1, 0, none⟩ = some (.slice A1 n1 c1) := HR.out.rd.blk.cell
      have hglw : gl < wr.heap.size := (Array.getElem?_eq_some_iff.1 (show wr.heap[gl]? = _ from HR.out.bl)).1
      have HGW := Aside0.mk hglw
      clear hglw
      refine wp_region_any (by kernel_rfl) ?_
      rw [show ({ wr with drawn := wr.drawn + 1 } : World) = wr.drew from rfl]
      refine wpAny_take (i := 1) (oi := { dst := some 29, op := Op.move (Operand.tmp 7), type := 144, pos := "wire.go:55", after := #[], guard := none }) (v := ?_) rfl (by kernel_rfl) (by kernel_rfl) (by kernel_rfl) (fun _ _ _ h => take_put (by omega) h) (Or.inl ⟨by rfl, ?_⟩) ?_
      rotate_left
      · (intro w; go_simp; (try with_reducible rfl))
      (try simp only [Act.put, List.setIfInBounds_toArray, List.set_cons_zero, List.set_cons_succ])
      refine wpAny_take (i := 2) (oi := { dst := some 30, op := Op.nilCheck (Operand.tmp 29), type := 0, pos := "wire.go:55", after := #[{ on := 1, ground := Ground.data }], guard := none }) (v := ?_) rfl (by kernel_rfl) (by kernel_rfl) (by kernel_rfl) (fun _ _ _ h => take_put (by omega) h) (Or.inl ⟨by rfl, ?_⟩) ?_
      rotate_left
      · (intro w; go_simp; (try with_reducible rfl))
      (try simp only [Act.put, List.setIfInBounds_toArray, List.set_cons_zero, List.set_cons_succ])
      refine wpAny_take (i := 3) (oi := { dst := some 31, op := Op.fieldAddr 146 (Operand.tmp 30) 0, type := 0, pos := "wire.go:55", after := #[{ on := 2, ground := Ground.data }], guard := none }) (v := ?_) rfl (by kernel_rfl) (by kernel_rfl) (by kernel_rfl) (fun _ _ _ h => take_put (by omega) h) (Or.inl ⟨by rfl, ?_⟩) ?_
      rotate_left
      · (intro w; go_simp; (try with_reducible rfl))
      (try simp only [Act.put, List.setIfInBounds_toArray, List.set_cons_zero, List.set_cons_succ])
      refine wpAny_ready (rs := [0, 4]) (by kernel_rfl) (by simp) ?_
      refine (AllReady.cons (o := { dst := some 28, op := Op.load 92 (Operand.tmp 4), type := 92, pos := "wire.go:55", after := #[], guard := none }) rfl (fun K hK => ?_) (AllReady.cons (o := { dst := some 32, op := Op.load 39 (Operand.tmp 31), type := 39, pos := "wire.go:55", after := #[{ on := 3, ground := Ground.data }], guard := none }) rfl (fun K hK => ?_) AllReady.nil))
      · go_simp
        refine hK _ _ ?_
        clear hK K
        (try simp only [Act.put, List.setIfInBounds_toArray, List.set_cons_zero, List.set_cons_succ])
        refine wpAny_ready (rs := [4]) (by kernel_rfl) (by simp) ?_
        refine (AllReady.cons (o := { dst := some 32, op := Op.load 39 (Operand.tmp 31), type := 39, pos := "wire.go:55", after := #[{ on := 3, ground := Ground.data }], guard := none }) rfl (fun K hK => ?_) AllReady.nil)
        go_simp
        refine hK _ _ ?_
        clear hK K
        (try simp only [Act.put, List.setIfInBounds_toArray, List.set_cons_zero, List.set_cons_succ])
        refine wpAny_ready (rs := [5]) (by kernel_rfl) (by simp) ?_
        refine (AllReady.cons (o := { dst := some 33, op := Op.call { callee := Callee.value (Operand.func 64), args := #[Operand.tmp 32], argTypes := #[39] }, type := 39, pos := "wire.go:55", after := #[{ on := 4, ground := Ground.data }], guard := none }) rfl (fun K hK => ?_) AllReady.nil)
        go_simp
        refine (clone_calls A1 n1 c1 b1 (by omega) _ (Kd.C_below HD.out.rd.byt HD.out.rd.bel)).mono ?_
        rintro e w8 ⟨v8, rfl, hO8, hb8⟩
        obtain ⟨A8, n8, c8, rfl, -, -⟩ := hO8.reads
        have HT8 := Aside0.mk (HD.out.below hb8)
        have HO8 := Aside0.mk hO8
        have z0 : w8.cell? ⟨gl, 0, none⟩ = some (.slice Al nl cl) := HT8.out.bl.cell
        clear hO8 hb8
        refine hK _ _ ?_
        clear hK K
        (try simp only [Act.put, List.setIfInBounds_toArray, List.set_cons_zero, List.set_cons_succ])
        refine wpAny_ready (rs := [6]) (by kernel_rfl) (by simp) ?_
        refine (AllReady.cons (o := { dst := none, op := Op.store 92 (Operand.tmp 4) (Operand.tmp 28), type := 0, pos := "wire.go:55", after := #[{ on := 0, ground := Ground.data }, { on := 5, ground := Ground.chain }, { on := 0, ground := Ground.phase }, { on := 1, ground := Ground.textOnly Departure.lateStoresUnsure }, { on := 2, ground := Ground.textOnly Departure.lateStoresUnsure }, { on := 3, ground := Ground.textOnly Departure.lateStoresUnsure }, { on := 4, ground := Ground.textOnly Departure.lateStoresUnsure }, { on := 5, ground := Ground.textOnly Departure.lateStoresUnsure }], guard := none }) rfl (fun K hK => ?_) AllReady.nil)
        have zf0 : w8.frozen? ⟨gl, 0, none⟩ = false := HT8.out.bl.frozen
        go_simp
        refine hK _ _ ?_
        clear hK K
        (try simp only [Act.put, List.setIfInBounds_toArray, List.set_cons_zero, List.set_cons_succ])
        refine wpAny_ready (rs := [7]) (by kernel_rfl) (by simp) ?_
        refine (AllReady.cons (o := { dst := none, op := Op.store 39 (Operand.tmp 5) (Operand.tmp 33), type := 0, pos := "wire.go:55", after := #[{ on := 5, ground := Ground.data }, { on := 6, ground := Ground.chain }, { on := 0, ground := Ground.phase }, { on := 1, ground := Ground.phase }, { on := 2, ground := Ground.phase }, { on := 3, ground := Ground.phase }, { on := 4, ground := Ground.phase }, { on := 5, ground := Ground.phase }, { on := 6, ground := Ground.phase }], guard := none }) rfl (fun K hK => ?_) AllReady.nil)
        have HU := Aside0.mk (last_u HT8.out)
        have z1 := HU.out.1.cell
        have zf1 := HU.out.1.frozen
        go_simp
        refine hK _ _ ?_
        clear hK K
        (try simp only [Act.put, List.setIfInBounds_toArray, List.set_cons_zero, List.set_cons_succ])
        refine wpAny_ready (rs := [8]) (by kernel_rfl) (by simp) ?_
        refine (AllReady.cons (o := { dst := none, op := Op.store 4 (Operand.tmp 6) (Operand.const (Value.bool true)), type := 0, pos := "wire.go:55", after := #[{ on := 7, ground := Ground.chain }, { on := 0, ground := Ground.phase }, { on := 1, ground := Ground.phase }, { on := 2, ground := Ground.phase }, { on := 3, ground := Ground.phase }, { on := 4, ground := Ground.phase }, { on := 5, ground := Ground.phase }, { on := 6, ground := Ground.phase }, { on := 7, ground := Ground.phase }], guard := none }) rfl (fun K hK => ?_) AllReady.nil)
        have HU2 := Aside0.mk (last_u2 HT8.out (.slice A8 n8 c8))
        have z2 := HU2.out.cell
        have zf2 := HU2.out.frozen
        go_simp
        refine hK _ _ ?_
        clear hK K
        (try simp only [Act.put, List.setIfInBounds_toArray, List.set_cons_zero, List.set_cons_succ])
        refine wpAny_done (by kernel_rfl) ?_ _
        go_wp2
        exact door_ret w w8 _ gl _ l A1 n1 c1 b1 b1 _ HT8.out (own_lower HO8.out hbw) HRes.out _ rfl rfl rfl
      · go_simp
        refine hK _ _ ?_
        clear hK K
        (try simp only [Act.put, List.setIfInBounds_toArray, List.set_cons_zero, List.set_cons_succ])
        refine wpAny_ready (rs := [0, 5]) (by kernel_rfl) (by simp) ?_
        refine (AllReady.cons (o := { dst := some 28, op := Op.load 92 (Operand.tmp 4), type := 92, pos := "wire.go:55", after := #[], guard := none }) rfl (fun K hK => ?_) (AllReady.cons (o := { dst := some 33, op := Op.call { callee := Callee.value (Operand.func 64), args := #[Operand.tmp 32], argTypes := #[39] }, type := 39, pos := "wire.go:55", after := #[{ on := 4, ground := Ground.data }], guard := none }) rfl (fun K hK => ?_) AllReady.nil))
        · go_simp
          refine hK _ _ ?_
          clear hK K
          (try simp only [Act.put, List.setIfInBounds_toArray, List.set_cons_zero, List.set_cons_succ])
          refine wpAny_ready (rs := [5]) (by kernel_rfl) (by simp) ?_
          refine (AllReady.cons (o := { dst := some 33, op := Op.call { callee := Callee.value (Operand.func 64), args := #[Operand.tmp 32], argTypes := #[39] }, type := 39, pos := "wire.go:55", after := #[{ on := 4, ground := Ground.data }], guard := none }) rfl (fun K hK => ?_) AllReady.nil)
          go_simp
          refine (clone_calls A1 n1 c1 b1 (by omega) _ (Kd.C_below HD.out.rd.byt HD.out.rd.bel)).mono ?_
          rintro e w8 ⟨v8, rfl, hO8, hb8⟩
          obtain ⟨A8, n8, c8, rfl, -, -⟩ := hO8.reads
          have HT8 := Aside0.mk (HD.out.below hb8)
          have HO8 := Aside0.mk hO8
          have z0 : w8.cell? ⟨gl, 0, none⟩ = some (.slice Al nl cl) := HT8.out.bl.cell
          clear hO8 hb8
          refine hK _ _ ?_
          clear hK K
          (try simp only [Act.put, List.setIfInBounds_toArray, List.set_cons_zero, List.set_cons_succ])
          refine wpAny_ready (rs := [6]) (by kernel_rfl) (by simp) ?_
          refine (AllReady.cons (o := { dst := none, op := Op.store 92 (Operand.tmp 4) (Operand.tmp 28), type := 0, pos := "wire.go:55", after := #[{ on := 0, ground := Ground.data }, { on := 5, ground := Ground.chain }, { on := 0, ground := Ground.phase }, { on := 1, ground := Ground.textOnly Departure.lateStoresUnsure }, { on := 2, ground := Ground.textOnly Departure.lateStoresUnsure }, { on := 3, ground := Ground.textOnly Departure.lateStoresUnsure }, { on := 4, ground := Ground.textOnly Departure.lateStoresUnsure }, { on := 5, ground := Ground.textOnly Departure.lateStoresUnsure }], guard := none }) rfl (fun K hK => ?_) AllReady.nil)
          have zf0 : w8.frozen? ⟨gl, 0, none⟩ = false := HT8.out.bl.frozen
          go_simp
          refine hK _ _ ?_
          clear hK K
          (try simp only [Act.put, List.setIfInBounds_toArray, List.set_cons_zero, List.set_cons_succ])
          refine wpAny_ready (rs := [7]) (by kernel_rfl) (by simp) ?_
          refine (AllReady.cons (o := { dst := none, op := Op.store 39 (Operand.tmp 5) (Operand.tmp 33), type := 0, pos := "wire.go:55", after := #[{ on := 5, ground := Ground.data }, { on := 6, ground := Ground.chain }, { on := 0, ground := Ground.phase }, { on := 1, ground := Ground.phase }, { on := 2, ground := Ground.phase }, { on := 3, ground := Ground.phase }, { on := 4, ground := Ground.phase }, { on := 5, ground := Ground.phase }, { on := 6, ground := Ground.phase }], guard := none }) rfl (fun K hK => ?_) AllReady.nil)
          have HU := Aside0.mk (last_u HT8.out)
          have z1 := HU.out.1.cell
          have zf1 := HU.out.1.frozen
          go_simp
          refine hK _ _ ?_
          clear hK K
          (try simp only [Act.put, List.setIfInBounds_toArray, List.set_cons_zero, List.set_cons_succ])
          refine wpAny_ready (rs := [8]) (by kernel_rfl) (by simp) ?_
          refine (AllReady.cons (o := { dst := none, op := Op.store 4 (Operand.tmp 6) (Operand.const (Value.bool true)), type := 0, pos := "wire.go:55", after := #[{ on := 7, ground := Ground.chain }, { on := 0, ground := Ground.phase }, { on := 1, ground := Ground.phase }, { on := 2, ground := Ground.phase }, { on := 3, ground := Ground.phase }, { on := 4, ground := Ground.phase }, { on := 5, ground := Ground.phase }, { on := 6, ground := Ground.phase }, { on := 7, ground := Ground.phase }], guard := none }) rfl (fun K hK => ?_) AllReady.nil)
          have HU2 := Aside0.mk (last_u2 HT8.out (.slice A8 n8 c8))
          have z2 := HU2.out.cell
          have zf2 := HU2.out.frozen
          go_simp
          refine hK _ _ ?_
          clear hK K
          (try simp only [Act.put, List.setIfInBounds_toArray, List.set_cons_zero, List.set_cons_succ])
          refine wpAny_done (by kernel_rfl) ?_ _
          go_wp2
          exact door_ret w w8 _ gl _ l A1 n1 c1 b1 b1 _ HT8.out (own_lower HO8.out hbw) HRes.out _ rfl rfl rfl
        · go_simp
          refine (clone_calls A1 n1 c1 b1 (by omega) _ (Kd.C_below HD.out.rd.byt HD.out.rd.bel)).mono ?_
          rintro e w8 ⟨v8, rfl, hO8, hb8⟩
          obtain ⟨A8, n8, c8, rfl, -, -⟩ := hO8.reads
          have HT8 := Aside0.mk (HD.out.below hb8)
          have HO8 := Aside0.mk hO8
          have z0 : w8.cell? ⟨gl, 0, none⟩ = some (.slice Al nl cl) := HT8.out.bl.cell
          clear hO8 hb8
          refine hK _ _ ?_
          clear hK K
          (try simp only [Act.put, List.setIfInBounds_toArray, List.set_cons_zero, List.set_cons_succ])
          refine wpAny_ready (rs := [0]) (by kernel_rfl) (by simp) ?_
          refine (AllReady.cons (o := { dst := some 28, op := Op.load 92 (Operand.tmp 4), type := 92, pos := "wire.go:55", after := #[], guard := none }) rfl (fun K hK => ?_) AllReady.nil)
          go_simp
          refine hK _ _ ?_
          clear hK K
          (try simp only [Act.put, List.setIfInBounds_toArray, List.set_cons_zero, List.set_cons_succ])
          refine wpAny_ready (rs := [6]) (by kernel_rfl) (by simp) ?_
          refine (AllReady.cons (o := { dst := none, op := Op.store 92 (Operand.tmp 4) (Operand.tmp 28), type := 0, pos := "wire.go:55", after := #[{ on := 0, ground := Ground.data }, { on := 5, ground := Ground.chain }, { on := 0, ground := Ground.phase }, { on := 1, ground := Ground.textOnly Departure.lateStoresUnsure }, { on := 2, ground := Ground.textOnly Departure.lateStoresUnsure }, { on := 3, ground := Ground.textOnly Departure.lateStoresUnsure }, { on := 4, ground := Ground.textOnly Departure.lateStoresUnsure }, { on := 5, ground := Ground.textOnly Departure.lateStoresUnsure }], guard := none }) rfl (fun K hK => ?_) AllReady.nil)
          have zf0 : w8.frozen? ⟨gl, 0, none⟩ = false := HT8.out.bl.frozen
          go_simp
          refine hK _ _ ?_
          clear hK K
          (try simp only [Act.put, List.setIfInBounds_toArray, List.set_cons_zero, List.set_cons_succ])
          refine wpAny_ready (rs := [7]) (by kernel_rfl) (by simp) ?_
          refine (AllReady.cons (o := { dst := none, op := Op.store 39 (Operand.tmp 5) (Operand.tmp 33), type := 0, pos := "wire.go:55", after := #[{ on := 5, ground := Ground.data }, { on := 6, ground := Ground.chain }, { on := 0, ground := Ground.phase }, { on := 1, ground := Ground.phase }, { on := 2, ground := Ground.phase }, { on := 3, ground := Ground.phase }, { on := 4, ground := Ground.phase }, { on := 5, ground := Ground.phase }, { on := 6, ground := Ground.phase }], guard := none }) rfl (fun K hK => ?_) AllReady.nil)
          have HU := Aside0.mk (last_u HT8.out)
          have z1 := HU.out.1.cell
          have zf1 := HU.out.1.frozen
          go_simp
          refine hK _ _ ?_
          clear hK K
          (try simp only [Act.put, List.setIfInBounds_toArray, List.set_cons_zero, List.set_cons_succ])
          refine wpAny_ready (rs := [8]) (by kernel_rfl) (by simp) ?_
          refine (AllReady.cons (o := { dst := none, op := Op.store 4 (Operand.tmp 6) (Operand.const (Value.bool true)), type := 0, pos := "wire.go:55", after := #[{ on := 7, ground := Ground.chain }, { on := 0, ground := Ground.phase }, { on := 1, ground := Ground.phase }, { on := 2, ground := Ground.phase }, { on := 3, ground := Ground.phase }, { on := 4, ground := Ground.phase }, { on := 5, ground := Ground.phase }, { on := 6, ground := Ground.phase }, { on := 7, ground := Ground.phase }], guard := none }) rfl (fun K hK => ?_) AllReady.nil)
          have HU2 := Aside0.mk (last_u2 HT8.out (.slice A8 n8 c8))
          have z2 := HU2.out.cell
          have zf2 := HU2.out.frozen
          go_simp
          refine hK _ _ ?_
          clear hK K
          (try simp only [Act.put, List.setIfInBounds_toArray, List.set_cons_zero, List.set_cons_succ])
          refine wpAny_done (by kernel_rfl) ?_ _
          go_wp2
          exact door_ret w w8 _ gl _ l A1 n1 c1 b1 b1 _ HT8.out (own_lower HO8.out hbw) HRes.out _ rfl rfl rfl
theorem take_calls (A : Option Addr) (n c : Nat) (b : List UInt8) (B : Option Addr) (m d : Nat) (ws : List Int) (w : World) (h : byte.C w A n b) (hnc : n ≤ c) (hc : c ≤ 9223372036854775807) (hn : n ≤ 100000000) (hw : (num .i64).C w B m ws) (hm : m ≤ 1000) :
    Calls Try.prog 74 #[.slice A n c, .slice B m d] w (TakeP w (take b ws)) := take_callsU A n c b B m d ws w h hnc hn hw hm
end Go.Proofs.Ytkmeipblgdahoaa.Rc

/- Words for what Take is used for: rows as the walk reads them; how long what is taken is. -/
namespace Go.Proofs.Ytkmeipblgdahoaa.Rc
open Go.RowKit Go.Proofs.YtkmeipblgdahoaaW.PrintWords Go.Proofs.YtkmeipblgdahoaaW.PrintMore Go.Proofs.Ytkmeipblgdahoaa.Base
set_option maxRecDepth 100000
set_option linter.unusedVariables false
set_option linter.unusedSimpArgs false
/-- It panics. -/
def Panics (e : Ending) : Prop := ∃ u pv, e = .panicked [{ v := .iface u pv, recovered := false }]
theorem ownU_cells {w : World} {b : Nat} {v : Value} {xs : List Nat} (h : OwnU w b v xs) (hp : 0 < xs.length) :
    ∃ g c, v = .slice (some ⟨g, 0, none⟩) xs.length c ∧ b ≤ g ∧ g < w.heap.size ∧ ∀ i, i < xs.length → w.cell? ⟨g, i, none⟩ = some (.int .u64 ((xs.getD i 0 : Nat) : Int)) := by
  obtain ⟨g, c, rfl, hb, hg, -⟩ := Kd.R_form h hp
  obtain ⟨A, c', he, -, hC⟩ := Kd.R_reads h
  simp only [Value.slice.injEq] at he
  obtain ⟨rfl, -, rfl⟩ := he
  refine ⟨g, c, rfl, hb, hg, fun i hi => ?_⟩
  obtain ⟨ad, hA, hc, -⟩ := nat_at hC i hi
  injection hA with hA
  subst hA
  rwa [add_plain] at hc
theorem own_form {w : World} {b : Nat} {v : Value} {xs : List UInt8} (h : Base.Own w b v xs) (hp : 0 < xs.length) :
    ∃ g c, v = .slice (some ⟨g, 0, none⟩) xs.length c ∧ b ≤ g ∧ g < w.heap.size ∧ xs.length ≤ c ∧ c ≤ 9223372036854775807 := by
  obtain ⟨g, c, rfl, hb, hg, -⟩ := Kd.R_form h hp
  obtain ⟨A, c', he, hc, hC⟩ := Kd.R_reads h
  simp only [Value.slice.injEq] at he
  obtain ⟨rfl, -, rfl⟩ := he
  exact ⟨g, c, rfl, hb, hg, hc, own_cap h⟩
theorem wrap_u32_in {x : Int} (h0 : 0 ≤ x) (h1 : x < 4294967296) : IntKind.u32.wrap x = x := by
  have e : IntKind.u32.wrap x = x % 4294967296 := by simp [IntKind.wrap, IntKind.signed, IntKind.bits]
  rw [e]; omega
theorem wrap_u16_in {x : Int} (h0 : 0 ≤ x) (h1 : x < 65536) : IntKind.u16.wrap x = x := by
  have e : IntKind.u16.wrap x = x % 65536 := by simp [IntKind.wrap, IntKind.signed, IntKind.bits]
  rw [e]; omega
theorem wrap_u8_in {x : Int} (h0 : 0 ≤ x) (h1 : x < 256) : IntKind.u8.wrap x = x := by
  have e : IntKind.u8.wrap x = x % 256 := by simp [IntKind.wrap, IntKind.signed, IntKind.bits]
  rw [e]; omega
theorem own_capv {w : World} {b : Nat} {A : Option Addr} {n c : Nat} {xs : List UInt8} (h : Base.Own w b (.slice A n c) xs) : c ≤ 9223372036854775807 := by
  obtain ⟨_, hh⟩ := own_typed h
  rcases hh with ⟨he, _⟩ | ⟨g, cap, cur, he, _, _, _, hcm, _, _⟩
  · injection he with _ _ he; omega
  · injection he with _ _ he; simp only [maxLen] at hcm; omega
theorem blk_old {W W' : World} {o : Obj} {k : Nat} (hb : Below W.heap.size W W') (h : W.heap[k]? = some o) : W'.heap[k]? = some o := (hb.block k (Array.getElem?_eq_some_iff.1 h).1).trans h
theorem take_len : ∀ (ws : List Int) (b : List UInt8) (l : List Nat) (r : List UInt8), take b ws = some (l, r) → l.length = ws.length ∧ (ws.map wd).sum + r.length = b.length
  | [], b, l, r, h => by simp [take] at h; obtain ⟨rfl, rfl⟩ := h; simp
  | w :: ws, b, l, r, h => by
    unfold take at h
    split at h
    · cases h
    · rename_i hw
      obtain ⟨p, hp, he⟩ := Option.map_eq_some_iff.1 h
      simp only [Prod.mk.injEq] at he
      obtain ⟨rfl, rfl⟩ := he
      obtain ⟨h1, h2⟩ := take_len ws _ _ _ hp
      rw [List.length_drop] at h2
      exact ⟨by simp [h1], by simp only [List.map_cons, List.sum_cons]; omega⟩
theorem take_none {ws : List Int} {b : List UInt8} (h : b.length < (ws.map wd).sum) : take b ws = none := by
  cases hh : take b ws with
  | none => rfl
  | some p =>
    obtain ⟨l, r⟩ := p
    have := (take_len ws b l r hh).2
    omega
end Go.Proofs.Ytkmeipblgdahoaa.Rc

/- The document's wire: coamingref06.Width, Pack, Take. -/
namespace Go.Proofs.Ytkmeipblgdahoaa.Rc
open Go.RowKit Go.Proofs.YtkmeipblgdahoaaW.PrintWords Go.Proofs.YtkmeipblgdahoaaW.PrintMore Go.Proofs.Ytkmeipblgdahoaa.Base
set_option linter.unusedVariables false
set_option linter.unusedSimpArgs false
theorem rwidth_calls (n : Int) (w : World) :
    Calls Try.prog 72 #[.int .i64 n] w fun e w' => e = .returned (.int .i64 (wd n : Int)) ∧ w = w' := by
  by_cases h1 : n = 1
  · subst h1
    go_enter Try.func72, Try.ntmps72
    go_wp2
    go_ret
    exact ⟨rfl, rfl⟩
  by_cases h2 : n = 2
  · subst h2
    go_enter Try.func72, Try.ntmps72
    go_wp2
    go_ret
    exact ⟨rfl, rfl⟩
  by_cases h4 : n = 4
  · subst h4
    go_enter Try.func72, Try.ntmps72
    go_wp2
    go_ret
    exact ⟨rfl, rfl⟩
  have HW := Aside0.mk (show wd n = 8 from if_neg (by omega))
  have e1 : (n == 1) = false := by rw [beq_eq_false_iff_ne]; exact h1
  have e2 : (n == 2) = false := by rw [beq_eq_false_iff_ne]; exact h2
  have e4 : (n == 4) = false := by rw [beq_eq_false_iff_ne]; exact h4
  clear h1 h2 h4
  go_enter Try.func72, Try.ntmps72
  go_wp2
  go_ret
  exact ⟨by rw [HW.out]; rfl, rfl⟩
theorem rbyte_lit (W : World) (y r : Nat) : byte.C (W.alloc (.cells #[.int .u8 ((y : Int) / 2 ^ (8 * r) % 256)] 5)) (some ⟨W.heap.size, 0, none⟩) 1 [UInt8.ofNat (y / 256 ^ r)] := by
  have := byte_lit W y r
  rwa [show 8 * (r + 1) - 8 = 8 * r from by omega] at this
set_option maxRecDepth 100000 in
set_option maxHeartbeats 2000000 in
theorem rpack_calls (A : Option Addr) (n c : Nat) (ws : List Int) (B : Option Addr) (m d : Nat) (vs : List Nat) (w : World) (h : (num .i64).C w A n ws) (g : (nat .u64).C w B m vs) (hn : n ≤ 1000) (hm : m ≤ 1000) :
    Calls Try.prog 41 #[.slice A n c, .slice B m d] w fun e w' => ∃ v, e = .returned v ∧ Base.Own w' w.heap.size v (pack ws vs) ∧ Below w.heap.size w w' := by
  obtain ⟨hl, hmx⟩ := C_len h
  obtain ⟨gl, gmx⟩ := C_len g
  have HL := Aside0.mk hl
  have GL := Aside0.mk gl
  have HC := Aside0.mk h
  have GC := Aside0.mk g
  obtain ⟨q, hq⟩ : ∃ q, min n m = q := ⟨_, rfl⟩
  have HQ := Aside0.mk hq
  have hqn : q ≤ n := by omega
  have hqm : q ≤ m := by omega
  clear h g hl gl hq
  go_enter Try.func41, Try.ntmps41
  go_wp2
  go_loopg [5, 6] q (fun k v5 v6 wr => ∃ (i : Nat) (l : List UInt8), v6 = .int .i64 (i : Int) ∧ i ≤ q ∧ Aside0 (k + i = q) ∧ Aside0 (l = pack (ws.take i) (vs.take i)) ∧ Aside0 (Base.Own wr w.heap.size v5 l) ∧ Aside0 (Below w.heap.size w wr))
  case atStart => exact ⟨0, [], rfl, by omega, ⟨rfl⟩, ⟨by simp [pack]⟩, ⟨Base.Own.nil _ _⟩, ⟨Below.refl _ _⟩⟩
  case round =>
    obtain ⟨i, l, rfl, hi, HK, HP, HO, HB⟩ := hrel
    by_cases hlt : i < q
    · obtain ⟨pa, rfl, e0, hwf⟩ := num_at (Kd.C_below HC.out HB.out) i (by omega)
      obtain ⟨x, hx⟩ : ∃ x, ws.getD i 0 = x := ⟨_, rfl⟩
      rw [hx] at e0 hwf
      have HX := Aside0.mk hx
      have hd0 : decide ((i : Int) < (n : Int)) = true := decide_eq_true (by omega)
      have hd0' : decide (i < n) = true := decide_eq_true (by omega)
      have hd1 : decide ((i : Int) < (m : Int)) = true := decide_eq_true (by omega)
      have hd1' : decide (i < m) = true := decide_eq_true (by omega)
      have HWF := Aside0.mk hwf
      have hw8 := wd_pos x
      clear hx hwf
      go_wp2_with fail
      refine (rwidth_calls x _).mono ?_
      rintro e w2 ⟨rfl, rfl⟩
      obtain ⟨k, hk⟩ : ∃ k, wd x = k := ⟨_, rfl⟩
      rw [hk] at hw8 ⊢
      have HKW := Aside0.mk hk
      clear hk hd0 hd0' hd1 hd1'
      obtain ⟨pv, rfl, f0, hwv⟩ := nat_at (Kd.C_below GC.out HB.out) i (by omega)
      obtain ⟨y, hy⟩ : ∃ y, vs.getD i 0 = y := ⟨_, rfl⟩
      rw [hy] at f0 hwv
      have HY := Aside0.mk hy
      have HIM := Aside0.mk (show i < m from by omega)
      clear hy hwv f0
      go_wp2
      clear e0
      obtain ⟨wo, rfl⟩ : ∃ wo : World, wo = wr := ⟨_, rfl⟩
      go_loopg [5, 7] k (fun g v5 v7 wr => ∃ (r : Nat) (z : Int) (l1 : List UInt8), v7 = .int .i64 z ∧ r ≤ k ∧ Aside0 (z = (r : Int) - 1) ∧ Aside0 (g = r) ∧ Aside0 (l1 ++ be r y = l ++ be k y) ∧ Aside0 (Base.Own wr w.heap.size v5 l1) ∧ Aside0 (Below w.heap.size w wr))
      case atStart => exact ⟨k, (k : Int) - 1, l, rfl, by omega, ⟨rfl⟩, ⟨rfl⟩, ⟨rfl⟩, HO, HB⟩
      case round =>
        obtain ⟨r, z, l1, rfl, hr, HZ, HG1, HP1, HO1, HB1⟩ := hrel
        cases r with
        | zero =>
          obtain rfl : z = -1 := by have := HZ.out; omega
          go_wp2
          go_roundg (q - (i + 1))
          case measure => have := HK.out; omega
          case rel =>
            refine ⟨i + 1, l1, by congr 1, by omega, ⟨by omega⟩, ⟨?_⟩, HO1, HB1⟩
            have h1 := HP1.out
            have h2 := HL.out
            have h3 := GL.out
            rw [pack_cons ws vs i (by omega) (by omega), HX.out, HY.out, HKW.out, ← HP.out, ← h1]
            simp [be]
        | succ r =>
          obtain rfl : z = (r : Int) := by have := HZ.out; omega
          obtain ⟨pv', hpv, f0, -⟩ := nat_at (Kd.C_below GC.out HB1.out) i HIM.out
          injection hpv with hpv
          subst hpv
          rw [HY.out] at f0
          obtain ⟨A1, n1, c1, rfl, hc1, hC1⟩ := HO1.out.reads
          have HLE := Aside0.mk (show l1.length ≤ 100000 from by
            have h1 := congrArg List.length HP1.out
            have h2 := pack_len (ws.take i) (vs.take i)
            rw [← HP.out, List.length_take] at h2
            simp only [List.length_append, be_len] at h1
            omega)
          go_wp2_with (at_builtin; (refine app_row (w0 := w) w.heap.size (.tmp 30) (.tmp 40) rfl rfl _ l1 [UInt8.ofNat (y / 256 ^ r)] _ _ _ rfl rfl (HO1.out.below (alloc_below _ _)) (rbyte_lit wr y r) (below_alloc HB1.out _) (below_alloc HB1.out _).size (by have := HLE.out; omega) ?_); intro v2 w2 hO2 hB2 _; (have HO2 := Aside0.mk hO2; have HB2 := Aside0.mk hB2; clear hO2 hB2))
          go_wp2
          go_roundg r
          case measure => have := HG1.out; omega
          case rel => exact ⟨r, _, _, rfl, by omega, ⟨rfl⟩, ⟨rfl⟩, ⟨by rw [← HP1.out]; simp [be]⟩, HO2, HB2⟩
    · obtain rfl : i = q := by omega
      have he : pack (ws.take i) (vs.take i) = pack ws vs := pack_short ws vs i (by rw [HL.out, GL.out]; exact HQ.out.symm)
      have HE := Aside0.mk he
      clear he
      by_cases hin : i < n
      · have hd0 : decide ((i : Int) < (n : Int)) = true := decide_eq_true (by omega)
        have hd0' : decide (i < n) = true := decide_eq_true (by omega)
        have hd1 : decide ((i : Int) < (m : Int)) = false := decide_eq_false (by have := HQ.out; omega)
        have hd1' : decide (i < m) = false := decide_eq_false (by have := HQ.out; omega)
        go_wp2
        go_ret
        refine ⟨_, rfl, ?_, HB.out⟩
        have h1 := HO.out
        rw [HP.out, HE.out] at h1
        exact h1
      · have hd0 : decide ((i : Int) < (n : Int)) = false := decide_eq_false (by omega)
        have hd0' : decide (i < n) = false := decide_eq_false (by omega)
        go_wp2
        go_ret
        refine ⟨_, rfl, ?_, HB.out⟩
        have h1 := HO.out
        rw [HP.out, HE.out] at h1
        exact h1
section
variable {ops : Array Oper} {rest : List Oper} {o : Oper} {a : Act} {Q : Exit → Act → World → Prop}
/-- append(v, x): a number. -/
theorem app_u64 {w0 W : World} (base : Nat) (s x : Operand) (hgd : o.guard = none) (ho : o.op = .call { callee := .builtin .append, args := #[s, x], argTypes := #[92, 92] })
    (v : Value) (xs : List Nat) (y : Nat) (hy : (Lit.int .u64 (y : Int)).wf = true) (hs : a.eval s = v) (hx : a.eval x = .slice (some ⟨W.heap.size, 0, none⟩) 1 1)
    (HO : OwnU W base v xs) (HB : Below base w0 W) (hbase : base ≤ W.heap.size) (hl : xs.length ≤ 100000)
    (h : ∀ v1 w1, OwnU w1 base v1 (xs ++ [y]) → Below base w0 w1 → W.grownBy w1 v.ownBlock → wpList Try.prog ops Q rest (a.put o.dst v1) w1) :
    wpList Try.prog ops Q (o :: rest) a (W.alloc (.cells #[.int .u64 (y : Int)] 24)) :=
  Kd.R_append (nat .u64) (w0 := w0) base hgd s x 92 24 (.int .u64 0) 8 ho Try.underlying92 info_u64 rfl (by decide) (by decide) v xs y [.int .u64 (y : Int)] anyB (fun _ => False) hs hx ⟨rfl, hy⟩ (fun _ h => h.elim) (fun _ _ => trivial) HO HB hbase (by omega) (fun v1 w1 h1 h2 h3 _ => h v1 w1 h1 h2 h3)
end
set_option maxRecDepth 100000 in
set_option maxHeartbeats 4000000 in
theorem rtake_callsU (A : Option Addr) (n c : Nat) (b : List UInt8) (B : Option Addr) (m d : Nat) (ws : List Int) (w : World) (h : byte.C w A n b) (hnc : n ≤ c) (hn : n ≤ 100000000) (hw : (num .i64).C w B m ws) (hm : m ≤ 1000) :
    Calls Try.prog 48 #[.slice A n c, .slice B m d] w (TakeP w (take b ws)) := by
  obtain ⟨wl, wmx⟩ := C_len hw
  obtain ⟨bl, bmx⟩ := C_len h
  have HWL := Aside0.mk wl
  have HBL := Aside0.mk bl
  have HWC := Aside0.mk hw
  have HC := Aside0.mk h
  clear h hw wl bl
  go_enter Try.func48, Try.ntmps48
  go_wp2
  go_loopg [7, 8, 9] m (fun g v7 v8 v9 wr => ∃ (i at_ : Nat) (l : List Nat), v9 = .int .i64 (i : Int) ∧ v8 = .int .i64 (at_ : Int) ∧ i ≤ m ∧ at_ ≤ n ∧ Aside0 (g + i = m) ∧ Aside0 (l.length = i) ∧ Aside0 (OwnU wr w.heap.size v7 l) ∧ Aside0 (Below w.heap.size w wr) ∧ Aside0 ((take (b.drop at_) (ws.drop i)).map (fun p => (l ++ p.1, p.2)) = take b ws))
  case atStart => exact ⟨0, 0, [], rfl, rfl, by omega, by omega, ⟨rfl⟩, ⟨rfl⟩, ⟨Kd.R_nil _ _ _ _ _⟩, ⟨Below.refl _ _⟩, ⟨by simp⟩⟩
  case round =>
    obtain ⟨i, at_, l, rfl, rfl, hi, hat, HK, HL, HO, HB, HP⟩ := hrel
    by_cases hlt : i < m
    · obtain ⟨pa, hpa, e0, hwf⟩ := num_at (Kd.C_below HWC.out HB.out) i (by omega)
      subst hpa
      obtain ⟨x, hx⟩ : ∃ x, ws.getD i 0 = x := ⟨_, rfl⟩
      rw [hx] at e0 hwf
      have HX := Aside0.mk hx
      have hd0 : decide ((i : Int) < (m : Int)) = true := decide_eq_true (by omega)
      have hd0' : decide (i < m) = true := decide_eq_true hlt
      have hw8 := wd_pos x
      have HDL := Aside0.mk (show (b.drop at_).length = n - at_ by rw [List.length_drop, HBL.out])
      clear hx hwf
      go_wp2_with fail
      refine (rwidth_calls x _).mono ?_
      rintro e w2 ⟨rfl, rfl⟩
      obtain ⟨k, hk⟩ : ∃ k, wd x = k := ⟨_, rfl⟩
      rw [hk] at hw8 ⊢
      have HKW := Aside0.mk hk
      clear hk hd0 hd0' e0
      by_cases hsh : n - at_ < k
      · have hd1 : decide ((n : Int) - (at_ : Int) < (k : Int)) = true := decide_eq_true (by omega)
        have HNone := Aside0.mk (show take b ws = none by rw [← HP.out, take_less (by rw [HWL.out]; exact hlt) HX.out (by rw [HKW.out, HDL.out]; exact hsh)]; rfl)
        clear hsh
        go_wp2
        go_ret3
        rw [HNone.out]
        exact ⟨HB.out, rfl⟩
      · have hd1 : decide ((n : Int) - (at_ : Int) < (k : Int)) = false := decide_eq_false (by omega)
        have HTM := Aside0.mk (take_more (by rw [HWL.out]; exact hlt) HX.out (by rw [HKW.out, HDL.out]; omega : wd x ≤ (b.drop at_).length) l)
        have hfit : at_ + k ≤ n := by omega
        clear hsh
        go_wp2
        clear hd1
        obtain ⟨wo, rfl⟩ : ∃ wo : World, wo = wr := ⟨_, rfl⟩
        go_loopg [11, 12] k (fun g1 v11 v12 w' => ∃ j y : Nat, v12 = .int .i64 (j : Int) ∧ v11 = .int .u64 (y : Int) ∧ j ≤ k ∧ Aside0 (g1 + j = k) ∧ Aside0 (y = un ((b.drop at_).take j)) ∧ w' = wo)
        case atStart => exact ⟨0, 0, rfl, rfl, by omega, ⟨rfl⟩, ⟨rfl⟩, rfl⟩
        case round =>
          obtain ⟨j, y, rfl, rfl, hj, HK2, HY, rfl⟩ := hrel
          by_cases hjl : j < k
          · have hd2 : decide ((j : Int) < (k : Int)) = true := decide_eq_true (by omega)
            have hd2' : decide (j < k) = true := decide_eq_true hjl
            obtain ⟨pb, hpb, f0⟩ := byte_at (Kd.C_below HC.out HB.out) (at_ + j) (by omega)
            subst hpb
            obtain ⟨z, hz⟩ : ∃ z, b.getD (at_ + j) 0 = z := ⟨_, rfl⟩
            rw [hz] at f0
            have HZ := Aside0.mk (show (b.drop at_).getD j 0 = z by rw [← hz, List.getD_eq_getElem?_getD, List.getD_eq_getElem?_getD, List.getElem?_drop])
            have hz8 := z.toNat_lt
            have hy7 : y < 72057594037927936 := by rw [HY.out]; exact un_lt7 _ (by rw [List.length_take]; omega)
            have hor := or_byte y z.toNat hz8 hy7
            have hi1 : (0 : Int) ≤ (at_ : Int) + (j : Int) := by omega
            have hi2 : (at_ : Int) + (j : Int) < (n : Int) := by omega
            clear hz
            go_wp2
            go_roundg (k - (j + 1))
            case measure => have := HK2.out; omega
            case rel => exact ⟨j + 1, y * 256 + z.toNat, by congr 1, by congr 1, by omega, ⟨by omega⟩, ⟨by rw [take_snocD (b.drop at_) 0 j (by rw [HDL.out]; omega), un_snoc, HZ.out, HY.out]⟩, rfl⟩
          · obtain rfl : j = k := by omega
            have hd2 : decide ((j : Int) < (j : Int)) = false := decide_eq_false (by omega)
            have HWY := Aside0.mk (show (Lit.int .u64 (y : Int)).wf = true by rw [HY.out]; exact wf_un _ (by rw [List.length_take]; omega))
            have HLL := Aside0.mk (show l.length ≤ 100000 by rw [HL.out]; omega)
            obtain ⟨A7, c7, rfl⟩ := Kd.R_slice HO.out
            go_wp2_with (at_builtin; (refine app_u64 (w0 := w) w.heap.size (.tmp 46) (.tmp 48) rfl rfl _ l y HWY.out rfl (by simp [Act.eval]) HO.out HB.out HB.out.size HLL.out ?_); intro v2 w2 hO2 hB2 _; (have HO2 := Aside0.mk hO2; have HB2 := Aside0.mk hB2; clear hO2 hB2))
            go_wp2
            go_roundg (m - (i + 1))
            case measure => have := HK.out; omega
            case rel => exact ⟨i + 1, at_ + j, l ++ [y], by congr 1, by congr 1, by omega, by omega, ⟨by omega⟩, ⟨by rw [List.length_append, HL.out]; rfl⟩, HO2, HB2, ⟨by
              have h1 := HTM.out
              rw [HKW.out, List.drop_drop, ← HY.out] at h1
              rw [← h1]; exact HP.out⟩⟩
    · obtain rfl : i = m := by omega
      have hd0 : decide ((i : Int) < (i : Int)) = false := decide_eq_false (by omega)
      have HRes := Aside0.mk (show take b ws = some (l, b.drop at_) by
        have h1 := HP.out
        rw [List.drop_of_length_le (l := ws) (by rw [HWL.out]; omega)] at h1
        rw [← h1]
        simp [take])
      have hcd := C_drop (Kd.C_below HC.out HB.out) hnc at_ hat
      rw [show at_ * byte.sz = at_ from by show at_ * 1 = at_; omega] at hcd
      have a1 : (at_ : Int) ≤ (n : Int) := by omega
      have a2 : (at_ : Int) ≤ (c : Int) := by omega
      by_cases hca : c = at_
      · rw [if_pos hca] at hcd
        have HCD := Aside0.mk hcd
        clear hcd
        go_wp2_with (at_builtin; (refine app_row (w0 := w) w.heap.size (.tmp 53) (.tmp 56) rfl rfl _ [] (b.drop at_) _ _ _ rfl rfl (Base.Own.nil _ _) HCD.out HB.out HB.out.size (by simp; omega) ?_); intro v2 w2 hO2 hB2 hg2; (have HO2 := Aside0.mk hO2; have HB2 := Aside0.mk hB2; have HU2 := Aside0.mk (Kd.R_below HO.out (below_of_grown hg2)); clear hO2 hB2 hg2))
        go_ret3
        rw [HRes.out]
        exact ⟨HB2.out, _, _, rfl, HU2.out, HO2.out⟩
      · rw [if_neg hca] at hcd
        have HCD := Aside0.mk hcd
        clear hcd
        go_wp2_with (at_builtin; (refine app_row (w0 := w) w.heap.size (.tmp 53) (.tmp 56) rfl rfl _ [] (b.drop at_) _ _ _ rfl rfl (Base.Own.nil _ _) HCD.out HB.out HB.out.size (by simp; omega) ?_); intro v2 w2 hO2 hB2 hg2; (have HO2 := Aside0.mk hO2; have HB2 := Aside0.mk hB2; have HU2 := Aside0.mk (Kd.R_below HO.out (below_of_grown hg2)); clear hO2 hB2 hg2))
        go_ret3
        rw [HRes.out]
        exact ⟨HB2.out, _, _, rfl, HU2.out, HO2.out⟩
theorem rtake_calls (A : Option Addr) (n c : Nat) (b : List UInt8) (B : Option Addr) (m d : Nat) (ws : List Int) (w : World) (h : byte.C w A n b) (hnc : n ≤ c) (hc : c ≤ 9223372036854775807) (hn : n ≤ 100000000) (hw : (num .i64).C w B m ws) (hm : m ≤ 1000) :
    Calls Try.prog 48 #[.slice A n c, .slice B m d] w (TakeP w (take b ws)) :=
  rtake_callsU A n c b B m d ws w h hnc hn hw hm
end Go.Proofs.Ytkmeipblgdahoaa.Rc

/- Plain facts on checkpoints: places as bytes, a block, all blocks, what blocks say. No program in sight. -/
namespace Go.Proofs.Ytkmeipblgdahoaa.Ck
open Go.Proofs.Ytkmeipblgdahoaa.Crc (sum nat)
open Go.Proofs.Ytkmeipblgdahoaa.Rc (be un put4 be_len un_be be_un take_app drop_app un_lt pow_vals sum_lt put4_len)
set_option linter.unusedVariables false
set_option linter.unusedSimpArgs false
/-- Tenant, block, and where it is. -/
abbrev Plc := Nat × Nat × Int × Int
abbrev plc0 : Plc := (0, 0, 0, 0)
def PlcOk (p : Plc) : Prop := p.1 < 4294967296 ∧ p.2.1 < 18446744073709551616
def Below2 (a b : Plc) : Prop := a.1 < b.1 ∨ (a.1 = b.1 ∧ a.2.1 < b.2.1)
instance (a b : Plc) : Decidable (Below2 a b) := by unfold Below2; infer_instance
def InIt (z zb : Int) (p : Plc) : Prop := 2 ≤ p.2.2.1 ∧ p.2.2.1 < z ∧ 0 ≤ p.2.2.2 ∧ p.2.2.2 < zb
instance (z zb : Int) (p : Plc) : Decidable (InIt z zb p) := by unfold InIt; infer_instance
def Rises : List Plc → Prop
  | [] => True
  | [_] => True
  | a :: b :: l => Below2 a b ∧ Rises (b :: l)
instance : (l : List Plc) → Decidable (Rises l)
  | [] => isTrue trivial
  | [_] => isTrue trivial
  | a :: b :: l => by
    have := instDecidableRises (b :: l)
    unfold Rises
    infer_instance
def MayP (z zb : Int) (l : List Plc) : Prop := (∀ p ∈ l, InIt z zb p) ∧ Rises l
instance (z zb : Int) (l : List Plc) : Decidable (MayP z zb l) := by unfold MayP; infer_instance
theorem rises_iff (l : List Plc) : Rises l ↔ ∀ i, i + 1 < l.length → Below2 (l.getD i plc0) (l.getD (i + 1) plc0) := by
  induction l with
  | nil => exact ⟨fun _ i h => by simp at h, fun _ => trivial⟩
  | cons a l ih =>
    cases l with
    | nil => exact ⟨fun _ i h => by simp at h, fun _ => trivial⟩
    | cons b l =>
      show (Below2 a b ∧ Rises (b :: l)) ↔ _
      rw [ih]
      constructor
      · rintro ⟨h1, h2⟩ i hi
        cases i with
        | zero => exact h1
        | succ i => exact h2 i (by simpa using hi)
      · intro h
        exact ⟨h 0 (by simp), fun i hi => h (i + 1) (by simpa using hi)⟩
/-- A place's bytes. -/
def plB (p : Plc) : List UInt8 := be 4 p.1 ++ (be 8 p.2.1 ++ (be 2 p.2.2.1.toNat ++ be 2 p.2.2.2.toNat))
theorem plB_len (p : Plc) : (plB p).length = 16 := by simp [plB, be_len]
def plsB (l : List Plc) : List UInt8 := (l.map plB).flatten
theorem plsB_len (l : List Plc) : (plsB l).length = 16 * l.length := by
  unfold plsB
  induction l with
  | nil => rfl
  | cons x l ih => simp only [List.map_cons, List.flatten_cons, List.length_append, ih, plB_len, List.length_cons]; omega
theorem plsB_snoc (l : List Plc) (x : Plc) : plsB (l ++ [x]) = plsB l ++ plB x := by simp [plsB]
def rmC (b : Nat) : Nat := if b = 64 ∨ b = 128 ∨ b = 256 ∨ b = 512 ∨ b = 1024 ∨ b = 2048 ∨ b = 4096 then (b - 27) / 16 else 0
theorem rmC_le (b : Nat) (h : 0 < rmC b) : 64 ≤ b ∧ b ≤ 4096 ∧ 16 * rmC b + 27 ≤ b ∧ rmC b ≤ 254 ∧ 2 ≤ rmC b := by
  unfold rmC at h ⊢
  split at h
  · rename_i hb
    rw [if_pos hb]
    omega
  · omega
abbrev cmagic : Nat := 1129009236
/-- A block ahead of its sum. -/
def cpre (at_ many q : Nat) (l : List Plc) (n : Nat) : List UInt8 :=
  be 4 cmagic ++ (be 4 0 ++ (be 4 at_ ++ (be 4 many ++ (be 8 q ++ (be 2 l.length ++ (plsB l ++ (List.replicate (n - 27 - 16 * l.length) 0 ++ [0xe7])))))))
def cblk (at_ many q : Nat) (l : List Plc) (n : Nat) : List UInt8 := put4 (cpre at_ many q l n) (sum (nat (cpre at_ many q l n)))
theorem cpre_len (at_ many q : Nat) (l : List Plc) (n : Nat) (h : 16 * l.length + 27 ≤ n) : (cpre at_ many q l n).length = n := by
  simp only [cpre, List.length_append, be_len, plsB_len, List.length_replicate, List.length_cons, List.length_nil]
  omega
theorem cblk_len (at_ many q : Nat) (l : List Plc) (n : Nat) (h : 16 * l.length + 27 ≤ n) : (cblk at_ many q l n).length = n := by
  unfold cblk
  rw [put4_len _ _ (by rw [cpre_len _ _ _ _ _ h]; omega), cpre_len _ _ _ _ _ h]
theorem cblk_eq (at_ many q : Nat) (l : List Plc) (n : Nat) : cblk at_ many q l n =
    be 4 cmagic ++ (be 4 (sum (nat (cpre at_ many q l n))) ++ (be 4 at_ ++ (be 4 many ++ (be 8 q ++ (be 2 l.length ++ (plsB l ++ (List.replicate (n - 27 - 16 * l.length) 0 ++ [0xe7]))))))) := by
  unfold cblk put4
  generalize sum (nat (cpre at_ many q l n)) = s
  unfold cpre
  rw [take_app _ _ _ (be_len _ _), show (8 : Nat) = 4 + 4 from rfl, ← List.drop_drop, drop_app _ _ _ (be_len _ _), drop_app _ _ _ (be_len _ _)]
/-- How many blocks. -/
def manyN (k n : Nat) : Nat := max ((k + rmC n - 1) / rmC n) 1
def blks (q : Nat) (l : List Plc) (n : Nat) : List (List UInt8) :=
  (List.range (manyN l.length n)).map fun i => cblk i (manyN l.length n) q ((l.drop (i * rmC n)).take (rmC n)) n
/-- A checkpoint as blocks, or the error's number. -/
def encC (rt : Bool) (z zb : Int) (n q : Nat) (l : List Plc) : Except Int (List (List UInt8)) :=
  if rt = true ∧ MayP z zb l then if (manyN l.length n : Int) ≤ zb then .ok (blks q l n) else .error 140 else .error 141
/-! Reading. -/
def plAt (r : List UInt8) : Plc := (un (r.take 4), un ((r.drop 4).take 8), (un ((r.drop 12).take 2) : Int), (un ((r.drop 14).take 2) : Int))
def plsOf : Nat → List UInt8 → List Plc
  | 0, _ => []
  | k + 1, r => plAt r :: plsOf k (r.drop 16)
theorem plsOf_len (k : Nat) : ∀ r, (plsOf k r).length = k := by
  induction k with
  | zero => intro r; rfl
  | succ k ih => intro r; simp [plsOf, ih]
theorem plsOf_snoc (k : Nat) : ∀ r : List UInt8, plsOf (k + 1) r = plsOf k r ++ [plAt (r.drop (16 * k))] := by
  induction k with
  | zero => intro r; rfl
  | succ k ih =>
    intro r
    show plAt r :: plsOf (k + 1) (r.drop 16) = plAt r :: plsOf k (r.drop 16) ++ _
    rw [ih, List.drop_drop, show 16 + 16 * k = 16 * (k + 1) from by omega]
    rfl
/-- A place that may be written. -/
def PlcFit (p : Plc) : Prop := PlcOk p ∧ 0 ≤ p.2.2.1 ∧ p.2.2.1 < 65536 ∧ 0 ≤ p.2.2.2 ∧ p.2.2.2 < 65536
theorem plAt_plB (x : Plc) (h : PlcFit x) (r : List UInt8) : plAt (plB x ++ r) = x := by
  obtain ⟨a, b, c, d⟩ := x
  obtain ⟨⟨h1, h2⟩, h3, h4, h5, h6⟩ := h
  dsimp only at h1 h2 h3 h4 h5 h6
  obtain ⟨p4, p8, p2, p1⟩ := pow_vals
  have q1 : plB (a, b, c, d) ++ r = be 4 a ++ (be 8 b ++ (be 2 c.toNat ++ (be 2 d.toNat ++ r))) := by simp [plB]
  have q2 : (plB (a, b, c, d) ++ r).drop 4 = be 8 b ++ (be 2 c.toNat ++ (be 2 d.toNat ++ r)) := by rw [q1, drop_app _ _ _ (be_len _ _)]
  have q3 : (plB (a, b, c, d) ++ r).drop 12 = be 2 c.toNat ++ (be 2 d.toNat ++ r) := by
    rw [show (12 : Nat) = 4 + 8 from rfl, ← List.drop_drop, q2, drop_app _ _ _ (be_len _ _)]
  have q4 : (plB (a, b, c, d) ++ r).drop 14 = be 2 d.toNat ++ r := by
    rw [show (14 : Nat) = 12 + 2 from rfl, ← List.drop_drop, q3, drop_app _ _ _ (be_len _ _)]
  unfold plAt
  rw [q2, q3, q4, q1, take_app _ _ _ (be_len _ _), take_app _ _ _ (be_len _ _), take_app _ _ _ (be_len _ _), take_app _ _ _ (be_len _ _)]
  rw [un_be _ _ (by omega), un_be _ _ (by omega), un_be _ _ (by omega), un_be _ _ (by omega), Int.toNat_of_nonneg h3, Int.toNat_of_nonneg h5]
theorem plsOf_plsB (l : List Plc) (h : ∀ x ∈ l, PlcFit x) : ∀ r, plsOf l.length (plsB l ++ r) = l := by
  induction l with
  | nil => intro r; rfl
  | cons x l ih =>
    intro r
    have e : plsB (x :: l) ++ r = plB x ++ (plsB l ++ r) := by simp [plsB]
    rw [e]
    show plAt _ :: plsOf l.length ((plB x ++ (plsB l ++ r)).drop 16) = _
    rw [plAt_plB x (h x (by simp)), drop_app _ _ _ (plB_len x), ih (fun y hy => h y (by simp [hy]))]
def seqC (b : List UInt8) : Nat := un ((b.drop 16).take 8)
def ctC (b : List UInt8) : Nat := un ((b.drop 24).take 2)
/-- What one block says, if it is long enough. -/
def places (b : List UInt8) : Option (Nat × List Plc) :=
  if b.length < 26 + 16 * ctC b ∨ b.length < 26 then none else some (seqC b, plsOf (ctC b) (b.drop 26))
theorem places_cblk (at_ many q : Nat) (l : List Plc) (n : Nat) (hq : q < 18446744073709551616) (h : 16 * l.length + 27 ≤ n) (hl : l.length < 65536) (ho : ∀ x ∈ l, PlcFit x) : places (cblk at_ many q l n) = some (q, l) := by
  obtain ⟨p4, p8, p2, p1⟩ := pow_vals
  have d16 : (cblk at_ many q l n).drop 16 = be 8 q ++ (be 2 l.length ++ (plsB l ++ (List.replicate (n - 27 - 16 * l.length) 0 ++ [0xe7]))) := by
    rw [cblk_eq, show (16 : Nat) = 4 + (4 + (4 + 4)) from rfl, ← List.drop_drop, drop_app _ _ _ (be_len _ _), ← List.drop_drop, drop_app _ _ _ (be_len _ _), ← List.drop_drop, drop_app _ _ _ (be_len _ _), drop_app _ _ _ (be_len _ _)]
  have d24 : (cblk at_ many q l n).drop 24 = be 2 l.length ++ (plsB l ++ (List.replicate (n - 27 - 16 * l.length) 0 ++ [0xe7])) := by
    rw [show (24 : Nat) = 16 + 8 from rfl, ← List.drop_drop, d16, drop_app _ _ _ (be_len _ _)]
  have d26 : (cblk at_ many q l n).drop 26 = plsB l ++ (List.replicate (n - 27 - 16 * l.length) 0 ++ [0xe7]) := by
    rw [show (26 : Nat) = 24 + 2 from rfl, ← List.drop_drop, d24, drop_app _ _ _ (be_len _ _)]
  have hct : ctC (cblk at_ many q l n) = l.length := by unfold ctC; rw [d24, take_app _ _ _ (be_len _ _), un_be _ _ (by omega)]
  have hsq : seqC (cblk at_ many q l n) = q := by unfold seqC; rw [d16, take_app _ _ _ (be_len _ _), un_be _ _ (by omega)]
  unfold places
  rw [cblk_len _ _ _ _ _ h, hct, hsq, d26, plsOf_plsB l ho, if_neg (by omega)]
/-- What blocks say: the last one's number, all places. -/
def said : List (List UInt8) → Nat × List Plc → Option (Nat × List Plc)
  | [], a => some a
  | b :: l, a => match places b with
    | none => none
    | some (q, some_) => said l (q, a.2 ++ some_)
/-- The state that blocks are, if they are one. -/
def decC (rt : Bool) (z zb : Int) (n : Nat) (l : List (List UInt8)) : Option (Nat × List Plc) :=
  match said l (0, []) with
  | none => none
  | some (q, ps) => match encC rt z zb n q ps with
    | .ok l' => if l' = l then some (q, ps) else none
    | .error _ => none
theorem said_blks (q : Nat) (l : List Plc) (n M : Nat) (hq : q < 18446744073709551616) (hr : 0 < rmC n) (ho : ∀ x ∈ l, PlcFit x) :
    ∀ (k s : Nat) (q0 : Nat), said ((List.range' s k).map fun i => cblk i M q ((l.drop (i * rmC n)).take (rmC n)) n) (q0, l.take (s * rmC n)) = some (if k = 0 then q0 else q, l.take ((s + k) * rmC n)) := by
  obtain ⟨h1, h2, h3, h4, h5⟩ := rmC_le n hr
  intro k
  induction k with
  | zero => intro s q0; simp [said]
  | succ k ih =>
    intro s q0
    rw [List.range'_succ, List.map_cons]
    have hlen : ((l.drop (s * rmC n)).take (rmC n)).length ≤ rmC n := by rw [List.length_take]; omega
    have hp := places_cblk s M q ((l.drop (s * rmC n)).take (rmC n)) n hq (by omega) (by omega) (fun x hx => ho x (List.mem_of_mem_drop (List.mem_of_mem_take hx)))
    unfold said
    rw [hp]
    show said _ (q, l.take (s * rmC n) ++ (l.drop (s * rmC n)).take (rmC n)) = _
    have e : l.take (s * rmC n) ++ (l.drop (s * rmC n)).take (rmC n) = l.take ((s + 1) * rmC n) := by
      rw [Nat.add_mul, Nat.one_mul, List.take_add]
    rw [e, ih (s + 1) q]
    simp only [Nat.add_eq_zero_iff]
    rw [show s + 1 + k = s + (k + 1) from by omega]
    simp
/-- What is read of blocks that were written. -/
theorem said_enc (q : Nat) (l : List Plc) (n : Nat) (hq : q < 18446744073709551616) (hr : 0 < rmC n) (ho : ∀ x ∈ l, PlcFit x) : said (blks q l n) (0, []) = some (q, l) := by
  have h := said_blks q l n (manyN l.length n) hq hr ho (manyN l.length n) 0 0
  have hm : 1 ≤ manyN l.length n := by unfold manyN; omega
  have hc : l.length ≤ manyN l.length n * rmC n := by
    unfold manyN
    have h1 := Nat.div_add_mod (l.length + rmC n - 1) (rmC n)
    have h2 := Nat.mod_lt (l.length + rmC n - 1) hr
    generalize (l.length + rmC n - 1) / rmC n = d at *
    have h3 : d * rmC n ≤ max d 1 * rmC n := Nat.mul_le_mul_right _ (by omega)
    rw [Nat.mul_comm] at h1
    omega
  rw [if_neg (by omega), Nat.zero_add, List.take_of_length_le hc] at h
  unfold blks
  rw [List.range_eq_range']
  simpa using h
theorem MayP.fit {z zb : Int} {l : List Plc} (h : MayP z zb l) (hz : z ≤ 256) (hzb : zb ≤ 4096) (ho : ∀ x ∈ l, PlcOk x) : ∀ x ∈ l, PlcFit x := by
  intro x hx
  obtain ⟨h1, h2, h3, h4⟩ := h.1 x hx
  exact ⟨ho x hx, by omega, by omega, by omega, by omega⟩
/-- A state that is written is read. -/
theorem dec_enc {rt : Bool} {z zb : Int} {n q : Nat} {l : List Plc} {bs : List (List UInt8)} (h : encC rt z zb n q l = .ok bs) (hz : z ≤ 256) (hzb : zb ≤ 4096) (hr : 0 < rmC n) (hq : q < 18446744073709551616) (ho : ∀ x ∈ l, PlcOk x) : decC rt z zb n bs = some (q, l) := by
  have hb : bs = blks q l n := by
    unfold encC at h
    split at h
    · split at h
      · injection h with h; exact h.symm
      · cases h
    · cases h
  have hm : MayP z zb l := by
    unfold encC at h
    split at h
    · rename_i h1; exact h1.2
    · cases h
  unfold decC
  rw [hb, said_enc q l n hq hr (hm.fit hz hzb ho)]
  show (match encC rt z zb n q l with | .ok l' => _ | .error _ => _) = _
  rw [h, hb]
  simp
/-! Blocks that are left out, or turned. -/
theorem dec_form {rt : Bool} {z zb : Int} {n : Nat} {bs : List (List UInt8)} {a : Nat × List Plc} (h : decC rt z zb n bs = some a) : bs = blks a.1 a.2 n ∧ (manyN a.2.length n : Int) ≤ zb ∧ rt = true := by
  unfold decC at h
  split at h
  · cases h
  · rename_i q ps hs
    split at h
    · rename_i l' he
      split at h
      · rename_i hl
        injection h with h
        subst h
        subst hl
        unfold encC at he
        split at he
        · rename_i h1
          split at he
          · rename_i h2
            injection he with he
            exact ⟨he.symm, h2, h1.1⟩
          · cases he
        · cases he
      · cases h
    · cases h
theorem blks_len (q : Nat) (l : List Plc) (n : Nat) : (blks q l n).length = manyN l.length n := by simp [blks]
theorem many_pos (k n : Nat) : 1 ≤ manyN k n := by unfold manyN; omega
/-- How many blocks a block says that there are. -/
def mnC (b : List UInt8) : Nat := un ((b.drop 12).take 4)
theorem mn_cblk (at_ many q : Nat) (l : List Plc) (n : Nat) (hm : many < 4294967296) : mnC (cblk at_ many q l n) = many := by
  obtain ⟨p4, p8, p2, p1⟩ := pow_vals
  have d12 : (cblk at_ many q l n).drop 12 = be 4 many ++ (be 8 q ++ (be 2 l.length ++ (plsB l ++ (List.replicate (n - 27 - 16 * l.length) 0 ++ [0xe7])))) := by
    rw [cblk_eq, show (12 : Nat) = 4 + (4 + 4) from rfl, ← List.drop_drop, drop_app _ _ _ (be_len _ _), ← List.drop_drop, drop_app _ _ _ (be_len _ _), drop_app _ _ _ (be_len _ _)]
  unfold mnC
  rw [d12, take_app _ _ _ (be_len _ _), un_be _ _ (by omega)]
/-- Every block of a checkpoint says how many there are. -/
theorem mn_blks {q : Nat} {l : List Plc} {n : Nat} (hm : manyN l.length n < 4294967296) : ∀ b ∈ blks q l n, mnC b = (blks q l n).length := by
  intro b hb
  rw [blks_len]
  unfold blks at hb
  obtain ⟨i, _, rfl⟩ := List.mem_map.1 hb
  exact mn_cblk _ _ _ _ _ hm
/-- Fewer blocks of a checkpoint are none. -/
theorem dec_fewer {rt rt' : Bool} {z zb z' zb' : Int} {n q : Nat} {l : List Plc} {bs : List (List UInt8)} (hm : manyN l.length n < 4294967296) (hzb : zb' < 4294967296) (hsub : ∀ b ∈ bs, b ∈ blks q l n) (hlen : bs.length ≠ (blks q l n).length) : decC rt' z' zb' n bs = none := by
  cases hd : decC rt' z' zb' n bs with
  | none => rfl
  | some a =>
    exfalso
    obtain ⟨he, h2, -⟩ := dec_form hd
    have hl : bs.length = manyN a.2.length n := by rw [he, blks_len]
    have hp := many_pos a.2.length n
    obtain ⟨b, hb⟩ : ∃ b, b ∈ bs := by
      cases bs with
      | nil => simp at hl; omega
      | cons b bs => exact ⟨b, by simp⟩
    have h3 := mn_blks hm b (hsub b hb)
    have h4 := mn_blks (q := a.1) (l := a.2) (n := n) (by omega) b (by rw [← he]; exact hb)
    rw [← he] at h4
    omega
theorem zr_cblk (at_ many q : Nat) (l : List Plc) (n : Nat) : Rc.zr (cblk at_ many q l n) = cpre at_ many q l n := by
  unfold Rc.zr
  rw [cblk_eq, take_app _ _ _ (be_len _ _), show (8 : Nat) = 4 + 4 from rfl, ← List.drop_drop, drop_app _ _ _ (be_len _ _), drop_app _ _ _ (be_len _ _)]
  rfl
theorem sum_cblk (at_ many q : Nat) (l : List Plc) (n : Nat) : Rc.smN (cblk at_ many q l n) = Rc.sumOf (cblk at_ many q l n) := by
  obtain ⟨p4, p8, p2, p1⟩ := pow_vals
  unfold Rc.smN Rc.sumOf
  rw [zr_cblk, cblk_eq, drop_app _ _ _ (be_len _ _), take_app _ _ _ (be_len _ _), un_be _ _ (by rw [p4]; exact sum_lt _)]
theorem sum_blks {q : Nat} {l : List Plc} {n : Nat} : ∀ b ∈ blks q l n, Rc.smN b = Rc.sumOf b := by
  intro b hb
  unfold blks at hb
  obtain ⟨i, _, rfl⟩ := List.mem_map.1 hb
  exact sum_cblk _ _ _ _ _
/-- A checkpoint of which one byte is another one is none. -/
theorem dec_byte {rt rt' : Bool} {z' zb' : Int} {n q : Nat} {l : List Plc} {a : Nat × List Plc} (i at_ : Nat) (hi : i < (blks q l n).length) (h64 : 64 ≤ ((blks q l n).getD i []).length) (ha : at_ < ((blks q l n).getD i []).length) (c : UInt8)
    (hd : decC rt' z' zb' n ((blks q l n).set i (((blks q l n).getD i []).set at_ c)) = some a) : ((blks q l n).getD i []).getD at_ 0 = c := by
  obtain ⟨he, -, -⟩ := dec_form hd
  have hb : (blks q l n).getD i [] ∈ blks q l n := by
    rw [List.getD_eq_getElem?_getD, List.getElem?_eq_getElem hi]; exact List.getElem_mem _
  have hb2 : ((blks q l n).getD i []).set at_ c ∈ blks a.1 a.2 n := by
    rw [← he]; exact List.mem_set hi _
  exact Rc.sum_byte h64 (sum_blks _ hb) at_ ha c (sum_blks _ hb2)
end Go.Proofs.Ytkmeipblgdahoaa.Ck

/- ckpt.compare: which of two places stands ahead. -/
namespace Go.Proofs.Ytkmeipblgdahoaa.Ck
open Go.RowKit Go.Proofs.YtkmeipblgdahoaaW.PrintWords Go.Proofs.YtkmeipblgdahoaaW.PrintMore Go.Proofs.Ytkmeipblgdahoaa.Base
set_option linter.unusedVariables false
set_option linter.unusedSimpArgs false
/-- -1, 0, 1. -/
def cmpN (x y : Nat) : Int := if x < y then -1 else if y < x then 1 else 0
theorem nan32_calls (x : Nat) (w : World) : Calls Try.prog 90 #[.int .u32 (x : Int)] w fun e w' => e = .returned (.bool false) ∧ w = w' := by
  have hq : ((x : Int) != (x : Int)) = false := by rw [bne_eq_false_iff_eq]
  go_enter Try.func90, Try.ntmps90
  go_wp2
  go_ret
  exact ⟨rfl, rfl⟩
theorem nan64_calls (x : Nat) (w : World) : Calls Try.prog 91 #[.int .u64 (x : Int)] w fun e w' => e = .returned (.bool false) ∧ w = w' := by
  have hq : ((x : Int) != (x : Int)) = false := by rw [bne_eq_false_iff_eq]
  go_enter Try.func91, Try.ntmps91
  go_wp2
  go_ret
  exact ⟨rfl, rfl⟩
theorem cmp32_calls (x y : Nat) (w : World) : Calls Try.prog 83 #[.int .u32 (x : Int), .int .u32 (y : Int)] w fun e w' => e = .returned (.int .i64 (cmpN x y)) ∧ w = w' := by
  obtain ⟨b1, h1⟩ : ∃ b, decide ((x : Int) < (y : Int)) = b := ⟨_, rfl⟩
  obtain ⟨b2, h2⟩ : ∃ b, decide ((y : Int) < (x : Int)) = b := ⟨_, rfl⟩
  have h1' : decide (x < y) = b1 := by rw [← h1]; rw [decide_eq_decide]; omega
  have h2' : decide (y < x) = b2 := by rw [← h2]; rw [decide_eq_decide]; omega
  have HR := Aside0.mk (show cmpN x y = if b1 = true then -1 else if b2 = true then 1 else 0 from by unfold cmpN; rw [← h1', ← h2']; simp)
  rw [HR.out]
  cases b1 <;> cases b2
  all_goals
    go_enter Try.func83, Try.ntmps83
    go_wp2_with fail
    refine (nan32_calls x _).mono ?_
    rintro e w1 ⟨rfl, rfl⟩
    go_wp2_with fail
    refine (nan32_calls y _).mono ?_
    rintro e w1 ⟨rfl, rfl⟩
    go_wp2
    go_ret
    exact ⟨rfl, rfl⟩
theorem cmp64_calls (x y : Nat) (w : World) : Calls Try.prog 84 #[.int .u64 (x : Int), .int .u64 (y : Int)] w fun e w' => e = .returned (.int .i64 (cmpN x y)) ∧ w = w' := by
  obtain ⟨b1, h1⟩ : ∃ b, decide ((x : Int) < (y : Int)) = b := ⟨_, rfl⟩
  obtain ⟨b2, h2⟩ : ∃ b, decide ((y : Int) < (x : Int)) = b := ⟨_, rfl⟩
  have h1' : decide (x < y) = b1 := by rw [← h1]; rw [decide_eq_decide]; omega
  have h2' : decide (y < x) = b2 := by rw [← h2]; rw [decide_eq_decide]; omega
  have HR := Aside0.mk (show cmpN x y = if b1 = true then -1 else if b2 = true then 1 else 0 from by unfold cmpN; rw [← h1', ← h2']; simp)
  rw [HR.out]
  cases b1 <;> cases b2
  all_goals
    go_enter Try.func84, Try.ntmps84
    go_wp2_with fail
    refine (nan64_calls x _).mono ?_
    rintro e w1 ⟨rfl, rfl⟩
    go_wp2_with fail
    refine (nan64_calls y _).mono ?_
    rintro e w1 ⟨rfl, rfl⟩
    go_wp2
    go_ret
    exact ⟨rfl, rfl⟩
/-- The first that is not nought. -/
def orL : List Int → Int
  | [] => 0
  | x :: l => if x = 0 then orL l else x
theorem int_at {w : World} {A : Option Addr} {n : Nat} {xs : List Int} (h : (num .i64).C w A n xs) (i : Nat) (hi : i < n) : ∃ ad, A = some ad ∧ w.cell? (ad.add i) = some (.int .i64 (xs.getD i 0)) := by
  obtain ⟨ad, c, e, hcl, hK, hc⟩ := ReadsRow.get_ h 0 (i : Int) (by omega) (by omega)
  rw [Int.toNat_natCast] at hK hc
  obtain ⟨rfl, _⟩ := hK
  have := hc 0 _ rfl
  rw [show i * (num .i64).sz + 0 = i from Nat.mul_one i] at this
  exact ⟨ad, e, this⟩
theorem or_drop (xs : List Int) (i : Nat) (hi : i < xs.length) : orL (xs.drop i) = if xs.getD i 0 = 0 then orL (xs.drop (i + 1)) else xs.getD i 0 := by
  rw [List.drop_eq_getElem_cons hi, List.getD_eq_getElem?_getD, List.getElem?_eq_getElem hi]
  rfl
theorem or_calls (A : Option Addr) (n cap : Nat) (xs : List Int) (w : World) (h : (num .i64).C w A n xs) : Calls Try.prog 82 #[.slice A n cap] w fun e w' => e = .returned (.int .i64 (orL xs)) ∧ w = w' := by
  obtain ⟨hl, hm⟩ := C_len h
  have HC := Aside0.mk h
  have HL := Aside0.mk hl
  clear h hl
  go_enter Try.func82, Try.ntmps82
  go_wp2
  go_loopg [8] n (fun g v8 w' => ∃ i : Nat, v8 = .int .i64 (i : Int) ∧ i ≤ n ∧ Aside0 (g + i = n) ∧ Aside0 (orL (xs.drop i) = orL xs) ∧ w = w')
  case atStart => exact ⟨0, rfl, Nat.zero_le _, ⟨rfl⟩, ⟨rfl⟩, rfl⟩
  case round =>
    obtain ⟨i, rfl, hi, HK, HO, rfl⟩ := hrel
    by_cases hlt : i < n
    · have hd0 : decide ((i : Int) < (n : Int)) = true := decide_eq_true (by omega)
      have hd0' : decide (i < n) = true := decide_eq_true hlt
      have hi0 : (0 : Int) ≤ (i : Int) := by omega
      have hi1 : (i : Int) < (n : Int) := by omega
      obtain ⟨ad, rfl, hc⟩ := int_at HC.out i hlt
      have HD := Aside0.mk (or_drop xs i (by rw [HL.out]; exact hlt))
      obtain ⟨x, hx⟩ : ∃ x, xs.getD i 0 = x := ⟨_, rfl⟩
      rw [hx] at hc HD
      clear hx
      by_cases hz : x = 0
      · have hq : (x != 0) = false := by rw [bne_eq_false_iff_eq]; exact hz
        have HZ := Aside0.mk hz
        clear hz
        go_wp2
        go_roundg (gk - 1)
        case measure => have := HK.out; omega
        case rel => exact ⟨i + 1, by congr 1, by omega, ⟨by have := HK.out; omega⟩, ⟨by rw [← HO.out, HD.out, if_pos HZ.out]⟩, rfl⟩
      · have hq : (x != 0) = true := by rw [bne_iff_ne]; exact hz
        have HZ := Aside0.mk (show orL xs = x by rw [← HO.out, HD.out, if_neg hz])
        clear hz
        go_wp2
        go_ret
        exact ⟨by rw [HZ.out]; rfl, rfl⟩
    · obtain rfl : i = n := by omega
      have hd0 : decide ((i : Int) < (i : Int)) = false := decide_eq_false (by omega)
      have HZ := Aside0.mk (show orL xs = 0 by rw [← HO.out, List.drop_of_length_le (by rw [HL.out]; omega)]; rfl)
      go_wp2
      go_ret
      exact ⟨by rw [HZ.out]; rfl, rfl⟩
/-- A place's cells. -/
def plV (x : Plc) : Array Value := #[.int .u32 (x.1 : Int), .int .u64 (x.2.1 : Int), .int .i64 x.2.2.1, .int .i64 x.2.2.2]
def cmpP (a b : Plc) : Int := orL [cmpN a.1 b.1, cmpN a.2.1 b.2.1]
theorem cmpN_wf (x y : Nat) : -1 ≤ cmpN x y ∧ cmpN x y ≤ 1 := by
  unfold cmpN
  split
  · omega
  · split <;> omega
theorem lit2 (W : World) (c1 c2 : Int) (h1 : -1 ≤ c1 ∧ c1 ≤ 1) (h2 : -1 ≤ c2 ∧ c2 ≤ 1) : (num .i64).C (W.alloc (.cells #[.int .i64 c1, .int .i64 c2] 3)) (some ⟨W.heap.size, 0, none⟩) 2 [c1, c2] := by
  have e : ∀ c : Int, (-1 ≤ c ∧ c ≤ 1) → ∀ w : World, (num .i64).K w c [.int .i64 c] := fun c hc w => ⟨rfl, by simp [Lit.wf, IntKind.min, IntKind.max, IntKind.bits, IntKind.signed]; omega⟩
  exact C_lit rfl (by exact ⟨e c1 h1 _, e c2 h2 _, trivial⟩) rfl rfl (by simp)
set_option maxHeartbeats 1000000 in
theorem compare_calls (x y : Plc) (w : World) : Calls Try.prog 68 #[.agg (plV x), .agg (plV y)] w fun e w' => e = .returned (.int .i64 (cmpP x y)) ∧ Below w.heap.size w w' := by
  obtain ⟨t, b, z, k⟩ := x
  obtain ⟨t', b', z', k'⟩ := y
  unfold plV
  dsimp only
  have hA := Aside0.mk (show Below w.heap.size w ((w.alloc (.cells #[.int .u32 (t : Int), .int .u64 (b : Int), .int .i64 z, .int .i64 k] 88)).alloc (.cells #[.int .u32 (t' : Int), .int .u64 (b' : Int), .int .i64 z', .int .i64 k'] 88)) from below_alloc (alloc_below _ _) _)
  have a0 : ((w.alloc (.cells #[.int .u32 (t : Int), .int .u64 (b : Int), .int .i64 z, .int .i64 k] 88)).alloc (.cells #[.int .u32 (t' : Int), .int .u64 (b' : Int), .int .i64 z', .int .i64 k'] 88)).cell? ⟨w.heap.size, 0, none⟩ = some (.int .u32 (t : Int)) := by go_simp
  have a1 : ((w.alloc (.cells #[.int .u32 (t : Int), .int .u64 (b : Int), .int .i64 z, .int .i64 k] 88)).alloc (.cells #[.int .u32 (t' : Int), .int .u64 (b' : Int), .int .i64 z', .int .i64 k'] 88)).cell? ⟨w.heap.size, 1, none⟩ = some (.int .u64 (b : Int)) := by go_simp
  have b0 : ((w.alloc (.cells #[.int .u32 (t : Int), .int .u64 (b : Int), .int .i64 z, .int .i64 k] 88)).alloc (.cells #[.int .u32 (t' : Int), .int .u64 (b' : Int), .int .i64 z', .int .i64 k'] 88)).cell? ⟨w.heap.size + 1, 0, none⟩ = some (.int .u32 (t' : Int)) := by go_simp
  have b1 : ((w.alloc (.cells #[.int .u32 (t : Int), .int .u64 (b : Int), .int .i64 z, .int .i64 k] 88)).alloc (.cells #[.int .u32 (t' : Int), .int .u64 (b' : Int), .int .i64 z', .int .i64 k'] 88)).cell? ⟨w.heap.size + 1, 1, none⟩ = some (.int .u64 (b' : Int)) := by go_simp
  go_enter Try.func68, Try.ntmps68
  go_wp2
  obtain ⟨W, hW⟩ : ∃ W, (w.alloc (.cells #[.int .u32 (t : Int), .int .u64 (b : Int), .int .i64 z, .int .i64 k] 88)).alloc (.cells #[.int .u32 (t' : Int), .int .u64 (b' : Int), .int .i64 z', .int .i64 k'] 88) = W := ⟨_, rfl⟩
  obtain ⟨g, hg⟩ : ∃ g, w.heap.size = g := ⟨_, rfl⟩
  rw [hW] at a0 a1 b0 b1 hA ⊢
  rw [hg] at a0 a1 b0 b1 ⊢
  have HG := Aside0.mk hg
  clear hW hg
  obtain ⟨c1, hc1⟩ : ∃ c, cmpN t t' = c := ⟨_, rfl⟩
  obtain ⟨c2, hc2⟩ : ∃ c, cmpN b b' = c := ⟨_, rfl⟩
  have HC1 := Aside0.mk hc1
  have HC2 := Aside0.mk hc2
  have HL := Aside0.mk (Kd.C_below (lit2 W c1 c2 (by rw [← hc1]; exact cmpN_wf _ _) (by rw [← hc2]; exact cmpN_wf _ _)) (below_drew (Below.refl _ _)))
  clear hc1 hc2
  go_region_held3 (fun w' => w'.cell? ⟨g, 0, none⟩ = some (.int .u32 (t : Int)) ∧ w'.cell? ⟨g, 1, none⟩ = some (.int .u64 (b : Int)) ∧ w'.cell? ⟨g + 1, 0, none⟩ = some (.int .u32 (t' : Int)) ∧ w'.cell? ⟨g + 1, 1, none⟩ = some (.int .u64 (b' : Int)))
    (first
      | exact ⟨a0, a1, b0, b1⟩
      | exact ⟨pw_cell_below (below_drew (alloc_below _ _)) a0, pw_cell_below (below_drew (alloc_below _ _)) a1, pw_cell_below (below_drew (alloc_below _ _)) b0, pw_cell_below (below_drew (alloc_below _ _)) b1⟩)
    (first
      | (go_at_call 83; (with_reducible refine (cmp32_calls t t' _).mono ?_); rintro e w8 ⟨rfl, rfl⟩; rw [HC1.out])
      | (go_at_call 84; (with_reducible refine (cmp64_calls b b' _).mono ?_); rintro e w8 ⟨rfl, rfl⟩; rw [HC2.out])
      | (go_at_call 82; (with_reducible refine (or_calls _ 2 2 [c1, c2] _ HL.out).mono ?_); rintro e w8 ⟨rfl, rfl⟩))
  go_wp2
  go_ret
  exact ⟨by unfold cmpP; rw [HC1.out, HC2.out]; rfl, by first | exact below_drew (below_alloc hA.out _) | (have := HG.out; subst this; exact below_drew (below_alloc hA.out _))⟩
end Go.Proofs.Ytkmeipblgdahoaa.Ck

/- Places in memory: the kind, an element's cells, how what came in opens; cmpP and the order. -/
namespace Go.Proofs.Ytkmeipblgdahoaa.Ck
open Go.RowKit Go.Proofs.YtkmeipblgdahoaaW.PrintWords Go.Proofs.YtkmeipblgdahoaaW.PrintMore Go.Proofs.Ytkmeipblgdahoaa.Base
set_option linter.unusedVariables false
set_option linter.unusedSimpArgs false
def plK : Kd Plc := Kd.pair (nat .u32) (Kd.pair (nat .u64) (Kd.pair (num .i64) (num .i64)))
def I64 (x : Int) : Prop := -9223372036854775808 ≤ x ∧ x ≤ 9223372036854775807
theorem plK_open {w : World} {x : Plc} {c : List Value} (h : plK.K w x c) : c = (plV x).toList ∧ PlcOk x ∧ I64 x.2.2.1 ∧ I64 x.2.2.2 := by
  obtain ⟨c0, c1, rfl, ⟨rfl, h0⟩, c2, c3, rfl, ⟨rfl, h1⟩, c4, c5, rfl, ⟨rfl, h2⟩, ⟨rfl, h3⟩⟩ := h
  refine ⟨rfl, ⟨?_, ?_⟩, wf_i64 h2, wf_i64 h3⟩
  · have := wf_u32' h0; omega
  · have := wf_u64' h1; omega
theorem wfI {x : Int} (h : I64 x) : (Lit.int .i64 x).wf = true := by
  obtain ⟨h1, h2⟩ := h
  simp [Lit.wf, IntKind.min, IntKind.max, IntKind.bits, IntKind.signed]
  omega
theorem wfU {k : IntKind} {n : Nat} (hs : k.signed = false) (h : (n : Int) < 2 ^ k.bits) : (Lit.int k (n : Int)).wf = true := by
  simp only [Lit.wf, IntKind.min, IntKind.max, hs, decide_eq_true_eq, Bool.and_eq_true, Bool.false_eq_true, if_false]
  exact ⟨by omega, by omega⟩
theorem plK_mk {w : World} {x : Plc} (h : PlcOk x) (h3 : I64 x.2.2.1) (h4 : I64 x.2.2.2) : plK.K w x (plV x).toList := by
  obtain ⟨h1, h2⟩ := h
  exact ⟨[.int .u32 (x.1 : Int)], _, rfl, ⟨rfl, wfU rfl (by show (x.1 : Int) < 4294967296; omega)⟩, [.int .u64 (x.2.1 : Int)], _, rfl, ⟨rfl, wfU rfl (by show (x.2.1 : Int) < 18446744073709551616; omega)⟩,
    [.int .i64 x.2.2.1], _, rfl, ⟨rfl, wfI h3⟩, ⟨rfl, wfI h4⟩⟩
theorem pl_at {w : World} {A : Option Addr} {n : Nat} {xs : List Plc} (h : plK.C w A n xs) (i : Nat) (hi : i < n) {p : Plc} (hp : xs.getD i plc0 = p) :
    ∃ ad, A = some ad ∧ PlcOk p ∧ I64 p.2.2.1 ∧ I64 p.2.2.2 ∧ w.cell? (ad.add (i * 4)) = some (.int .u32 (p.1 : Int)) ∧ w.cell? ⟨(ad.add (i * 4)).block, (ad.add (i * 4)).off + 1, none⟩ = some (.int .u64 (p.2.1 : Int)) ∧
      w.cell? ⟨(ad.add (i * 4)).block, (ad.add (i * 4)).off + 2, none⟩ = some (.int .i64 p.2.2.1) ∧ w.cell? ⟨(ad.add (i * 4)).block, (ad.add (i * 4)).off + 3, none⟩ = some (.int .i64 p.2.2.2) := by
  subst hp
  obtain ⟨ad, c, e, _, hK, hc⟩ := ReadsRow.get_ h plc0 (i : Int) (by omega) (by omega)
  rw [Int.toNat_natCast] at hc hK
  obtain ⟨rfl, ho, h3, h4⟩ := plK_open hK
  have hsz : plK.sz = 4 := rfl
  rw [hsz] at hc
  exact ⟨ad, e, ho, h3, h4, hc 0 _ rfl, cell_fld (hc 1 _ rfl) (by decide), cell_fld (hc 2 _ rfl) (by decide), cell_fld (hc 3 _ rfl) (by decide)⟩
theorem opn_plc : Opn Try.prog 88 plK :=
  Opn.struct Try.underlying88 (by kernel_rfl) (OpnFs.cons rfl (by kernel_rfl) (Opn.nat Try.underlying86 (fun n h => (wf_u32' h).1)) (OpnFs.cons rfl (by kernel_rfl) (Opn.nat Try.underlying24 (fun n h => (wf_u64' h).1))
    (OpnFs.last rfl (by kernel_rfl) (Opn.struct Try.underlying59 (by kernel_rfl) (OpnFs.cons rfl (by kernel_rfl) (Opn.num Try.underlying3) (OpnFs.last rfl (by kernel_rfl) (Opn.num Try.underlying3)))))))
/-- compare says below nought just where the one stands ahead of the other. -/
theorem cmpP_neg (a b : Plc) : cmpP a b < 0 ↔ Below2 a b := by
  unfold cmpP Below2 cmpN
  by_cases h1 : a.1 < b.1
  · simp [orL, h1]
  · by_cases h2 : b.1 < a.1
    · have : ¬ a.1 = b.1 := by omega
      simp [orL, h1, h2, this]
    · have h3 : a.1 = b.1 := by omega
      by_cases h4 : a.2.1 < b.2.1
      · simp [orL, h3, h4]
      · by_cases h5 : b.2.1 < a.2.1
        · simp [orL, h3, h4, h5]
        · simp [orL, h3, h4, h5]
theorem cmpP_ge (a b : Plc) : decide (0 ≤ cmpP a b) = !decide (Below2 a b) := by
  have := cmpP_neg a b
  by_cases h : Below2 a b
  · rw [decide_eq_true h, decide_eq_false (by have := this.2 h; omega)]; rfl
  · rw [decide_eq_false h, decide_eq_true (by have : ¬ cmpP a b < 0 := fun hh => h (this.1 hh); omega)]; rfl
end Go.Proofs.Ytkmeipblgdahoaa.Ck
