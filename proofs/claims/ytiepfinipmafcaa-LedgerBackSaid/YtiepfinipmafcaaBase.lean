/- Words of this seat's proofs: kinds of values with their bounds, and how an argument's reading opens to such a kind. No function of the program in sight. -/
import Derived.Test.YtiepfinipmafcaaWWords
import Derived.Deep.Slices
import Derived.ChangeSame
import Derived.ChangeArms
import Derived.Lib.SmallJoins
namespace Go.Proofs.Ytiepfinipmafcaa.Base
open Go.RowKit Go.Deep Go.Proofs.YtiepfinipmafcaaW.PrintWords
set_option linter.unusedVariables false

/-- A whole number within its kind. -/
def num (k : IntKind) : Kd Int where
  sz := 1
  E := []
  K := fun _ x cs => cs = [.int k x] ∧ (Lit.int k x).wf = true
  M := fun _ _ _ x cs => cs = [.int k x] ∧ (Lit.int k x).wf = true
  K_len := fun h => by rw [h.1]; rfl
  K_one := fun h u hu => by
    rw [h.1] at hu
    rw [List.mem_singleton.1 hu]
    rfl
  K_below := fun _ h => h
  K_of_M := fun h => h
  M_mono := fun _ h => h
  M_bound := fun h => h
  M_move := fun _ h => h
  M_lower := fun _ h => h
/-- A whole number of an unsigned kind, as a natural number. -/
def nat (k : IntKind) : Kd Nat where
  sz := 1
  E := []
  K := fun _ x cs => cs = [.int k (x : Int)] ∧ (Lit.int k (x : Int)).wf = true
  M := fun _ _ _ x cs => cs = [.int k (x : Int)] ∧ (Lit.int k (x : Int)).wf = true
  K_len := fun h => by rw [h.1]; rfl
  K_one := fun h u hu => by
    rw [h.1] at hu
    rw [List.mem_singleton.1 hu]
    rfl
  K_below := fun _ h => h
  K_of_M := fun h => h
  M_mono := fun _ h => h
  M_bound := fun h => h
  M_move := fun _ h => h
  M_lower := fun _ h => h
/-- A byte. -/
def byte : Kd UInt8 := Kd.scalar (fun b => .int .u8 (b.toNat : Int)) (fun _ => rfl)

theorem wf_u8 {x : Int} (h : (Lit.int .u8 x).wf = true) : 0 ≤ x ∧ x < 256 := by 
  have h' : 0 ≤ x ∧ x ≤ 255 := by simpa [Lit.wf, IntKind.min, IntKind.max, IntKind.bits, IntKind.signed] using h
  omega

theorem byte_at {w : World} {A : Option Addr} {n : Nat} {xs : List UInt8} (h : byte.C w A n xs) (i : Nat) (hi : i < n) :
    ∃ ad, A = some ad ∧ w.cell? (ad.add i) = some (.int .u8 ((xs.getD i 0).toNat : Int)) := by
  obtain ⟨ad, c, e, _, hK, hc⟩ := ReadsRow.get_ h 0 (i : Int) (by omega) (by omega)
  have hK' : c = [.int .u8 ((xs.getD i 0).toNat : Int)] := hK
  subst hK'
  refine ⟨ad, e, ?_⟩
  have := hc 0 _ rfl
  rwa [Int.toNat_natCast, show i * byte.sz + 0 = i from by show i * 1 + 0 = i; omega] at this
theorem bytes_at {e : Nat} {w : World} {A : Option Addr} {n : Nat} {xss : List (List UInt8)} (h : (Kd.slice e byte).C w A n xss) (i : Nat) (hi : i < n) :
    ∃ ad A0 c0, A = some ad ∧ w.cell? (ad.add i) = some (.slice A0 (xss.getD i []).length c0) ∧ (xss.getD i []).length ≤ c0 ∧ byte.C w A0 (xss.getD i []).length (xss.getD i []) := by
  obtain ⟨ad, c, e, _, hK, hc⟩ := ReadsRow.get_ h [] (i : Int) (by omega) (by omega)
  obtain ⟨A0, c0, rfl, h1, h2⟩ := hK
  rw [Int.toNat_natCast] at hc h1 h2
  refine ⟨ad, A0, c0, e, ?_, h1, h2⟩
  have := hc 0 _ rfl
  rwa [show i * (Kd.slice _ byte).sz + 0 = i from by show i * 1 + 0 = i; omega] at this
theorem byte_lt (b : UInt8) : (b.toNat : Int) < 256 := by have := b.toNat_lt; omega
theorem C_len {α : Type} {d : Kd α} {w : World} {A : Option Addr} {n : Nat} {xs : List α} (h : d.C w A n xs) : xs.length = n ∧ n ≤ 9223372036854775807 := ⟨h.1, h.2.1⟩
theorem drop_getD {α : Type} (xs : List α) (i : Nat) (d : α) (h : i < xs.length) : xs.drop i = xs.getD i d :: xs.drop (i + 1) := by
  rw [List.drop_eq_getElem_cons h, List.getD_eq_getElem?_getD, List.getElem?_eq_getElem h]; rfl

theorem wf_u16' {x : Int} (h : (Lit.int .u16 x).wf = true) : 0 ≤ x ∧ x < 65536 := by
  have h' : 0 ≤ x ∧ x ≤ 65535 := by simpa [Lit.wf, IntKind.min, IntKind.max, IntKind.bits, IntKind.signed] using h
  omega
theorem wf_u32' {x : Int} (h : (Lit.int .u32 x).wf = true) : 0 ≤ x ∧ x < 4294967296 := by
  have h' : 0 ≤ x ∧ x ≤ 4294967295 := by simpa [Lit.wf, IntKind.min, IntKind.max, IntKind.bits, IntKind.signed] using h
  omega
theorem wf_u64' {x : Int} (h : (Lit.int .u64 x).wf = true) : 0 ≤ x ∧ x < 18446744073709551616 := by
  have h' : 0 ≤ x ∧ x ≤ 18446744073709551615 := by simpa [Lit.wf, IntKind.min, IntKind.max, IntKind.bits, IntKind.signed] using h
  omega

/-- Cells that are so many values, each of kind d. -/
def Each {α : Type} (d : Kd α) (w : World) : List α → List Value → Prop
  | [], [] => True
  | x :: xs, v :: vs => d.K w x [v] ∧ Each d w xs vs
  | _, _ => False
theorem Each.len {α : Type} {d : Kd α} {w : World} : ∀ {xs : List α} {vs : List Value}, Each d w xs vs → vs.length = xs.length
  | [], [], _ => rfl
  | _ :: _, _ :: _, h => by simp [Each.len h.2]
theorem Each.get {α : Type} {d : Kd α} {w : World} : ∀ {xs : List α} {vs : List Value}, Each d w xs vs → ∀ (j : Nat) (x : α), xs[j]? = some x → ∃ v, vs[j]? = some v ∧ d.K w x [v]
  | x :: xs, v :: vs, h, 0, y, hy => ⟨v, rfl, by simp at hy; subst hy; exact h.1⟩
  | x :: xs, v :: vs, h, j + 1, y, hy => by
    obtain ⟨u, hu, hk⟩ := Each.get h.2 j y (by simpa using hy)
    exact ⟨u, by simpa using hu, hk⟩
  | [], [], _, j, y, hy => by simp at hy
theorem C_of_block {α : Type} {d : Kd α} (hs : d.sz = 1) {w : World} {b : Nat} {vs : Array Value} {t : TypeId} {fr : Nat × Nat} {xs : List α} (hb : w.heap[b]? = some (.cells vs t fr)) (h : Each d w xs vs.toList)
    (hm : xs.length ≤ 9223372036854775807) : d.C w (some ⟨b, 0, none⟩) xs.length xs := by
  refine ⟨rfl, hm, fun _ => ⟨_, rfl, fun j x hj => ?_⟩⟩
  obtain ⟨v, hv, hk⟩ := h.get j x hj
  refine ⟨[v], by rw [hs]; rfl, hk, fun i u hu => ?_⟩
  have hi : i = 0 := by have := (List.getElem?_eq_some_iff.1 hu).1; simp at this; exact this
  subst hi
  have hu' : v = u := by simpa using hu
  subst hu'
  rw [hs, Nat.mul_one, Nat.add_zero, add_plain]
  rw [Array.getElem?_toList] at hv
  simp [World.cell?, hb, hv]
theorem C_of_blockN {α : Type} {d : Kd α} {w : World} {b : Nat} {vs : Array Value} {t : TypeId} {fr : Nat × Nat} {xs : List α} (hb : w.heap[b]? = some (.cells vs t fr)) (hl : vs.size = xs.length * d.sz)
    (h : ∀ (j : Nat) (x : α), xs[j]? = some x → d.K w x ((vs.toList.drop (j * d.sz)).take d.sz)) (hm : xs.length ≤ 9223372036854775807) : d.C w (some ⟨b, 0, none⟩) xs.length xs := by
  refine ⟨rfl, hm, fun _ => ⟨_, rfl, fun j x hj => ⟨_, d.K_len (h j x hj), h j x hj, fun i u hu => ?_⟩⟩⟩
  have hi : i < d.sz := by have := (List.getElem?_eq_some_iff.1 hu).1; rw [d.K_len (h j x hj)] at this; exact this
  rw [List.getElem?_take_of_lt hi, List.getElem?_drop, Array.getElem?_toList] at hu
  rw [add_plain]
  simp [World.cell?, hb, hu]
theorem Each.mono {α : Type} {d : Kd α} {w w1 : World} (hb : Below w.heap.size w w1) : ∀ {xs : List α} {vs : List Value}, Each d w xs vs → Each d w1 xs vs
  | [], [], _ => trivial
  | _ :: _, _ :: _, h => ⟨d.K_below hb h.1, Each.mono hb h.2⟩
theorem alloc_below (w : World) (o : Obj) : Below w.heap.size w (w.alloc o) := (Below.refl _ _).alloc (Nat.le_refl _) o
/-- What a literal lays. -/
theorem C_lit {α : Type} {d : Kd α} (hs : d.sz = 1) {w : World} {vs : Array Value} {t : TypeId} {fr : Nat × Nat} {xs : List α} (h : Each d w xs vs.toList) {b n : Nat} (hb : b = w.heap.size) (hn : n = xs.length) (hm : xs.length ≤ 9223372036854775807) :
    d.C (w.alloc (.cells vs t fr)) (some ⟨b, 0, none⟩) n xs := by
  subst hb hn
  exact C_of_block hs (heap_alloc_new w _) (h.mono (alloc_below w _)) hm
theorem cell_fld {w : World} {ad : Addr} {m j : Nat} {u : Value} (h : w.cell? (ad.add (m + j)) = some u) (hj : 0 < j) : w.cell? ⟨(ad.add m).block, (ad.add m).off + j, none⟩ = some u := by rwa [add_field ad m j hj] at h
theorem grown_undrew {W w1 : World} {r : Option Nat} (h : W.drew.grownBy w1 r) : W.grownBy w1 r := ⟨h.os, h.tape, h.output, h.size, h.block⟩
theorem below_go {w w1 w2 : World} (h : Below w.heap.size w w1) (k : Below w1.heap.size w1 w2) : Below w.heap.size w w2 := below_then h h.size k
theorem blk_here {W : World} {o : Obj} {b : Nat} (hb : b = W.heap.size) : (W.alloc o).heap[b]? = some o := by subst hb; exact heap_alloc_new W o
theorem blk_past {W : World} {o x : Obj} {b : Nat} (h : W.heap[b]? = some x) : (W.alloc o).heap[b]? = some x := by
  have hlt : b < W.heap.size := (Array.getElem?_eq_some_iff.1 h).1
  rw [← h]
  exact ((alloc_below W o).block b hlt)
theorem blk_drawn {W : World} {x : Obj} {b : Nat} (h : W.heap[b]? = some x) : W.drew.heap[b]? = some x := h
theorem K_bytes {e : Nat} {w : World} {A : Option Addr} {n c : Nat} {xs : List UInt8} (h : byte.C w A n xs) (hc : n ≤ c) : (Kd.slice e byte).K w xs [.slice A n c] := by
  obtain ⟨hl, _⟩ := C_len h
  subst hl
  exact ⟨A, c, rfl, hc, h⟩

/-- What reads as type t is of kind d. -/
structure Opn {α : Type} (P : Program) (t : TypeId) (d : Kd α) : Prop where
  out : ∀ {H : Type} (enc : TypeId × Value → H) (w : World) (base : Nat) (spare : Nat → Bool) (held : Bool) (fuel : Nat) (cs : List Value) (x : DataW H × List MemPlace),
    DataW.trod enc P w base spare held fuel t cs = some x → ∃ a, d.K w a cs

section
variable {P : Program} {t e : TypeId}
theorem Opn.num {k : IntKind} (ht : P.underlying t = some (.int k)) : Opn P t (num k) := by
  refine ⟨fun {H} enc w base spare held fuel cs x h => ?_⟩
  obtain ⟨n, rfl, _, hw⟩ := DataW.trod_int ht h
  exact ⟨n, rfl, hw⟩
theorem Opn.nat {k : IntKind} (ht : P.underlying t = some (.int k)) (h0 : ∀ n : Int, (Lit.int k n).wf = true → 0 ≤ n) : Opn P t (nat k) := by
  refine ⟨fun {H} enc w base spare held fuel cs x h => ?_⟩
  obtain ⟨n, rfl, _, hw⟩ := DataW.trod_int ht h
  have h1 := h0 n hw
  refine ⟨n.toNat, ?_, ?_⟩
  · rw [show ((n.toNat : Nat) : Int) = n by omega]
  · rw [show ((n.toNat : Nat) : Int) = n by omega]; exact hw
theorem Opn.bool (ht : P.underlying t = some .bool) : Opn P t Kd.bool := by
  refine ⟨fun {H} enc w base spare held fuel cs x h => ?_⟩
  obtain ⟨b, rfl, _⟩ := DataW.trod_bool ht h
  exact ⟨b, rfl⟩
theorem Opn.byte (ht : P.underlying t = some (.int .u8)) : Opn P t byte := by
  refine ⟨fun {H} enc w base spare held fuel cs x h => ?_⟩
  obtain ⟨n, rfl, _, hw⟩ := DataW.trod_int ht h
  have hb := wf_u8 hw
  refine ⟨UInt8.ofNat n.toNat, ?_⟩
  show [Value.int .u8 n] = [Value.int .u8 _]
  have : ((UInt8.ofNat n.toNat).toNat : Int) = n := by
    rw [UInt8.toNat_ofNat']
    omega
  rw [this]
theorem Opn.iso {α β : Type} {d : Kd α} (f : β → α) (g : α → β) (hg : ∀ a, f (g a) = a) (h : Opn P t d) : Opn P t (d.iso f) := by
  refine ⟨fun {H} enc w base spare held fuel cs x hx => ?_⟩
  obtain ⟨a, ha⟩ := h.out enc w base spare held fuel cs x hx
  exact ⟨g a, by show d.K w (f (g a)) cs; rw [hg]; exact ha⟩
theorem Opn.slice {α : Type} {d : Kd α} (ht : P.underlying t = some (.slice e)) (hc : P.cellsOf e = d.sz) (h : Opn P e d) : Opn P t (Kd.slice e d) := by
  refine ⟨fun {H} enc w base spare held fuel cs x hx => ?_⟩
  rcases open_slice ht hx with ⟨rfl, _⟩ | ⟨a, len, cap, m, n, D, Pl, rfl, _, hl, hm, hmm, _, hel⟩
  · exact ⟨[], none, 0, rfl, Nat.le_refl _, rfl, by simp, fun hp => by simp at hp⟩
  · have hlm : len ≤ m := by rw [hmm]; split <;> omega
    have hel' : ∀ i, i < len → ∃ y : α, ∃ c, c.length = d.sz ∧ d.K w y c ∧ ∀ j u, c[j]? = some u → w.cell? (a.add (i * d.sz + j)) = some u := by
      intro i hi
      obtain ⟨cs', hcs, htr⟩ := hel i (by omega)
      obtain ⟨y, hy⟩ := h.out enc w base spare held n cs' _ htr
      refine ⟨y, cs', d.K_len hy, hy, fun j u hu => ?_⟩
      rw [hc] at hcs
      have hj : j < d.sz := by have := (List.getElem?_eq_some_iff.1 hu).1; rw [d.K_len hy] at this; exact this
      have := (World.cells?_some hcs).2.2 j hj
      rw [Go.Deep.add_add] at this
      rw [this, hu]
    have hne : ∀ i : Fin len, ∃ y : α, ∃ c, c.length = d.sz ∧ d.K w y c ∧ ∀ j u, c[j]? = some u → w.cell? (a.add (i.1 * d.sz + j)) = some u := fun i => hel' i.1 i.2
    obtain ⟨f, hf⟩ := Classical.axiomOfChoice hne
    refine ⟨List.ofFn f, some a, cap, by rw [List.length_ofFn], by rw [List.length_ofFn]; exact hl, by rw [List.length_ofFn], ?_, fun _ => ⟨a, rfl, ?_⟩⟩
    · rw [List.length_ofFn]; simp only [maxLen] at hm; omega
    · intro j p hj
      have hlt : j < len := by have := (List.getElem?_eq_some_iff.1 hj).1; rw [List.length_ofFn] at this; exact this
      rw [List.getElem?_ofFn] at hj
      simp only [hlt, dif_pos, Option.some.injEq] at hj
      subst hj
      exact hf ⟨j, hlt⟩

/-- The fields of a struct from an offset on. -/
structure OpnFs {α : Type} (P : Program) (fs : List Field) (off : Nat) (d : Kd α) : Prop where
  out : ∀ {H : Type} (enc : TypeId × Value → H) (w : World) (base : Nat) (spare : Nat → Bool) (held : Bool) (fuel : Nat) (cs : List Value),
    cs.length = off + d.sz → (∀ f ∈ fs, ∃ y, DataW.trod enc P w base spare held fuel f.type ((cs.drop f.offset).take (P.cellsOf f.type)) = some y) → ∃ a, d.K w a (cs.drop off)
theorem OpnFs.last {α : Type} {d : Kd α} {f : Field} {off : Nat} (ho : f.offset = off) (hc : P.cellsOf f.type = d.sz) (h : Opn P f.type d) : OpnFs P [f] off d := by
  refine ⟨fun {H} enc w base spare held fuel cs hl hf => ?_⟩
  obtain ⟨y, hy⟩ := hf f (by simp)
  rw [ho, hc, List.take_of_length_le (by rw [List.length_drop]; omega)] at hy
  exact h.out enc w base spare held fuel _ y hy
theorem OpnFs.cons {α β : Type} {a : Kd α} {b : Kd β} {f : Field} {fs : List Field} {off : Nat} (ho : f.offset = off) (hc : P.cellsOf f.type = a.sz) (h : Opn P f.type a) (hr : OpnFs P fs (off + a.sz) b) : OpnFs P (f :: fs) off (Kd.pair a b) := by
  refine ⟨fun {H} enc w base spare held fuel cs hl hf => ?_⟩
  have hsz : (Kd.pair a b).sz = a.sz + b.sz := rfl
  rw [hsz] at hl
  obtain ⟨y, hy⟩ := hf f (by simp)
  rw [ho, hc] at hy
  obtain ⟨x, hx⟩ := h.out enc w base spare held fuel _ y hy
  obtain ⟨z, hz⟩ := hr.out enc w base spare held fuel cs (by omega) (fun g hg => hf g (List.mem_cons_of_mem _ hg))
  refine ⟨(x, z), (cs.drop off).take a.sz, cs.drop (off + a.sz), ?_, hx, hz⟩
  rw [← List.drop_drop, List.take_append_drop]
theorem Opn.struct {α : Type} {d : Kd α} {fs : Array Field} (ht : P.underlying t = some (.struct fs)) (hc : P.cellsOf t = d.sz) (h : OpnFs P fs.toList 0 d) : Opn P t d := by
  refine ⟨fun {H} enc w base spare held fuel cs x hx => ?_⟩
  obtain ⟨xs, n, _, _, hl, hlen, hf⟩ := DataW.trod_struct ht hx
  have := h.out enc w base spare held n cs (by omega) (fun f hfm => by
    obtain ⟨i, hi, rfl⟩ := List.mem_iff_getElem.1 hfm
    have hi' : i < xs.length := by simpa [hlen] using hi
    have h1 := hf i _ (by rw [← Array.getElem?_toList]; exact List.getElem?_eq_getElem hi)
    rw [List.getElem?_eq_getElem hi'] at h1
    exact ⟨_, h1⟩)
  simpa using this
theorem open_kd {H : Type} {enc : TypeId × Value → H} {α : Type} {d : Kd α} (ht : P.underlying t = some (.slice e)) (hc : P.cellsOf e = d.sz) (ho : Opn P e d) {W : World} {base : Nat} {sp : Nat → Bool} {held : Bool} {a : Option Addr} {len cap : Nat} {x : DataW H} {p : List MemPlace}
    (h : DataW.Trod enc P W base sp held t (.slice a len cap) x p) : ∃ xs : List α, d.C W a len xs ∧ len ≤ cap := by
  obtain ⟨fuel, hf⟩ := h
  obtain ⟨xs, A, c, he, hl, hr⟩ := (Opn.slice ht hc ho).out enc W base sp held fuel _ _ hf
  have he' : Value.slice a len cap = .slice A xs.length c := by simpa [Value.cells] using he
  injection he' with h1 h2 h3
  subst h1 h2 h3
  exact ⟨xs, hr, hl⟩
theorem open_agg_kd {H : Type} {enc : TypeId × Value → H} {α : Type} {d : Kd α} {fs : Array Field} (ht : P.underlying t = some (.struct fs)) (ho : Opn P t d) {W : World} {r : Reach} {b0 base : Nat} {sp : Nat → Bool} {held : Bool} {v : Value} {x : DataW H} {p : List MemPlace}
    (hv : Value.okWide P W r b0 t v) (h : DataW.Trod enc P W base sp held t v x p) : ∃ (a : α) (cs : Array Value), v = .agg cs ∧ d.K W a cs.toList := by
  obtain ⟨cs, rfl, hsz⟩ := Go.WideShapes.okWide_struct ht hv
  obtain ⟨fuel, hf⟩ := h
  obtain ⟨a, ha⟩ := ho.out enc W base sp held fuel _ _ hf
  exact ⟨a, cs, rfl, by simpa [Value.cells] using ha⟩
theorem nat_of {k : IntKind} {m : Nat} {a : Int} (h : (Lit.int k a).wf = true) (hk : ∀ x : Int, (Lit.int k x).wf = true → 0 ≤ x ∧ x < m) : ∃ n : Nat, a = (n : Int) ∧ n < m := by
  have := hk a h
  exact ⟨a.toNat, by omega, by omega⟩
theorem wf_u16 {x : Int} (h : (Lit.int .u16 x).wf = true) : 0 ≤ x ∧ x < (65536 : Nat) := by
  have h' : 0 ≤ x ∧ x ≤ 65535 := by simpa [Lit.wf, IntKind.min, IntKind.max, IntKind.bits, IntKind.signed] using h
  omega
theorem wf_u32 {x : Int} (h : (Lit.int .u32 x).wf = true) : 0 ≤ x ∧ x < (4294967296 : Nat) := by
  have h' : 0 ≤ x ∧ x ≤ 4294967295 := by simpa [Lit.wf, IntKind.min, IntKind.max, IntKind.bits, IntKind.signed] using h
  omega
theorem wf_u64 {x : Int} (h : (Lit.int .u64 x).wf = true) : 0 ≤ x ∧ x < (18446744073709551616 : Nat) := by
  have h' : 0 ≤ x ∧ x ≤ 18446744073709551615 := by simpa [Lit.wf, IntKind.min, IntKind.max, IntKind.bits, IntKind.signed] using h
  omega
theorem wf_i64 {x : Int} (h : (Lit.int .i64 x).wf = true) : -9223372036854775808 ≤ x ∧ x ≤ 9223372036854775807 := by
  simpa [Lit.wf, IntKind.min, IntKind.max, IntKind.bits, IntKind.signed] using h
theorem byte_of {a : Int} (h : (Lit.int .u8 a).wf = true) : ∃ b : UInt8, a = (b.toNat : Int) := by
  have hb := wf_u8 h
  refine ⟨UInt8.ofNat a.toNat, ?_⟩
  rw [UInt8.toNat_ofNat']
  omega
end
end Go.Proofs.Ytiepfinipmafcaa.Base
