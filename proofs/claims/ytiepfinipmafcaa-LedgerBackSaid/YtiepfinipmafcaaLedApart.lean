/- The statement LedgerApart: what others take and give makes no difference to a tenant. -/
import Derived.Test.YtiepfinipmafcaaLedRefN
namespace Go.Proofs.Ytiepfinipmafcaa.Led
open Go.RowKit Go.Maps Go.Proofs.YtiepfinipmafcaaW.PrintWords Go.Proofs.YtiepfinipmafcaaW.PrintMore Go.Proofs.Ytiepfinipmafcaa.Base
set_option linter.unusedVariables false
set_option linter.unusedSimpArgs false

def SaysT (n : Nat) (e : Ending) : Prop := e = .returned (.bool false) ∨ (e = .returned (.bool true) ∧ n ≤ 70)
theorem tenants_calls (A : Option Addr) (n cap : Nat) (xs : List Ten) (w : World) (h : tenK.C w A n xs) :
    Calls Try.prog 9 #[.slice A n cap] w fun e w' => SaysT n e ∧ w = w' := by
  have H := Aside0.mk h
  obtain ⟨hlen, hmax⟩ := C_len h
  clear h hlen
  by_cases hn : n ≤ 70
  · go_enter Try.func9, Try.ntmps9
    go_wp2
    go_loopg [3] n (fun k v3 wr => ∃ i : Nat, v3 = .int .i64 (i : Int) ∧ i ≤ n ∧ Aside0 (k + i = n) ∧ wr = w)
    case atStart => exact ⟨0, rfl, by omega, ⟨rfl⟩, rfl⟩
    case round =>
      obtain ⟨i, rfl, hi, HK, rfl⟩ := hrel
      by_cases hlt : i < n
      · obtain ⟨t, ht⟩ : ∃ t, xs.getD i (0, [], 0, 0, []) = t := ⟨_, rfl⟩
        obtain ⟨ad, a, m, k, a', m', k', rfl, h1, h2, c0, c1, c2, c3, c4⟩ := ten_at H.out i hlt t ht
        clear ht c0 c2 c3
        by_cases hm : 200 < (m : Int)
        · have hm' : decide (200 < (m : Int)) = true := decide_eq_true hm
          go_wp2
          go_ret
          exact ⟨.inl rfl, rfl⟩
        · have hm' : decide (200 < (m : Int)) = false := decide_eq_false hm
          by_cases hm2 : 50 < (m' : Int)
          · have hm2' : decide (50 < (m' : Int)) = true := decide_eq_true hm2
            go_wp2
            go_ret
            exact ⟨.inl rfl, rfl⟩
          · have hm2' : decide (50 < (m' : Int)) = false := decide_eq_false hm2
            go_wp2
            go_roundg (gk - 1)
            case measure => have := HK.out; omega
            case rel => exact ⟨i + 1, by congr 1, by omega, ⟨by have := HK.out; omega⟩, rfl⟩
      · go_wp2
        go_ret
        exact ⟨.inr ⟨rfl, hn⟩, rfl⟩
  · go_enter Try.func9, Try.ntmps9
    go_wp2
    go_ret
    exact ⟨.inl rfl, rfl⟩

/-- What is left as it was by a call on the ledger with the map bm and one on the document's ledger xr. -/
def Keeps (w w' : World) (bm xr : Nat) : Prop :=
  (∀ xa ba n f, Ledg w xa ba n f → xa < xr → ba < xr → xa ≠ bm → ba ≠ bm → Ledg w' xa ba n f) ∧ ∀ B, B ≤ bm → B ≤ xr → B ≤ w.heap.size → Below B w w'
theorem keeps_map {w w' : World} {bm : Nat} (xr : Nat) (h : w.grownBy w' (some bm)) : Keeps w w' bm xr :=
  ⟨fun xa ba n f hl _ _ h1 h2 => hl.kept h (by simp [h1]) (by simp [h2]), fun B h1 _ h3 => (Below.refl B w).grown h h3 (fun k hk => by simp at hk; omega)⟩
theorem keeps_row {w w' : World} {row : Option Nat} {xr : Nat} (bm : Nat) (h : w.grownBy w' row) (hr : ∀ g, row = some g → xr < g) : Keeps w w' bm xr :=
  ⟨fun xa ba n f hl h1 h2 _ _ => hl.kept h (fun e => by have := hr xa e.symm; omega) (fun e => by have := hr ba e.symm; omega), fun B _ h2 h3 => (Below.refl B w).grown h h3 (fun k hk => by have := hr k hk; omega)⟩
theorem keeps_below {w w' : World} (bm xr : Nat) (h : Below w.heap.size w w') : Keeps w w' bm xr :=
  ⟨fun xa ba n f hl _ _ _ _ => hl.below h, fun B _ _ h3 => h.mono h3⟩
theorem Keeps.trans {w w1 w2 : World} {bm xr : Nat} (h : Keeps w w1 bm xr) (k : Keeps w1 w2 bm xr) : Keeps w w2 bm xr :=
  ⟨fun xa ba n f hl h1 h2 h3 h4 => k.1 xa ba n f (h.1 xa ba n f hl h1 h2 h3 h4) h1 h2 h3 h4, fun B h1 h2 h3 => (h.2 B h1 h2 h3).trans (k.2 B h1 h2 (Nat.le_trans h3 (h.2 B h1 h2 h3).size))⟩
def IsB (e : Ending) : Prop := ∃ b, e = .returned (.bool b)
theorem box_ne {w : World} {g xr : Nat} {row : Option Nat} (hgg : ∀ g, row = some g → xr < g ∧ ∃ cells, w.heap[g]? = some (.cells cells 62 (0, 0))) {cs : Array Value} (h : w.heap[g]? = some (.cells cs 33 (0, 0))) : some g ≠ row := by
  intro e
  obtain ⟨_, cells, hc⟩ := hgg g e.symm
  rw [h] at hc
  simp at hc
theorem blk_cells {w : World} {g : Nat} {gv : Bool} {k m : Nat} (h : w.heap[g]? = some (.cells #[.bool gv, .int .u32 (k : Int), .int .u64 (m : Int)] 33 (0, 0))) :
    w.cell? ⟨g, 1, none⟩ = some (.int .u32 (k : Int)) ∧ w.cell? ⟨g, 2, none⟩ = some (.int .u64 (m : Int)) ∧ w.heap[g]? = some (.cells #[.bool gv, .int .u32 (k : Int), .int .u64 (m : Int)] 33 (0, 0)) :=
  ⟨by simp [World.cell?, h], by simp [World.cell?, h], h⟩
theorem box_kept {w w' : World} {g : Nat} {row : Option Nat} {o : Obj} (h : w.heap[g]? = some o) (hg : w.grownBy w' row) (hne : some g ≠ row) : w'.heap[g]? = some o := (hg.block g (Array.getElem?_eq_some_iff.1 h).1 hne).trans h
theorem goodL_take {l l' : List Row} {k m : Nat} {b : Bool} (hl : GoodL l) (h : TakeL l k m b l') : GoodL l' := by
  rcases h with ⟨_, _, rfl⟩ | ⟨j, hj, _, _, ⟨h1, _, rfl⟩ | ⟨_, _, rfl⟩⟩
  · exact hl
  · have := hl.get hj rfl
    exact hl.set j (by simp only; omega)
  · exact hl
theorem goodL_give {l l' : List Row} {k m : Nat} {b : Bool} (hl : GoodL l) (h : GiveL l k m b l') : GoodL l' := by
  rcases h with ⟨_, _, rfl⟩ | ⟨j, hj, _, _, ⟨h1, _, rfl⟩ | ⟨_, _, rfl⟩⟩
  · exact hl
  · have := hl.get hj rfl
    exact hl.set j (by simp only; omega)
  · exact hl
def opF (gv : Bool) (f : Nat → Option (Nat × Nat)) (k m : Nat) : Nat → Option (Nat × Nat) := if gv then giveF f k m else takeF f k m

set_option maxHeartbeats 4000000 in
theorem does_calls (xb bm n k m xr : Nat) (gv : Bool) (f : Nat → Option (Nat × Nat)) (l : List Row) (hk : k < 4294967296) (hm : m < 18446744073709551616) (hn : n < maxLen) (hf : Good f) (hl : GoodL l) (hx : xb < xr) (hb : bm < xr) (w : World) (h : Ledg w xb bm n f) (hr : RefL w xr l) :
    Calls Try.prog 13 #[.pointer (some ⟨xb, 0, none⟩), .pointer (some ⟨xr, 0, none⟩), .agg #[.bool gv, .int .u32 (k : Int), .int .u64 (m : Int)]] w
      fun e w' => IsB e ∧ Ledg w' xb bm (n + 1) (opF gv f k m) ∧ (∃ l', RefL w' xr l' ∧ GoodL l') ∧ Keeps w w' bm xr := by
  obtain ⟨⟨y, z⟩, hyz⟩ : ∃ x, (f k).getD (0, 0) = x := ⟨_, rfl⟩
  have HYZ := Aside0.mk hyz
  have HF := Aside0.mk hf
  have HLL := Aside0.mk hl
  have hbs := h.acc.lt
  have hba := alloc_below w (.cells #[.bool gv, .int .u32 (k : Int), .int .u64 (m : Int)] 33)
  have HL := Aside0.mk (show Ledg (w.alloc (.cells #[.bool gv, .int .u32 (k : Int), .int .u64 (m : Int)] 33)).drew xb bm n f from (h.below hba).below (below_drew (Below.refl _ _)))
  have HR := Aside0.mk (show RefL (w.alloc (.cells #[.bool gv, .int .u32 (k : Int), .int .u64 (m : Int)] 33)).drew xr l from (hr.below hba).below (below_drew (Below.refl _ _)))
  have HK := Aside0.mk (show Keeps w (w.alloc (.cells #[.bool gv, .int .u32 (k : Int), .int .u64 (m : Int)] 33)).drew bm xr from (keeps_below bm xr hba).trans (keeps_below bm xr (below_drew (Below.refl _ _))))
  have HB := Aside0.mk (show (w.alloc (.cells #[.bool gv, .int .u32 (k : Int), .int .u64 (m : Int)] 33)).drew.heap[w.heap.size]? = some (.cells #[.bool gv, .int .u32 (k : Int), .int .u64 (m : Int)] 33 (0, 0)) from blk_here (W := w) rfl)
  have HNE := Aside0.mk (show (some w.heap.size : Option Nat) ≠ some bm from by simp; omega)
  have HX := Aside0.mk hx
  have HBX := Aside0.mk hb
  clear h hr hf hl hyz hba hbs hx hb
  cases gv with
  | true =>
    go_enter Try.func13, Try.ntmps13
    go_wp2
    generalize w.alloc (.cells #[.bool true, .int .u32 (k : Int), .int .u64 (m : Int)] 33) = W at *
    generalize w.heap.size = g at *
    obtain ⟨c1, c2, _⟩ := blk_cells HB.out
    go_region_held3 (fun w' => w'.cell? ⟨g, 1, none⟩ = some (.int .u32 (k : Int)) ∧ w'.cell? ⟨g, 2, none⟩ = some (.int .u64 (m : Int)) ∧ w'.heap[g]? = some (.cells #[.bool true, .int .u32 (k : Int), .int .u64 (m : Int)] 33 (0, 0)))
      (first
        | exact blk_cells HB.out
        | (go_split_ands; exact blk_cells (box_kept (by assumption) hg8 HNE.out))
        | (go_split_ands; exact blk_cells (box_kept (by assumption) hg9 (box_ne hgg9 (by assumption)))))
      (first
        | (go_at_call 14; (first | (with_reducible refine (give_calls xb bm n k m f hk hm hn HF.out y z HYZ.out _ HL.out).mono ?_) | (with_reducible refine (give_calls xb bm n k m f hk hm hn HF.out y z HYZ.out _ (HL.out.kept hg9 (fun e => by have := (hgg9 _ e.symm).1; have := HX.out; omega) (fun e => by have := (hgg9 _ e.symm).1; have := HBX.out; omega))).mono ?_)); rintro e w8 ⟨rfl, hl8, hg8⟩)
        | (go_at_call 26; (first | (with_reducible refine (refgive_calls xr k m hk hm l HLL.out _ HR.out).mono ?_) | (with_reducible refine (refgive_calls xr k m hk hm l HLL.out _ (HR.out.grown hg8 (fun k hk => by simp at hk; have := HBX.out; omega))).mono ?_)); rintro e w9 ⟨b9, l9, row9, rfl, ht9, hr9, hg9, hgg9⟩))
    go_wp2
    go_ret
    refine ⟨⟨_, rfl⟩, ?_, ⟨l9, ?_, goodL_give HLL.out ht9⟩, ?_⟩
    · exact hl8.kept hg9 (fun e => by have := (hgg9 _ e.symm).1; have := HX.out; omega) (fun e => by have := (hgg9 _ e.symm).1; have := HBX.out; omega)
    · exact hr9
    · exact (HK.out.trans (keeps_map xr hg8)).trans (keeps_row bm hg9 (fun g hg => (hgg9 g hg).1))
  | false =>
    go_enter Try.func13, Try.ntmps13
    go_wp2
    generalize w.alloc (.cells #[.bool false, .int .u32 (k : Int), .int .u64 (m : Int)] 33) = W at *
    generalize w.heap.size = g at *
    obtain ⟨c1, c2, _⟩ := blk_cells HB.out
    go_region_held3 (fun w' => w'.cell? ⟨g, 1, none⟩ = some (.int .u32 (k : Int)) ∧ w'.cell? ⟨g, 2, none⟩ = some (.int .u64 (m : Int)) ∧ w'.heap[g]? = some (.cells #[.bool false, .int .u32 (k : Int), .int .u64 (m : Int)] 33 (0, 0)))
      (first
        | exact blk_cells HB.out
        | (go_split_ands; exact blk_cells (box_kept (by assumption) hg8 HNE.out))
        | (go_split_ands; exact blk_cells (box_kept (by assumption) hg9 (box_ne hgg9 (by assumption)))))
      (first
        | (go_at_call 15; (first | (with_reducible refine (take_calls xb bm n k m f hk hm hn HF.out y z HYZ.out _ HL.out).mono ?_) | (with_reducible refine (take_calls xb bm n k m f hk hm hn HF.out y z HYZ.out _ (HL.out.kept hg9 (fun e => by have := (hgg9 _ e.symm).1; have := HX.out; omega) (fun e => by have := (hgg9 _ e.symm).1; have := HBX.out; omega))).mono ?_)); rintro e w8 ⟨rfl, hl8, hg8⟩)
        | (go_at_call 27; (first | (with_reducible refine (reftake_calls xr k m hk hm l HLL.out _ HR.out).mono ?_) | (with_reducible refine (reftake_calls xr k m hk hm l HLL.out _ (HR.out.grown hg8 (fun k hk => by simp at hk; have := HBX.out; omega))).mono ?_)); rintro e w9 ⟨b9, l9, row9, rfl, ht9, hr9, hg9, hgg9⟩))
    go_wp2
    go_ret
    refine ⟨⟨_, rfl⟩, ?_, ⟨l9, ?_, goodL_take HLL.out ht9⟩, ?_⟩
    · exact hl8.kept hg9 (fun e => by have := (hgg9 _ e.symm).1; have := HX.out; omega) (fun e => by have := (hgg9 _ e.symm).1; have := HBX.out; omega)
    · exact hr9
    · exact (HK.out.trans (keeps_map xr hg8)).trans (keeps_row bm hg9 (fun g hg => (hgg9 g hg).1))
theorem giveF_cong {f fa : Nat → Option (Nat × Nat)} {k : Nat} (m : Nat) (h : f k = fa k) : giveF f k m k = giveF fa k m k := by
  unfold giveF setF
  rw [h]
  split
  · split
    · simp [upd]
    · exact h
  · exact h
theorem takeF_cong {f fa : Nat → Option (Nat × Nat)} {k : Nat} (m : Nat) (h : f k = fa k) : takeF f k m k = takeF fa k m k := by
  unfold takeF setF
  rw [h]
  split
  · split
    · simp [upd]
    · exact h
  · exact h
theorem setF_other {f : Nat → Option (Nat × Nat)} {k j : Nat} {x : Nat × Nat} (h : j ≠ k) : setF f k x j = f j := by
  unfold setF
  split
  · simp [upd, h]
  · rfl
theorem opF_other {f : Nat → Option (Nat × Nat)} {k j m : Nat} {gv : Bool} (h : j ≠ k) : opF gv f k m j = f j := by
  unfold opF giveF takeF
  split <;> split <;> first | exact setF_other h | rfl
theorem Good.opF {f : Nat → Option (Nat × Nat)} (h : Good f) (gv : Bool) (k m : Nat) : Good (opF gv f k m) := by
  unfold Led.opF
  split
  · exact h.giveF k m
  · exact h.takeF k m

/-- Two ledgers and the document's, while all goes well: the two tell the same of the tenant. -/
structure Inv (w0 w : World) (xb bm xa ba xr n tn : Nat) (f fa : Nat → Option (Nat × Nat)) (l : List Row) : Prop where
  x : Ledg w xb bm n f
  a : Ledg w xa ba n fa
  r : RefL w xr l
  gf : Good f
  ga : Good fa
  gl : GoodL l
  same : f tn = fa tn
  below : Below w0.heap.size w0 w
  o1 : xb < xa ∧ xb < ba ∧ bm < xa ∧ bm < ba ∧ xa < xr ∧ ba < xr
  o2 : w0.heap.size ≤ xb ∧ w0.heap.size ≤ bm
theorem Inv.go {w0 w w1 : World} {xb bm xa ba xr n tn : Nat} {f fa : Nat → Option (Nat × Nat)} {l : List Row} (h : Inv w0 w xb bm xa ba xr n tn f fa l) (hb : Below w.heap.size w w1) : Inv w0 w1 xb bm xa ba xr n tn f fa l :=
  ⟨h.x.below hb, h.a.below hb, h.r.below hb, h.gf, h.ga, h.gl, h.same, below_then h.below h.below.size hb, h.o1, h.o2⟩

set_option maxRecDepth 100000 in
set_option maxHeartbeats 4000000 in
theorem apart_calls (A : Option Addr) (n cap : Nat) (xs : List Ten) (A' : Option Addr) (n' cap' : Nat) (ys : List LOp) (tn : Nat) (htn : tn < 4294967296) (w : World) (h : tenK.C w A n xs) (h' : opK.C w A' n' ys) :
    Calls Try.prog 3 #[.slice A n cap, .slice A' n' cap', .int .u32 (tn : Int)] w fun e w' => e = .returned (.bool true) ∧ Below w.heap.size w w' := by
  obtain ⟨hlen', hmax'⟩ := C_len h'
  obtain ⟨hlen, hmax⟩ := C_len h
  have H := Aside0.mk h
  have H' := Aside0.mk h'
  have HLen := Aside0.mk hlen
  have HLen' := Aside0.mk hlen'
  clear h h' hlen hlen'
  by_cases hn' : n' ≤ 200
  · go_enter Try.func3, Try.ntmps3
    go_wp2_with fail
    refine (tenants_calls A n cap xs _ H.out).mono ?_
    rintro e w1 ⟨rfl | ⟨rfl, hn⟩, rfl⟩
    · go_wp2_with fail
      refine (known_calls _).mono ?_
      rintro e w2 ⟨rfl, hw2⟩
      go_wp2
      go_ret
      exact ⟨rfl, hw2⟩
    · go_wp2_with fail
      refine (known_calls _).mono ?_
      rintro e w2 ⟨rfl, hw2⟩
      have HB2 := Aside0.mk hw2
      clear hw2
      go_wp2_with fail
      refine (new_calls A n cap xs (by omega) _ (Kd.C_below H.out HB2.out)).mono ?_
      rintro e w3 ⟨xb, bm, rfl, hl3, hx3, hb3, hw3⟩
      have HL3 := Aside0.mk hl3
      have HB3 := Aside0.mk (below_go HB2.out hw3)
      have hbx : w.heap.size ≤ xb ∧ w.heap.size ≤ bm := by have := HB2.out.size; omega
      have HBX := Aside0.mk hbx
      clear hl3 hx3 hb3 hw3 HB2 hbx
      go_wp2_with fail
      refine (new_calls A n cap xs (by omega) _ (Kd.C_below H.out HB3.out)).mono ?_
      rintro e w4 ⟨xa, ba, rfl, hl4, hx4, hb4, hw4⟩
      have HL4 := Aside0.mk (And.intro (HL3.out.below hw4) hl4)
      have HB4 := Aside0.mk (below_go HB3.out hw4)
      have hoo : xb < xa ∧ xb < ba ∧ bm < xa ∧ bm < ba := by
        have h1 := (Array.getElem?_eq_some_iff.1 HL3.out.cell).1
        have h2 := HL3.out.acc.lt
        omega
      have HOO := Aside0.mk hoo
      clear hl4 hx4 hb4 hw4 HB3 hoo HL3
      go_wp2_with fail
      refine (refnew_calls A n cap xs (by omega) _ (Kd.C_below H.out HB4.out)).mono ?_
      rintro e w5 ⟨xr, rfl, hr5, hx5, hw5⟩
      have HI := Aside0.mk (show Inv w w5 xb bm xa ba xr n tn (newF xs) (newF xs) (newL xs) from by
        have h1 := (Array.getElem?_eq_some_iff.1 HL4.out.2.cell).1
        have h2 := HL4.out.2.acc.lt
        have hg := Good.newF (l := xs) (fun t ht => (ten_bounds H.out t ht).2)
        exact ⟨HL4.out.1.below hw5, HL4.out.2.below hw5, hr5, hg, hg, goodL_newL xs, rfl, below_go HB4.out hw5, by have := HOO.out; omega, HBX.out⟩)
      clear hr5 hx5 hw5 HL4 HOO HB4 HBX
      go_wp2
      go_loopg [11] n' (fun k v11 wr => ∃ i : Nat, v11 = .int .i64 (i : Int) ∧ i ≤ n' ∧ Aside0 (k + i = n') ∧ Aside0 (∃ f fa l, Inv w wr xb bm xa ba xr (n + i) tn f fa l))
      case atStart => exact ⟨0, rfl, by omega, ⟨rfl⟩, ⟨_, _, _, HI.out⟩⟩
      case round =>
        obtain ⟨i, rfl, hi, HK, ⟨f, fa, l, hinv⟩⟩ := hrel
        have HV := Aside0.mk hinv
        clear hinv
        by_cases hlt : i < n'
        · obtain ⟨o, ho⟩ : ∃ o, ys.getD i (false, 0, 0) = o := ⟨_, rfl⟩
          obtain ⟨ad, rfl, h1, h2, c0, c1, c2⟩ := op_at (Kd.C_below H'.out HV.out.below) i hlt o ho
          obtain ⟨gv, k, m⟩ := o
          simp only at h1 h2 c0 c1 c2
          clear ho
          have hal := alloc_below wr (.cells #[.bool gv, .int .u32 (k : Int), .int .u64 (m : Int)] 33)
          have HW := Aside0.mk (HV.out.go hal)
          have HBK := Aside0.mk (show (wr.alloc (.cells #[.bool gv, .int .u32 (k : Int), .int .u64 (m : Int)] 33)).heap[wr.heap.size]? = some (.cells #[.bool gv, .int .u32 (k : Int), .int .u64 (m : Int)] 33 (0, 0)) from blk_here (W := wr) rfl)
          have hbm := HV.out.x.acc.lt
          clear hal HV
          by_cases hkt : k = tn
          · subst hkt
            have hq : ((k : Int) == (k : Int)) = true := beq_self_eq_true _
            have hq2 : ((k : Int) != (k : Int)) = false := by rw [bne_eq_false_iff_eq]
            obtain ⟨⟨y, z⟩, hyz⟩ : ∃ x, (f k).getD (0, 0) = x := ⟨_, rfl⟩
            have HYZ := Aside0.mk hyz
            have HYA := Aside0.mk (show (fa k).getD (0, 0) = (y, z) from by rw [← HW.out.same]; exact hyz)
            have HNE := Aside0.mk (show bm < wr.heap.size from hbm)
            clear hyz
            cases gv with
            | true =>
              go_wp2_with fail
              refine (give_calls xb bm (n + i) k m f h1 h2 (by unfold maxLen; omega) HW.out.gf y z HYZ.out _ HW.out.x).mono ?_
              rintro e w6 ⟨rfl, hl6, hg6⟩
              have HV6 := Aside0.mk (show Ledg w6 xa ba (n + i) fa ∧ RefL w6 xr l ∧ Below w.heap.size w w6 ∧ Ledg w6 xb bm (n + (i + 1)) (giveF f k m) from by
                have ho := HW.out.o1
                exact ⟨HW.out.a.kept hg6 (by simp; omega) (by simp; omega), HW.out.r.grown hg6 (fun j hj => by simp at hj; omega), HW.out.below.grown hg6 HW.out.below.size (fun j hj => by simp at hj; have := HW.out.o2; omega), hl6⟩)
              have HBK6 := Aside0.mk (box_kept HBK.out hg6 (by have := HW.out.x.acc.lt; have := HNE.out; simp; omega))
              obtain ⟨_, d2, _⟩ := blk_cells HBK6.out
              clear hl6 hg6
              go_wp2_with fail
              refine (give_calls xa ba (n + i) k m fa h1 h2 (by unfold maxLen; omega) HW.out.ga y z HYA.out _ HV6.out.1).mono ?_
              rintro e w7 ⟨rfl, hl7, hg7⟩
              have HV7 := Aside0.mk (show Inv w w7 xb bm xa ba xr (n + (i + 1)) k (giveF f k m) (giveF fa k m) l from by
                have ho := HW.out.o1
                exact ⟨HV6.out.2.2.2.kept hg7 (by simp; omega) (by simp; omega), hl7, HV6.out.2.1.grown hg7 (fun j hj => by simp at hj; omega), HW.out.gf.giveF _ _, HW.out.ga.giveF _ _, HW.out.gl, giveF_cong m HW.out.same, HV6.out.2.2.1.grown hg7 HV6.out.2.2.1.size (fun j hj => by simp at hj; have := HW.out.o2; omega), HW.out.o1, HW.out.o2⟩)
              clear hl7 hg7 d2 HBK6 HV6
              generalize giveF f k m = f' at *
              generalize giveF fa k m = fa' at *
              obtain ⟨⟨y', z'⟩, hyz'⟩ : ∃ x, (f' k).getD (0, 0) = x := ⟨_, rfl⟩
              have HYZ' := Aside0.mk hyz'
              have HYA' := Aside0.mk (show (fa' k).getD (0, 0) = (y', z') from by rw [← HV7.out.same]; exact hyz')
              clear hyz'
              go_wp2_with fail
              refine (used_calls xb bm (n + (i + 1)) k f' h1 y' z' HYZ'.out _ HV7.out.x).mono ?_
              rintro e w8 ⟨rfl, rfl⟩
              go_wp2_with fail
              refine (used_calls xa ba (n + (i + 1)) k fa' h1 y' z' HYA'.out _ HV7.out.a).mono ?_
              rintro e w8 ⟨rfl, rfl⟩
              go_wp2_with fail
              refine (left_calls xb bm (n + (i + 1)) k f' h1 HV7.out.gf y' z' HYZ'.out _ HV7.out.x).mono ?_
              rintro e w8 ⟨rfl, hw8⟩
              have HV8 := Aside0.mk (HV7.out.go hw8)
              clear hw8 HV7
              go_wp2_with fail
              refine (left_calls xa ba (n + (i + 1)) k fa' h1 HV8.out.ga y' z' HYA'.out _ HV8.out.a).mono ?_
              rintro e w9 ⟨rfl, hw9⟩
              have HV9 := Aside0.mk (HV8.out.go hw9)
              clear hw9 HV8
              go_wp2
              go_roundg (gk - 1)
              case measure => have := HK.out; omega
              case rel => exact ⟨i + 1, by congr 1, by omega, ⟨by have := HK.out; omega⟩, ⟨_, _, _, HV9.out⟩⟩
            | false =>
              go_wp2_with fail
              refine (take_calls xb bm (n + i) k m f h1 h2 (by unfold maxLen; omega) HW.out.gf y z HYZ.out _ HW.out.x).mono ?_
              rintro e w6 ⟨rfl, hl6, hg6⟩
              have HV6 := Aside0.mk (show Ledg w6 xa ba (n + i) fa ∧ RefL w6 xr l ∧ Below w.heap.size w w6 ∧ Ledg w6 xb bm (n + (i + 1)) (takeF f k m) from by
                have ho := HW.out.o1
                exact ⟨HW.out.a.kept hg6 (by simp; omega) (by simp; omega), HW.out.r.grown hg6 (fun j hj => by simp at hj; omega), HW.out.below.grown hg6 HW.out.below.size (fun j hj => by simp at hj; have := HW.out.o2; omega), hl6⟩)
              have HBK6 := Aside0.mk (box_kept HBK.out hg6 (by have := HW.out.x.acc.lt; have := HNE.out; simp; omega))
              obtain ⟨_, d2, _⟩ := blk_cells HBK6.out
              clear hl6 hg6
              go_wp2_with fail
              refine (take_calls xa ba (n + i) k m fa h1 h2 (by unfold maxLen; omega) HW.out.ga y z HYA.out _ HV6.out.1).mono ?_
              rintro e w7 ⟨rfl, hl7, hg7⟩
              have HV7 := Aside0.mk (show Inv w w7 xb bm xa ba xr (n + (i + 1)) k (takeF f k m) (takeF fa k m) l from by
                have ho := HW.out.o1
                exact ⟨HV6.out.2.2.2.kept hg7 (by simp; omega) (by simp; omega), hl7, HV6.out.2.1.grown hg7 (fun j hj => by simp at hj; omega), HW.out.gf.takeF _ _, HW.out.ga.takeF _ _, HW.out.gl, takeF_cong m HW.out.same, HV6.out.2.2.1.grown hg7 HV6.out.2.2.1.size (fun j hj => by simp at hj; have := HW.out.o2; omega), HW.out.o1, HW.out.o2⟩)
              clear hl7 hg7 d2 HBK6 HV6
              generalize takeF f k m = f' at *
              generalize takeF fa k m = fa' at *
              obtain ⟨⟨y', z'⟩, hyz'⟩ : ∃ x, (f' k).getD (0, 0) = x := ⟨_, rfl⟩
              have HYZ' := Aside0.mk hyz'
              have HYA' := Aside0.mk (show (fa' k).getD (0, 0) = (y', z') from by rw [← HV7.out.same]; exact hyz')
              clear hyz'
              go_wp2_with fail
              refine (used_calls xb bm (n + (i + 1)) k f' h1 y' z' HYZ'.out _ HV7.out.x).mono ?_
              rintro e w8 ⟨rfl, rfl⟩
              go_wp2_with fail
              refine (used_calls xa ba (n + (i + 1)) k fa' h1 y' z' HYA'.out _ HV7.out.a).mono ?_
              rintro e w8 ⟨rfl, rfl⟩
              go_wp2_with fail
              refine (left_calls xb bm (n + (i + 1)) k f' h1 HV7.out.gf y' z' HYZ'.out _ HV7.out.x).mono ?_
              rintro e w8 ⟨rfl, hw8⟩
              have HV8 := Aside0.mk (HV7.out.go hw8)
              clear hw8 HV7
              go_wp2_with fail
              refine (left_calls xa ba (n + (i + 1)) k fa' h1 HV8.out.ga y' z' HYA'.out _ HV8.out.a).mono ?_
              rintro e w9 ⟨rfl, hw9⟩
              have HV9 := Aside0.mk (HV8.out.go hw9)
              clear hw9 HV8
              go_wp2
              go_roundg (gk - 1)
              case measure => have := HK.out; omega
              case rel => exact ⟨i + 1, by congr 1, by omega, ⟨by have := HK.out; omega⟩, ⟨_, _, _, HV9.out⟩⟩
          · have hq : ((k : Int) == (tn : Int)) = false := by rw [beq_eq_false_iff_ne]; omega
            have hq2 : ((k : Int) != (tn : Int)) = true := by rw [bne_iff_ne]; omega
            have HKT := Aside0.mk hkt
            clear hkt
            go_wp2_with fail
            have hox := HW.out.o1
            refine (does_calls xb bm (n + i) k m xr gv f l h1 h2 (by unfold maxLen; omega) HW.out.gf HW.out.gl (by omega) (by omega) _ HW.out.x HW.out.r).mono ?_
            rintro e w6 ⟨⟨b6, rfl⟩, hl6, ⟨l6, hr6, hg6⟩, hk6⟩
            have HV6 := Aside0.mk (show Inv w w6 xb bm xa ba xr (n + (i + 1)) tn (opF gv f k m) fa l6 from
              ⟨hl6, (hk6.1 xa ba _ _ HW.out.a (by omega) (by omega) (by omega) (by omega)).mono, hr6, HW.out.gf.opF _ _ _, HW.out.ga, hg6, (opF_other (fun e => HKT.out e.symm)).trans HW.out.same, HW.out.below.trans (hk6.2 _ HW.out.o2.2 (by have := HW.out.o2; omega) HW.out.below.size), HW.out.o1, HW.out.o2⟩)
            clear hl6 hr6 hg6 hk6 hox
            go_wp2
            go_roundg (gk - 1)
            case measure => have := HK.out; omega
            case rel => exact ⟨i + 1, by congr 1, by omega, ⟨by have := HK.out; omega⟩, ⟨_, _, _, HV6.out⟩⟩
        · obtain ⟨hb⟩ : Aside0 (Below w.heap.size w wr) := ⟨HV.out.below⟩
          have HBB := Aside0.mk hb
          clear hb
          go_wp2
          go_ret
          exact ⟨rfl, HBB.out⟩
  · go_enter Try.func3, Try.ntmps3
    go_wp2_with fail
    refine (tenants_calls A n cap xs _ H.out).mono ?_
    rintro e w1 ⟨rfl | ⟨rfl, hn⟩, rfl⟩
    · go_wp2_with fail
      refine (known_calls _).mono ?_
      rintro e w2 ⟨rfl, hw2⟩
      go_wp2
      go_ret
      exact ⟨rfl, hw2⟩
    · go_wp2_with fail
      refine (known_calls _).mono ?_
      rintro e w2 ⟨rfl, hw2⟩
      go_wp2
      go_ret
      exact ⟨rfl, hw2⟩
theorem apart_walk (W : World) (a : Option Addr) (len cap : Nat) (l : List Ten) (le : len ≤ cap) (c : tenK.C W a len l) (a' : Option Addr) (len' cap' : Nat) (l' : List LOp) (le' : len' ≤ cap') (c' : opK.C W a' len' l') (n : Nat) (hn : n < 4294967296) :
    Calls Try.prog 3 #[.slice a len cap, .slice a' len' cap', .int .u32 (n : Int)] W fun e w' => e = .returned (.bool true) ∧ Below W.heap.size W w' :=
  apart_calls a len cap l a' len' cap' l' n hn W c c'
end Go.Proofs.Ytiepfinipmafcaa.Led

