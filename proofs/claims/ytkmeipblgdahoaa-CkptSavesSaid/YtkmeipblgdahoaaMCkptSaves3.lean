/- Part 3 of 5 of the proof of CkptSaves: ChunkP, Rooms, ZonesMem, ZonesMemT, CkptBox, CkptEnc, Take2, TakeKit, CkptPlc, CkptDec, DevShape. -/
import Derived.Test.YtkmeipblgdahoaaMCkptSaves2
import Derived.Test.YtkmeipblgdahoaaWFootNe
import Derived.Handy
namespace Go.Proofs.Ytkmeipblgdahoaa.Ck
open Go.RowKit Go.Shelf Go.Proofs.YtkmeipblgdahoaaW.PrintWords Go.Proofs.YtkmeipblgdahoaaW.PrintMore Go.Proofs.Ytkmeipblgdahoaa.Base Go.Proofs.Ytkmeipblgdahoaa.Dv
set_option maxRecDepth 100000
set_option linter.unusedVariables false
set_option linter.unusedSimpArgs false
theorem chunkp_calls (A : Option Addr) (n cap : Nat) (b : Int) (hb : 1 ≤ b) (w : World) :
    Calls Try.prog 38 #[.slice A n cap, .int .i64 b] w fun e w' => e = .returned (.func (.func 71) #[] #[.pointer (some ⟨w.heap.size, 0, none⟩), .pointer (some ⟨w.heap.size + 1, 0, none⟩)]) ∧
      (w.alloc (.cells #[.slice A n cap] 25)).alloc (.cells #[.int .i64 b] 3) = w' := by
  have hd : decide (b < 1) = false := decide_eq_false (by omega)
  go_enter Try.func38, Try.ntmps38
  go_wp2
  go_ret
  exact ⟨rfl, rfl⟩
attribute [local go_sem] Oper.semAt_some
attribute [local go_sem] max2_mx min2_mn max_two min_two
theorem cut_lhmN {P : Program} (t e : TypeId) {i : TypeInfo} (ht : P.underlying t = some (.slice e)) (hi : P.info? e = some i) (sz : Nat) (hsz : i.size = sz) (A : Option Addr) (n c lo b : Nat) (hb : 1 ≤ b) (h1 : lo + b ≤ n) (hc : n ≤ c) :
    ∀ W : World, (Instr.slice t (.slice A n c) (some (.int .i64 (lo : Int))) (some (.int .i64 ((lo : Int) + (b : Int)))) (some (.int .i64 ((lo : Int) + (b : Int))))).run P W = .ok (.slice (A.map (·.add (lo * sz))) b b) W := by
  intro W
  have hel : P.elem t = e := by simp [Program.elem, ht]
  have hu : P.underlying t = some (.slice (P.elem t)) := by rw [hel]; exact ht
  rw [run_slice_lhm W t A n c hu .i64 .i64 .i64 (lo : Int) _ _ (by omega) (by omega) (by omega) (by omega), hel]
  simp [sizeOf, typeInfo, hi, hsz, sliced, Result.andThen]
  have e1 : ((lo : Int) + (b : Int)).toNat = lo + b := by omega
  rw [e1]
  refine ⟨fun h => by omega, by omega⟩
theorem info_plc : (Try.prog.info? 88).map (·.size) = some 4 := by kernel_rfl
/-- The piece k of a slice of m. -/
def chunkPV (A : Option Addr) (b m k : Nat) : Value := .slice (A.map (·.add (k * b * 4))) (min b (m - k * b)) (min b (m - k * b))
set_option maxHeartbeats 4000000 in
theorem chunkp1_in (n l Bs : Nat) (A : Option Addr) (m cap b cnt : Nat) (hb : 1 ≤ b) (hm1 : m ≤ cnt * b) (hm2 : ∀ k, k < cnt → k * b < m) (hmc : m ≤ cap) (hmm : m ≤ 100000000) (hbm : b ≤ 100000000) (J Jx : List (Fin cnt) → World → Prop) (hJn : ∀ s W W', J s W → W.grownBy W' none → J s W')
    (hY : ∀ pre (x : Fin cnt) W, J pre W → pre.length < cnt → YieldAt Fence.wide (n - 1) Try.prog l #[chunkPV A b m x.1] W fun e W' =>
      (e = .returned (.bool true) ∧ J (pre ++ [x]) W' ∧ KpB Bs W W') ∨ (e = .returned (.bool false) ∧ Jx (pre ++ [x]) W'))
    (W : World) (hs : W.cell? ⟨Bs, 0, none⟩ = some (.slice A m cap)) (hn : W.cell? ⟨Bs + 1, 0, none⟩ = some (.int .i64 (b : Int))) (h0 : J [] W) :
    CallsIn Fence.wide n Try.prog 71 #[.func (.yield l) #[] #[], .pointer (some ⟨Bs, 0, none⟩), .pointer (some ⟨Bs + 1, 0, none⟩)] W fun e W' => (∃ v, e = .returned v) ∧
      ((∃ ys, ys = List.finRange cnt ∧ J ys W') ∨ (∃ pre : List (Fin cnt), True ∧ Jx pre W')) := by
  have HS := Aside0.mk (And.intro hs hn)
  have HY := Aside0.mk hY
  have HJN := Aside0.mk hJn
  have HM := Aside0.mk hm1
  have HM2 := Aside0.mk hm2
  have H0 := Aside0.mk h0
  clear hm1 hm2 hY h0 hJn
  refine callsIn_of_wp Try.func71 rfl trivial ?_ rfl
  simp only [Try.ntmps71, List.size_toArray, List.length_cons, List.length_nil, Nat.reduceAdd, Nat.reduceSub, Array.replicate_succ, Array.replicate_zero, List.push_toArray, List.append_toArray, List.nil_append, List.cons_append]
  gi_wp2
  clear hs hn
  gi_loopw [4] (fun i wr => ∃ (k t : Nat), i = .int .i64 (t : Int) ∧ t ≤ 200000000 ∧ k ≤ cnt ∧ Aside0 (t = k * b) ∧ Aside0 (J (firsts cnt k) wr ∧ KpB Bs W wr)) (fun i _ => m - (intOf i).toNat)
  case atStart => exact ⟨0, 0, rfl, Nat.zero_le _, Nat.zero_le _, ⟨by simp⟩, ⟨H0.out, fun _ _ => rfl⟩⟩
  case round =>
    obtain ⟨k, t, rfl, htm, hkc, HT, HJ⟩ := hrel
    obtain ⟨e1, e2⟩ := HJ.out.2.cell
    have s1 : wr.cell? ⟨Bs, 0, none⟩ = some (.slice A m cap) := e1.trans HS.out.1
    have s2 : wr.cell? ⟨Bs + 1, 0, none⟩ = some (.int .i64 (b : Int)) := e2.trans HS.out.2
    clear e1 e2
    by_cases hlt : t < m
    · have hkk : k < cnt := by
        rcases Nat.lt_or_ge k cnt with h | h
        · exact h
        · have : k = cnt := by omega
          subst this
          rw [← HT.out] at HM
          have := HM.out
          omega
      obtain ⟨ee, hee⟩ : ∃ ee, min b (m - t) = ee := ⟨_, rfl⟩
      have he1 : 1 ≤ ee := by omega
      have he2 : t + ee ≤ m := by omega
      have hmn : mn (b : Int) (((m - t : Nat) : Int)) = (ee : Int) := by unfold mn; split <;> omega
      have hmn2 : mn (b : Int) ((m : Int) - (t : Int)) = (ee : Int) := by unfold mn; split <;> omega
      have HEE := Aside0.mk hee
      clear hee
      gi_wp2
      refine wpIn_wide.2 ?_
      go_quiet (fail)
      have s1 := pw_cell_below (pw_below_drewN (Below.refl wr.heap.size wr) nq) s1
      have s2 := pw_cell_below (pw_below_drewN (Below.refl wr.heap.size wr) nq) s2
      have HJ2 := Aside0.mk (show J (firsts cnt k) (wr.drewN nq) ∧ KpB Bs W (wr.drewN nq) from ⟨HJN.out _ _ _ HJ.out.1 ⟨rfl, rfl, rfl, Nat.le_refl _, fun _ _ _ => rfl⟩, HJ.out.2⟩)
      generalize wr.drewN nq = wd at *
      obtain ⟨fn, tmps, assign, body, hy, hR⟩ := HY.out _ ⟨k, hkk⟩ wd HJ2.out.1 (by rw [firsts_len hkc]; exact hkk)
      unfold chunkPV at hy
      dsimp only at hy
      rw [← HT.out, HEE.out] at hy
      obtain ⟨i0, hi0, hzz⟩ := Option.map_eq_some_iff.1 info_plc
      have hcut := cut_lhmN (P := Try.prog) 25 88 Try.underlying25 hi0 4 hzz A m cap t ee he1 he2 hmc
      clear hi0 hzz hmn hmn2
      gi_wp2
      refine ⟨fun h => by simp [Fence.wide] at h, hR.mono ?_⟩
      rintro e W3 (⟨rfl, hJ3, hk3⟩ | ⟨rfl, hJx3⟩)
      · have s2 : W3.cell? ⟨Bs + 1, 0, none⟩ = some (.int .i64 (b : Int)) := (hk3.cell).2.trans s2
        rw [firsts_succ hkk] at hJ3
        have HJ3 := Aside0.mk (And.intro hJ3 (HJ2.out.2.trans hk3))
        clear hJ3 hk3 hy hR hcut
        gi_wp2
        go_roundw
        case rel => exact ⟨k + 1, t + b, by congr 1, by omega, hkk, ⟨by rw [HT.out, Nat.succ_mul]⟩, HJ3⟩
        case measure => simp [intOf]; omega
      · gi_wp2
        refine bodyPost_ret (results_none rfl _ _ _) rfl ?_
        exact ⟨⟨_, rfl⟩, .inr ⟨_, trivial, hJx3⟩⟩
    · have hkk : k = cnt := by
        have h2 := HT.out
        rcases Nat.lt_or_ge k cnt with h | h
        · have := HM2.out k h
          omega
        · omega
      have HKK := Aside0.mk hkk
      clear hkk
      gi_wp2
      go_end0
      have h := HJ.out.1
      rw [HKK.out, firsts_all] at h
      exact ⟨⟨_, rfl⟩, .inl ⟨_, rfl, h⟩⟩
theorem chunkp_stops (n Bs : Nat) (A : Option Addr) (m cap b cnt : Nat) (hb : 1 ≤ b) (hm1 : m ≤ cnt * b) (hm2 : ∀ k, k < cnt → k * b < m) (hmc : m ≤ cap) (hmm : m ≤ 100000000) (hbm : b ≤ 100000000) (w : World) (hBs : Bs + 1 < w.heap.size)
    (hs : w.cell? ⟨Bs, 0, none⟩ = some (.slice A m cap)) (hn : w.cell? ⟨Bs + 1, 0, none⟩ = some (.int .i64 (b : Int))) :
    SeqStopsK Fence.wide n Try.prog 71 #[.pointer (some ⟨Bs, 0, none⟩), .pointer (some ⟨Bs + 1, 0, none⟩)] (fun k : Fin cnt => #[chunkPV A b m k.1]) (KpB Bs) (fun ys => ys = List.finRange cnt) (fun _ => True) cnt w := fun l J Jx W hW hJ _ hY h0 =>
  chunkp1_in n l Bs A m cap b cnt hb hm1 hm2 hmc hmm hbm J Jx (fun s W W' hs hg => hJ s W W' none hs hg (fun r e => by cases e)) hY W ((hW.cell (by show Bs < _; omega)).trans hs) ((hW.cell hBs).trans hn) h0
end Go.Proofs.Ytkmeipblgdahoaa.Ck
namespace Go.Proofs.Ytkmeipblgdahoaa.Shp
open Go.RowKit Go.Proofs.YtkmeipblgdahoaaW.PrintWords Go.Proofs.YtkmeipblgdahoaaW.PrintMore Go.Proofs.Ytkmeipblgdahoaa.Base
set_option maxRecDepth 100000
set_option linter.unusedVariables false
set_option linter.unusedSimpArgs false
def rm (b : Int) : Int := if Pow b then (b - 27) / 16 else 0
theorem pow_range {b : Int} (h : Pow b) : 64 ≤ b ∧ b ≤ 4096 := by unfold Pow at h; omega

theorem room_calls (b : Int) (hb : IsI b) (w : World) :
    Calls Try.prog 14 #[.int .i64 b] w fun e w' => e = .returned (.int .i64 (rm b)) ∧ w = w' := by
  obtain ⟨hb1, hb2⟩ := hb
  by_cases h2 : 64 ≤ b ∧ b ≤ 4096
  · obtain ⟨a5, a6⟩ := h2
    have hc := and_code b a5 a6
    by_cases h3 : Pow b
    · rw [decide_eq_true h3] at hc
      have hR := Aside0.mk (show rm b = (b - 27) / 16 from if_pos h3)
      clear h3
      go_enter Try.func14, Try.ntmps14
      go_wp2
      go_ret
      refine ⟨?_, rfl⟩
      rw [hR.out]
      show Ending.returned (.int .i64 _) = _
      congr 2
      omega
    · rw [decide_eq_false h3] at hc
      have hR := Aside0.mk (show rm b = 0 from if_neg h3)
      clear h3
      go_enter Try.func14, Try.ntmps14
      go_wp2
      go_ret
      exact ⟨by rw [hR.out]; rfl, rfl⟩
  · have hR := Aside0.mk (show rm b = 0 from if_neg (fun h => h2 (pow_range h)))
    by_cases h3 : b < 64
    · go_enter Try.func14, Try.ntmps14
      go_wp2
      go_ret
      exact ⟨by rw [hR.out]; rfl, rfl⟩
    · have h4 : 4096 < b := by omega
      go_enter Try.func14, Try.ntmps14
      go_wp2
      go_ret
      exact ⟨by rw [hR.out]; rfl, rfl⟩

theorem ref_room_calls (b : Int) (hb : IsI b) (w : World) :
    Calls Try.prog 15 #[.int .i64 b] w fun e w' => e = .returned (.int .i64 (rm b)) ∧ w = w' := by
  obtain ⟨hb1, hb2⟩ := hb
  go_enter Try.func15, Try.ntmps15
  have HP := Aside0.mk (show pOf b 7 = decide (Pow b) from by
    rw [show pOf b 7 = (((((((64 : Int) == b) || ((128 : Int) == b)) || ((256 : Int) == b)) || ((512 : Int) == b)) || ((1024 : Int) == b)) || ((2048 : Int) == b) || ((4096 : Int) == b)) from rfl, Bool.eq_iff_iff]
    simp only [Bool.or_eq_true, beq_iff_eq, decide_eq_true_eq]
    unfold Pow
    omega)
  go_wp2
  go_loopg [3] 7 (fun k v3 wr => ∃ (j : Nat) (x : Int), v3 = .int .i64 x ∧ Aside0 (k + j = 7 ∧ pOf b j = false ∧ x = pw j) ∧ w = wr)
  case atStart => exact ⟨0, 64, rfl, ⟨rfl, rfl, rfl⟩, rfl⟩
  case round =>
    obtain ⟨j, x, rfl, HJ, rfl⟩ := hrel
    by_cases h7 : j = 7
    · have hx : x = 8192 := by rw [HJ.out.2.2, h7]; rfl
      subst hx
      have hR := Aside0.mk (show rm b = 0 from if_neg (by have := HP.out; rw [← h7, HJ.out.2.1] at this; simpa using this.symm))
      go_wp2
      go_ret
      exact ⟨by rw [hR.out]; rfl, rfl⟩
    · have hx : x ≤ 4096 ∧ 64 ≤ x ∧ Pow x := by
        rw [HJ.out.2.2]
        have h1 := HJ.out.1
        have : j = 0 ∨ j = 1 ∨ j = 2 ∨ j = 3 ∨ j = 4 ∨ j = 5 ∨ j = 6 := by omega
        rcases this with rfl | rfl | rfl | rfl | rfl | rfl | rfl <;> decide
      obtain ⟨hx1, hx2, hx3⟩ := hx
      by_cases hxb : x = b
      · subst hxb
        have hR := Aside0.mk (show rm x = (x - 27) / 16 from if_pos hx3)
        clear hx3
        go_wp2
        go_ret
        exact ⟨by rw [hR.out]; rfl, rfl⟩
      · have hne : (x == b) = false := by rw [beq_eq_false_iff_ne]; exact hxb
        clear hx3
        go_wp2
        go_roundg (gk - 1)
        case measure => have := HJ.out.1; omega
        case rel => exact ⟨j + 1, 2 * x, rfl, ⟨by have := HJ.out.1; omega, by rw [pOf, HJ.out.2.1, ← HJ.out.2.2, Bool.false_or]; simpa using hxb, by rw [pw, HJ.out.2.2]⟩, rfl⟩
end Go.Proofs.Ytkmeipblgdahoaa.Shp
namespace Go.Proofs.Ytkmeipblgdahoaa.Dv
open Go.RowKit Go.Shelf Go.Proofs.YtkmeipblgdahoaaW.PrintWords Go.Proofs.YtkmeipblgdahoaaW.PrintMore Go.Proofs.Ytkmeipblgdahoaa.Base Go.Proofs.Ytkmeipblgdahoaa.Shp
set_option maxRecDepth 100000
set_option linter.unusedVariables false
set_option linter.unusedSimpArgs false
def CellsAt (W : World) (k : Nat) : Prop := ∃ o, W.heap[k]? = some o ∧ o.isCells = true
theorem CellsAt.grown {W W' : World} {k : Nat} (h : CellsAt W k) {row : Option Nat} (hg : W.grownBy W' row) (hr : row ≠ some k) : CellsAt W' k := by
  obtain ⟨o, h1, h2⟩ := h
  exact ⟨o, (hg.block k (Array.getElem?_eq_some_iff.1 h1).1 (fun e => hr e.symm)).trans h1, h2⟩
/-- A zone that is gathered: its box, its row of blocks. -/
structure ZI (w1 W : World) (gz : Nat) (du : Int) (v : Value) (xs : List (List UInt8)) (S : Nat → Prop) : Prop where
  blk : W.heap[gz]? = some (.cells #[v, .int .i64 du] 77 (0, 0))
  row : Kd.N bytesK 39 W w1.heap.size S v xs
  ft : ∀ k, S k → w1.heap.size ≤ k ∧ k < W.heap.size ∧ CellsAt W k
  chg : Chg w1 W (fun k => k = gz)
section
variable {w1 W W' : World} {gz : Nat} {du : Int} {v v1 : Value} {xs ys : List (List UInt8)} {S O : Nat → Prop}
theorem ZI.blkEq (h : ZI w1 W gz du v xs S) : gz < W.heap.size := (Array.getElem?_eq_some_iff.1 h.blk).1
theorem ZI.grown (h : ZI w1 W gz du v xs S) (hgz : gz < w1.heap.size) {row : Option Nat} (hg : W.grownBy W' row) (hr : ∀ r, row = some r → w1.heap.size ≤ r ∧ ∃ o : Obj, W.heap[r]? = some o ∧ o.isCells = false) : ZI w1 W' gz du v xs S := by
  have hne : ∀ k, S k → row ≠ some k := by
    intro k hk e
    obtain ⟨_, o, h1, h2⟩ := hr k e
    obtain ⟨_, _, o', h3, h4⟩ := h.ft k hk
    rw [h1] at h3
    injection h3 with h3
    subst h3
    rw [h2] at h4
    cases h4
  refine ⟨?_, Kd.N_grown h.row hg (fun k hk e => hne k hk e.symm), fun k hk => ⟨(h.ft k hk).1, Nat.lt_of_lt_of_le (h.ft k hk).2.1 hg.size, (h.ft k hk).2.2.grown hg (hne k hk)⟩, h.chg.grown hg (fun k e => .inr (hr k e).1)⟩
  rw [hg.block gz h.blkEq (fun e => by have := (hr gz e.symm).1; omega)]
  exact h.blk
theorem ZI.below (h : ZI w1 W gz du v xs S) (hgz : gz < w1.heap.size) (hb : Below W.heap.size W W') : ZI w1 W' gz du v xs S :=
  h.grown hgz (row := none) ⟨hb.os, hb.tape, hb.output, hb.size, fun k hk _ => hb.block k hk⟩ (fun r e => by cases e)
end
/-- The pieces of bytes. -/
def piece (b : Nat) (xs : List UInt8) (k : Nat) : List UInt8 := (xs.drop (k * b)).take b
def pieces (b cnt : Nat) (xs : List UInt8) : List (List UInt8) := (List.finRange cnt).map fun k => piece b xs k.1
def partZ (b : Nat) (p : Prt) : Zn := (pieces b (p.1.length / b) p.1, p.2)
/-- Marks of loops over functions that have ended. -/
def Marks (B : Nat) (W : World) : List Deferred → Prop
  | [] => True
  | d :: ds => (∃ D, d.target = .collected D ∧ B ≤ D ∧ W.heap[D]? = some (.deferred (some [])) ∧ ∀ d' ∈ ds, d'.target ≠ .collected D) ∧ Marks B W ds
theorem Marks.grown {B : Nat} {W W' : World} {row : Option Nat} (hg : W.grownBy W' row) : ∀ {ds : List Deferred}, Marks B W ds → (∀ r, row = some r → ∀ d ∈ ds, d.target ≠ .collected r) → Marks B W' ds
  | [], _, _ => trivial
  | d :: ds, h, hr => by
    obtain ⟨⟨D, h1, h2, h3, h4⟩, h5⟩ := h
    refine ⟨⟨D, h1, h2, ?_, h4⟩, Marks.grown hg h5 (fun r e d' hd' => hr r e d' (List.mem_cons_of_mem _ hd'))⟩
    rw [hg.block D (Array.getElem?_eq_some_iff.1 h3).1 (fun e => hr D e.symm d (List.mem_cons_self ..) h1)]
    exact h3
theorem Marks.below {B : Nat} {W W' : World} (hb : Below W.heap.size W W') {ds : List Deferred} (h : Marks B W ds) : Marks B W' ds :=
  h.grown (row := none) ⟨hb.os, hb.tape, hb.output, hb.size, fun k hk _ => hb.block k hk⟩ (fun r e => by cases e)
theorem Marks.lt {B : Nat} {W : World} : ∀ {ds : List Deferred}, Marks B W ds → ∀ d ∈ ds, ∀ r, d.target = .collected r → B ≤ r ∧ r < W.heap.size ∧ W.heap[r]? = some (.deferred (some []))
  | d :: ds, ⟨⟨D, h1, h2, h3, _⟩, h5⟩, d', hd', r, hr => by
    rcases List.mem_cons.1 hd' with rfl | hd'
    · rw [h1] at hr
      injection hr with hr
      subst hr
      exact ⟨h2, (Array.getElem?_eq_some_iff.1 h3).1, h3⟩
    · exact Marks.lt h5 d' hd' r hr
/-- A function leaves through its marks. -/
theorem leaves_marks {P : Program} {fn : Func} {tmps : Array Value} {R : Ending → World → Prop} {n B : Nat} : ∀ (ds : List Deferred) (W : World), Marks B W ds →
    (∀ W', W.heap.size ≤ W'.heap.size → W'.os = W.os → W'.tape = W.tape → W'.output = W.output → (∀ k, k < W.heap.size → (∀ d ∈ ds, d.target ≠ .collected k) → W'.heap[k]? = W.heap[k]?) → LeavesIn Fence.wide n P fn tmps R [] .returning W') → LeavesInM Fence.wide n P fn tmps R ds .returning W
  | [], W, _, h => h W (Nat.le_refl _) rfl rfl rfl (fun _ _ _ => rfl)
  | d :: ds, W, ⟨⟨D, h1, h2, h3, h4⟩, h5⟩, h => by
    refine ⟨by simp, .inl ⟨D, _, h1, run_takeDeferred h3, ?_⟩⟩
    have hg := grownBy_putObj' W D (.deferred none)
    refine leaves_marks ds _ (h5.grown hg (fun r e d' hd' => by cases e; exact h4 d' hd')) (fun W' hs ho ht hou hk => h W' (Nat.le_trans hg.size hs) (ho.trans hg.os) (ht.trans hg.tape) (hou.trans hg.output) (fun k hlt hno => ?_))
    rw [hk k (Nat.lt_of_lt_of_le hlt hg.size) (fun d' hd' => hno d' (List.mem_cons_of_mem _ hd'))]
    exact hg.block k hlt (fun e => by injection e with e; subst e; exact hno d (List.mem_cons_self ..) h1)
/-- append(v, x): a zone. -/
theorem app_zone {ops : Array Oper} {rest : List Oper} {o : Oper} {a : Act} {Q : Exit → Act → World → Prop} {W : World} (base : Nat) (E O : Nat → Prop) (s x : Operand) (hgd : o.guard = none) (ho : o.op = .call { callee := .builtin .append, args := #[s, x], argTypes := #[64, 64] })
    (v : Value) (xs : List Zn) (bs : List (List UInt8)) (d : Int) (A : Option Addr) (n c : Nat) (hp : Kd.FK zoneK W O (bs, d) [.slice A n c, .int .i64 d]) (hO : ∀ k, O k → some k ≠ v.ownBlock) (hs : a.eval s = v) (hx : a.eval x = .slice (some ⟨W.heap.size, 0, none⟩) 1 1)
    (HO : Kd.N zoneK 77 W base E v xs) (hbase : base ≤ W.heap.size) (hl : xs.length ≤ 100000)
    (h : ∀ v1 w1, Kd.N zoneK 77 w1 base (fun k => E k ∨ O k ∨ W.heap.size ≤ k) v1 (xs ++ [(bs, d)]) → W.grownBy w1 v.ownBlock → wpList Try.prog ops Q rest (a.put o.dst v1) w1) :
    wpList Try.prog ops Q (o :: rest) a (W.alloc (.cells #[.slice A n c, .int .i64 d] 77)) :=
  Kd.N_append zoneK (w0 := W) base hgd s x 64 77 _ 32 ho Try.underlying64 info_zone rfl (by decide) (by decide) v xs (bs, d) [.slice A n c, .int .i64 d] (fun k => E k ∨ O k ∨ W.heap.size ≤ k) O hs hx
    hp (fun k hk => ⟨.inr (.inl hk), hO k hk⟩) (fun k hk => .inr (.inr hk)) (Kd.N_mono HO (fun k hk => .inl hk)) (Below.refl _ _) hbase (by omega) (fun v1 w1 h1 h2 h3 _ => h v1 w1 h1 h3)
/-- A row of blocks leads to cells alone. -/
theorem N_cells {w : World} {base : Nat} {ok : Nat → Prop} {v : Value} {xs : List (List UInt8)} {e : Nat} (h : Kd.N bytesK e w base ok v xs) : Kd.N bytesK e w base (fun k => ok k ∧ CellsAt w k) v xs := by
  have hty := Kd.N_typed h
  obtain ⟨h0, rows, hl, hR, hf⟩ := h
  refine ⟨fun k hk => ⟨h0 k hk, ?_⟩, rows, hl, hR, fun j x c hx hc => ?_⟩
  · obtain ⟨cells, hcl⟩ := hty k hk
    exact ⟨_, hcl, rfl⟩
  · have hFK := hf j x c hx hc
    obtain ⟨A, cp, rfl, hcp, hF⟩ := Kd.FK_slice_open hFK
    intro W' hW
    refine ⟨A, cp, rfl, hcp, ?_⟩
    have hC := Kd.F_now hF
    rcases Nat.eq_zero_or_pos x.length with hz | hz
    · exact ⟨rfl, hC.2.1, fun hp => by omega⟩
    · obtain ⟨ad, c0, hA, _, _, hcc, hin⟩ := Kd.F_get hF 0 (0 : Int) (by omega) (by omega)
      subst hA
      have hokb := hin (by decide)
      have hlt0 : w.cell? (ad.add 0) ≠ none := by
        obtain ⟨ad', hA', hcell⟩ := byte_at hC 0 hz
        injection hA' with hA'
        subst hA'
        rw [hcell]; simp
      obtain ⟨vv, hvv⟩ := Option.ne_none_iff_exists'.1 hlt0
      have hblt := World.block_lt_of_cell? w _ hvv
      rw [add_block] at hblt
      have hcells : CellsAt w ad.block := by
        have hb := hvv
        unfold World.cell? at hb
        rw [add_block] at hb
        cases ho : w.heap[ad.block]? with
        | none => rw [ho] at hb; simp at hb
        | some o =>
          rw [ho] at hb
          cases o with
          | cells _ _ _ => exact ⟨_, ho, rfl⟩
          | _ => simp at hb
      have heq : W'.heap[ad.block]? = w.heap[ad.block]? := hW ad.block ⟨⟨hokb.1, hcells⟩, hokb.2⟩ hblt
      refine ⟨hC.1, hC.2.1, fun hp => ?_⟩
      obtain ⟨ad', hA', hall⟩ := hC.2.2 hp
      injection hA' with hA'
      subst hA'
      refine ⟨ad, rfl, fun i y hy => ?_⟩
      obtain ⟨cs, h1, h2, h3⟩ := hall i y hy
      refine ⟨cs, h1, h2, fun q u hu => ?_⟩
      rw [World.cell?_of_block (w := w) (by rw [add_block]; exact heq)]
      exact h3 q u hu
theorem CellsAt.far {W : World} {p : Addr} {u : Value} {k : Nat} (h : CellsAt W k) (hk : k ≠ p.block) : CellsAt (W.setCell p u) k := by
  obtain ⟨o, h1, h2⟩ := h
  exact ⟨o, (Below.heap_setCell W p u k hk).trans h1, h2⟩
/-- A zone that is gathered has one block more. -/
theorem ZI.add {w1 Wq w8 w9 : World} {gz : Nat} {du : Int} {v v9 : Value} {xs ys : List (List UInt8)} {S O : Nat → Prop} (h : ZI w1 w8 gz du v xs S) (hgz : gz < w1.heap.size) (hq : w1.heap.size ≤ Wq.heap.size) (hN : Kd.N bytesK 39 w9 w1.heap.size (fun k => S k ∨ O k ∨ w8.heap.size ≤ k) v9 ys) (hg : w8.grownBy w9 v.ownBlock)
    (hO : ∀ k, O k → Wq.heap.size ≤ k) (hs8 : w1.heap.size ≤ w8.heap.size) : ∃ S', ZI w1 (w9.setCell ⟨gz, 0, none⟩ v9) gz du v9 ys S' := by
  have hge : ∀ k, (S k ∨ O k ∨ w8.heap.size ≤ k) → w1.heap.size ≤ k := fun k hk => by
    rcases hk with h1 | h1 | h1
    · exact (h.ft k h1).1
    · exact Nat.le_trans hq (hO k h1)
    · exact Nat.le_trans hs8 h1
  have hb9 : w9.heap[gz]? = some (.cells #[v, .int .i64 du] 77 (0, 0)) := by
    rw [hg.block gz h.blkEq (fun e => by have := Kd.N_base h.row gz e.symm; omega)]
    exact h.blk
  have hN' := N_cells (Kd.N_bound hN)
  refine ⟨fun k => ((S k ∨ O k ∨ w8.heap.size ≤ k) ∧ k < w9.heap.size) ∧ CellsAt w9 k, blk_set hb9 0 v9, Kd.N_far hN' (fun k hk e => ?_) _, fun k hk => ⟨hge k hk.1.1, by simpa [World.setCell] using hk.1.2, hk.2.far (fun e => ?_)⟩, (h.chg.grown hg (fun k e => .inr (Kd.N_base h.row k e))).set (.inl rfl) _⟩
  · have := hge k hk.1.1
    have e' : k = gz := e
    omega
  · have := hge k hk.1.1
    have e' : k = gz := e
    omega
/-- append(v, x) in a region that draws: a block. -/
theorem app_blk_step {ops : Array Oper} {o : Oper} {a : Act} {Q : Exit → Act → World → Prop} {Kc : Act → World → Prop} {W : World} (base : Nat) (E O : Nat → Prop) (s x : Operand) (hw : Region.wanted o (yielded ops a.tmps) = true) (ho : o.op = .call { callee := .builtin .append, args := #[s, x], argTypes := #[28, 28] })
    (v : Value) (xs : List (List UInt8)) (ys : List UInt8) (A : Option Addr) (n c : Nat) (hp : Kd.FK bytesK W O ys [.slice A n c]) (hO : ∀ k, O k → some k ≠ v.ownBlock) (hs : a.eval s = v) (hx : a.eval x = .slice (some ⟨W.heap.size, 0, none⟩) 1 1)
    (HO : Kd.N bytesK 39 W base E v xs) (hbase : base ≤ W.heap.size) (hl : xs.length ≤ 100000)
    (h : ∀ v1 w1, Kd.N bytesK 39 w1 base (fun k => E k ∨ O k ∨ W.heap.size ≤ k) v1 (xs ++ [ys]) → W.grownBy w1 v.ownBlock → Kc (a.put o.dst v1) w1) :
    if Region.wanted o (yielded ops a.tmps) = true then Oper.wp Try.prog o a (W.alloc (.cells #[.slice A n c] 39)) Kc Q else Kc (a.put o.dst undef) (W.alloc (.cells #[.slice A n c] 39)) :=
  Kd.N_append_step bytesK (w0 := W) base hw s x 28 39 _ 24 ho Try.underlying28 info_bytes rfl (by decide) (by decide) v xs ys [.slice A n c] (fun k => E k ∨ O k ∨ W.heap.size ≤ k) O hs hx
    hp (fun k hk => ⟨.inr (.inl hk), hO k hk⟩) (fun k hk => .inr (.inr hk)) (Kd.N_mono HO (fun k hk => .inl hk)) (Below.refl _ _) hbase (by omega) (fun v1 w1 h1 h2 h3 _ => h v1 w1 h1 h3)
end Go.Proofs.Ytkmeipblgdahoaa.Dv
namespace Go.Proofs.Ytkmeipblgdahoaa.Dv.T
open Go.RowKit Go.Shelf Go.Proofs.YtkmeipblgdahoaaW.PrintWords Go.Proofs.YtkmeipblgdahoaaW.PrintMore Go.Proofs.Ytkmeipblgdahoaa.Base Go.Proofs.Ytkmeipblgdahoaa.Shp
set_option maxRecDepth 100000
set_option linter.unusedVariables false
set_option linter.unusedSimpArgs false
/-- The bytes' block bears no mark. -/
def Typ (w : World) (cs : List Value) : Prop := ∀ (ad : Addr) (n c : Nat), cs = [.slice (some ad) n c] → 0 < n → ∃ vs, w.heap[ad.block]? = some (.cells vs 5 (0, 0))
theorem Typ.move {w w1 : World} {cs : List Value} (h : Typ w cs) (hm : ∀ ad n c, cs = [.slice (some ad) n c] → 0 < n → w1.heap[ad.block]? = w.heap[ad.block]?) : Typ w1 cs := by
  intro ad n c e hp
  obtain ⟨vs, hv⟩ := h ad n c e hp
  exact ⟨vs, (hm ad n c e hp).trans hv⟩
def bytesK : Kd (List UInt8) where
  sz := 1
  E := []
  K := fun w x cs => Dv.bytesK.K w x cs ∧ Typ w cs
  M := fun _ _ _ _ _ => False
  K_len := fun h => Dv.bytesK.K_len h.1
  K_one := fun h => Dv.bytesK.K_one h.1
  K_below := fun hb h => ⟨Dv.bytesK.K_below hb h.1, h.2.move (fun ad n c e hp => by
    obtain ⟨vs, hv⟩ := h.2 ad n c e hp
    exact hb.block _ (Array.getElem?_eq_some_iff.1 hv).1)⟩
  K_of_M := fun h => h.elim
  M_mono := fun _ h => h
  M_bound := fun h => h.elim
  M_move := fun _ h => h
  M_lower := fun _ h => h
def blocksK : Kd (List (List UInt8)) := Kd.slice 39 bytesK
def zoneK : Kd Zn := Kd.pair blocksK (num .i64)
theorem FK_plain {w : World} {ok : Nat → Prop} {x : List UInt8} {c : List Value} (h : Kd.FK bytesK w ok x c) : Kd.FK Dv.bytesK w ok x c := fun W' hW => (h W' hW).1
theorem C_plain {w : World} {A : Option Addr} {n : Nat} {xs : List (List UInt8)} (h : bytesK.C w A n xs) : Dv.bytesK.C w A n xs := by
  refine ⟨h.1, h.2.1, fun hp => ?_⟩
  obtain ⟨ad, e, hh⟩ := h.2.2 hp
  refine ⟨ad, e, fun i y hy => ?_⟩
  obtain ⟨cs, h1, h2, h3⟩ := hh i y hy
  exact ⟨cs, h1, h2.1, h3⟩
theorem own_FK {w : World} {base : Nat} {A : Option Addr} {n c : Nat} {xs : List UInt8} (h : Base.Own w base (.slice A n c) xs) : Kd.FK bytesK w (fun k => some k = (Value.slice A n c).ownBlock) xs [.slice A n c] := by
  intro W' hW
  refine ⟨Dv.own_FK h W' hW, ?_⟩
  intro ad n' c' e hp
  simp only [List.cons.injEq, Value.slice.injEq, and_true] at e
  obtain ⟨rfl, rfl, rfl⟩ := e
  obtain ⟨vs, hv⟩ := Kd.R_typed h ad.block rfl
  exact ⟨vs, (hW ad.block rfl (Array.getElem?_eq_some_iff.1 hv).1).trans hv⟩
theorem zone_K {w : World} {bs : List (List UInt8)} {d : Int} {A : Option Addr} {c : Nat} {ok : Nat → Prop} (hf : Kd.F bytesK w ok A bs.length bs) (hc : bs.length ≤ c) (hd : IsI d) : Kd.FK zoneK w ok (bs, d) [.slice A bs.length c, .int .i64 d] := by
  obtain ⟨d1, d2⟩ := hd
  exact fun W' hW => ⟨[_], [_], rfl, ⟨A, c, rfl, hc, hf W' hW⟩, ⟨rfl, by simp [Lit.wf, IntKind.min, IntKind.max, IntKind.bits, IntKind.signed]; omega⟩⟩
/-- A zone that is gathered: its box, its row of blocks. -/
structure ZI (w1 W : World) (gz : Nat) (du : Int) (v : Value) (xs : List (List UInt8)) (S : Nat → Prop) : Prop where
  blk : W.heap[gz]? = some (.cells #[v, .int .i64 du] 77 (0, 0))
  row : Kd.N bytesK 39 W w1.heap.size S v xs
  ft : ∀ k, S k → w1.heap.size ≤ k ∧ k < W.heap.size ∧ CellsAt W k
  chg : Chg w1 W (fun k => k = gz)
section
variable {w1 W W' : World} {gz : Nat} {du : Int} {v v1 : Value} {xs ys : List (List UInt8)} {S O : Nat → Prop}
theorem ZI.blkEq (h : ZI w1 W gz du v xs S) : gz < W.heap.size := (Array.getElem?_eq_some_iff.1 h.blk).1
theorem ZI.grown (h : ZI w1 W gz du v xs S) (hgz : gz < w1.heap.size) {row : Option Nat} (hg : W.grownBy W' row) (hr : ∀ r, row = some r → w1.heap.size ≤ r ∧ ∃ o : Obj, W.heap[r]? = some o ∧ o.isCells = false) : ZI w1 W' gz du v xs S := by
  have hne : ∀ k, S k → row ≠ some k := by
    intro k hk e
    obtain ⟨_, o, h1, h2⟩ := hr k e
    obtain ⟨_, _, o', h3, h4⟩ := h.ft k hk
    rw [h1] at h3
    injection h3 with h3
    subst h3
    rw [h2] at h4
    cases h4
  refine ⟨?_, Kd.N_grown h.row hg (fun k hk e => hne k hk e.symm), fun k hk => ⟨(h.ft k hk).1, Nat.lt_of_lt_of_le (h.ft k hk).2.1 hg.size, (h.ft k hk).2.2.grown hg (hne k hk)⟩, h.chg.grown hg (fun k e => .inr (hr k e).1)⟩
  rw [hg.block gz h.blkEq (fun e => by have := (hr gz e.symm).1; omega)]
  exact h.blk
theorem ZI.below (h : ZI w1 W gz du v xs S) (hgz : gz < w1.heap.size) (hb : Below W.heap.size W W') : ZI w1 W' gz du v xs S :=
  h.grown hgz (row := none) ⟨hb.os, hb.tape, hb.output, hb.size, fun k hk _ => hb.block k hk⟩ (fun r e => by cases e)
end
/-- append(v, x): a zone. -/
theorem app_zone {ops : Array Oper} {rest : List Oper} {o : Oper} {a : Act} {Q : Exit → Act → World → Prop} {W : World} (base : Nat) (E O : Nat → Prop) (s x : Operand) (hgd : o.guard = none) (ho : o.op = .call { callee := .builtin .append, args := #[s, x], argTypes := #[64, 64] })
    (v : Value) (xs : List Zn) (bs : List (List UInt8)) (d : Int) (A : Option Addr) (n c : Nat) (hp : Kd.FK zoneK W O (bs, d) [.slice A n c, .int .i64 d]) (hO : ∀ k, O k → some k ≠ v.ownBlock) (hs : a.eval s = v) (hx : a.eval x = .slice (some ⟨W.heap.size, 0, none⟩) 1 1)
    (HO : Kd.N zoneK 77 W base E v xs) (hbase : base ≤ W.heap.size) (hl : xs.length ≤ 100000)
    (h : ∀ v1 w1, Kd.N zoneK 77 w1 base (fun k => E k ∨ O k ∨ W.heap.size ≤ k) v1 (xs ++ [(bs, d)]) → W.grownBy w1 v.ownBlock → wpList Try.prog ops Q rest (a.put o.dst v1) w1) :
    wpList Try.prog ops Q (o :: rest) a (W.alloc (.cells #[.slice A n c, .int .i64 d] 77)) :=
  Kd.N_append zoneK (w0 := W) base hgd s x 64 77 _ 32 ho Try.underlying64 info_zone rfl (by decide) (by decide) v xs (bs, d) [.slice A n c, .int .i64 d] (fun k => E k ∨ O k ∨ W.heap.size ≤ k) O hs hx
    hp (fun k hk => ⟨.inr (.inl hk), hO k hk⟩) (fun k hk => .inr (.inr hk)) (Kd.N_mono HO (fun k hk => .inl hk)) (Below.refl _ _) hbase (by omega) (fun v1 w1 h1 h2 h3 _ => h v1 w1 h1 h3)
theorem FK_cells {w : World} {ok : Nat → Prop} {x : List UInt8} {c : List Value} (hFK : Kd.FK Dv.bytesK w ok x c) : Kd.FK Dv.bytesK w (fun k => ok k ∧ CellsAt w k) x c := by
  obtain ⟨A, cp, rfl, hcp, hF⟩ := Kd.FK_slice_open hFK
  intro W' hW
  refine ⟨A, cp, rfl, hcp, ?_⟩
  have hC := Kd.F_now hF
  rcases Nat.eq_zero_or_pos x.length with hz | hz
  · exact ⟨rfl, hC.2.1, fun hp => by omega⟩
  · obtain ⟨ad, c0, hA, _, _, hcc, hin⟩ := Kd.F_get hF 0 (0 : Int) (by omega) (by omega)
    subst hA
    have hokb := hin (by decide)
    have hlt0 : w.cell? (ad.add 0) ≠ none := by
      obtain ⟨ad', hA', hcell⟩ := byte_at hC 0 hz
      injection hA' with hA'
      subst hA'
      rw [hcell]; simp
    obtain ⟨vv, hvv⟩ := Option.ne_none_iff_exists'.1 hlt0
    have hblt := World.block_lt_of_cell? w _ hvv
    rw [add_block] at hblt
    have hcells : CellsAt w ad.block := by
      have hb := hvv
      unfold World.cell? at hb
      rw [add_block] at hb
      cases ho : w.heap[ad.block]? with
      | none => rw [ho] at hb; simp at hb
      | some o =>
        rw [ho] at hb
        cases o with
        | cells _ _ _ => exact ⟨_, ho, rfl⟩
        | _ => simp at hb
    have heq : W'.heap[ad.block]? = w.heap[ad.block]? := hW ad.block ⟨hokb, hcells⟩ hblt
    refine ⟨hC.1, hC.2.1, fun hp => ?_⟩
    obtain ⟨ad', hA', hall⟩ := hC.2.2 hp
    injection hA' with hA'
    subst hA'
    refine ⟨ad, rfl, fun i y hy => ?_⟩
    obtain ⟨cs, h1, h2, h3⟩ := hall i y hy
    refine ⟨cs, h1, h2, fun q u hu => ?_⟩
    rw [World.cell?_of_block (w := w) (by rw [add_block]; exact heq)]
    exact h3 q u hu
/-- A row of blocks leads to cells alone. -/
theorem N_cells {w : World} {base : Nat} {ok : Nat → Prop} {v : Value} {xs : List (List UInt8)} {e : Nat} (h : Kd.N bytesK e w base ok v xs) : Kd.N bytesK e w base (fun k => ok k ∧ CellsAt w k) v xs := by
  have hty := Kd.N_typed h
  obtain ⟨h0, rows, hl, hR, hf⟩ := h
  refine ⟨fun k hk => ⟨h0 k hk, ?_⟩, rows, hl, hR, fun j x c hx hc => ?_⟩
  · obtain ⟨cells, hcl⟩ := hty k hk
    exact ⟨_, hcl, rfl⟩
  · have hFK := hf j x c hx hc
    intro W' hW
    refine ⟨Kd.FK_mono (FK_cells (FK_plain hFK)) (fun k hk => ⟨⟨hk.1.1, hk.2⟩, hk.1.2⟩) W' hW, ?_⟩
    have hT := (Kd.FK_now hFK).2
    refine hT.move (fun ad n cp e hp => ?_)
    subst e
    obtain ⟨vs, hv⟩ := hT ad n cp rfl hp
    obtain ⟨A, cp', e', hcp, hF⟩ := Kd.FK_slice_open (FK_plain hFK)
    simp only [List.cons.injEq, Value.slice.injEq, and_true] at e'
    obtain ⟨rfl, rfl, rfl⟩ := e'
    have hin := Kd.F_in hF rfl hp (by decide)
    exact hW ad.block ⟨⟨hin.1, _, hv, rfl⟩, hin.2⟩ (Array.getElem?_eq_some_iff.1 hv).1
/-- A zone that is gathered has one block more. -/
theorem ZI.add {w1 Wq w8 w9 : World} {gz : Nat} {du : Int} {v v9 : Value} {xs ys : List (List UInt8)} {S O : Nat → Prop} (h : ZI w1 w8 gz du v xs S) (hgz : gz < w1.heap.size) (hq : w1.heap.size ≤ Wq.heap.size) (hN : Kd.N bytesK 39 w9 w1.heap.size (fun k => S k ∨ O k ∨ w8.heap.size ≤ k) v9 ys) (hg : w8.grownBy w9 v.ownBlock)
    (hO : ∀ k, O k → Wq.heap.size ≤ k) (hs8 : w1.heap.size ≤ w8.heap.size) : ∃ S', ZI w1 (w9.setCell ⟨gz, 0, none⟩ v9) gz du v9 ys S' := by
  have hge : ∀ k, (S k ∨ O k ∨ w8.heap.size ≤ k) → w1.heap.size ≤ k := fun k hk => by
    rcases hk with h1 | h1 | h1
    · exact (h.ft k h1).1
    · exact Nat.le_trans hq (hO k h1)
    · exact Nat.le_trans hs8 h1
  have hb9 : w9.heap[gz]? = some (.cells #[v, .int .i64 du] 77 (0, 0)) := by
    rw [hg.block gz h.blkEq (fun e => by have := Kd.N_base h.row gz e.symm; omega)]
    exact h.blk
  have hN' := N_cells (Kd.N_bound hN)
  refine ⟨fun k => ((S k ∨ O k ∨ w8.heap.size ≤ k) ∧ k < w9.heap.size) ∧ CellsAt w9 k, blk_set hb9 0 v9, Kd.N_far hN' (fun k hk e => ?_) _, fun k hk => ⟨hge k hk.1.1, by simpa [World.setCell] using hk.1.2, hk.2.far (fun e => ?_)⟩, (h.chg.grown hg (fun k e => .inr (Kd.N_base h.row k e))).set (.inl rfl) _⟩
  · have := hge k hk.1.1
    have e' : k = gz := e
    omega
  · have := hge k hk.1.1
    have e' : k = gz := e
    omega
/-- append(v, x) in a region that draws: a block. -/
theorem app_blk_step {ops : Array Oper} {o : Oper} {a : Act} {Q : Exit → Act → World → Prop} {Kc : Act → World → Prop} {W : World} (base : Nat) (E O : Nat → Prop) (s x : Operand) (hw : Region.wanted o (yielded ops a.tmps) = true) (ho : o.op = .call { callee := .builtin .append, args := #[s, x], argTypes := #[28, 28] })
    (v : Value) (xs : List (List UInt8)) (ys : List UInt8) (A : Option Addr) (n c : Nat) (hp : Kd.FK bytesK W O ys [.slice A n c]) (hO : ∀ k, O k → some k ≠ v.ownBlock) (hs : a.eval s = v) (hx : a.eval x = .slice (some ⟨W.heap.size, 0, none⟩) 1 1)
    (HO : Kd.N bytesK 39 W base E v xs) (hbase : base ≤ W.heap.size) (hl : xs.length ≤ 100000)
    (h : ∀ v1 w1, Kd.N bytesK 39 w1 base (fun k => E k ∨ O k ∨ W.heap.size ≤ k) v1 (xs ++ [ys]) → W.grownBy w1 v.ownBlock → Kc (a.put o.dst v1) w1) :
    if Region.wanted o (yielded ops a.tmps) = true then Oper.wp Try.prog o a (W.alloc (.cells #[.slice A n c] 39)) Kc Q else Kc (a.put o.dst undef) (W.alloc (.cells #[.slice A n c] 39)) :=
  Kd.N_append_step bytesK (w0 := W) base hw s x 28 39 _ 24 ho Try.underlying28 info_bytes rfl (by decide) (by decide) v xs ys [.slice A n c] (fun k => E k ∨ O k ∨ W.heap.size ≤ k) O hs hx
    hp (fun k hk => ⟨.inr (.inl hk), hO k hk⟩) (fun k hk => .inr (.inr hk)) (Kd.N_mono HO (fun k hk => .inl hk)) (Below.refl _ _) hbase (by omega) (fun v1 w1 h1 h2 h3 _ => h v1 w1 h1 h3)
end Go.Proofs.Ytkmeipblgdahoaa.Dv.T
namespace Go.Proofs.Ytkmeipblgdahoaa.Ck
open Go.RowKit Go.Shelf Go.Proofs.YtkmeipblgdahoaaW.PrintWords Go.Proofs.YtkmeipblgdahoaaW.PrintMore Go.Proofs.Ytkmeipblgdahoaa.Base Go.Proofs.Ytkmeipblgdahoaa.Dv.T
open Go.Proofs.Ytkmeipblgdahoaa.Dv (CellsAt Chg)
set_option maxRecDepth 100000
set_option linter.unusedVariables false
set_option linter.unusedSimpArgs false
/-- Blocks that are gathered in a box. -/
structure BI (w1 W : World) (gz : Nat) (v : Value) (xs : List (List UInt8)) (S : Nat → Prop) : Prop where
  blk : W.heap[gz]? = some (.cells #[v] 28 (0, 0))
  row : Kd.N bytesK 39 W w1.heap.size S v xs
  ft : ∀ k, S k → w1.heap.size ≤ k ∧ k < W.heap.size ∧ CellsAt W k
  chg : Chg w1 W (fun k => k = gz)
section
variable {w1 W W' : World} {gz : Nat} {v v1 : Value} {xs ys : List (List UInt8)} {S O : Nat → Prop}
theorem BI.blkEq (h : BI w1 W gz v xs S) : gz < W.heap.size := (Array.getElem?_eq_some_iff.1 h.blk).1
theorem BI.grown (h : BI w1 W gz v xs S) (hgz : gz < w1.heap.size) {row : Option Nat} (hg : W.grownBy W' row) (hr : ∀ r, row = some r → w1.heap.size ≤ r ∧ ∃ o : Obj, W.heap[r]? = some o ∧ o.isCells = false) : BI w1 W' gz v xs S := by
  have hne : ∀ k, S k → row ≠ some k := by
    intro k hk e
    obtain ⟨_, o, h1, h2⟩ := hr k e
    obtain ⟨_, _, o', h3, h4⟩ := h.ft k hk
    rw [h1] at h3
    injection h3 with h3
    subst h3
    rw [h2] at h4
    cases h4
  refine ⟨?_, Kd.N_grown h.row hg (fun k hk e => hne k hk e.symm), fun k hk => ⟨(h.ft k hk).1, Nat.lt_of_lt_of_le (h.ft k hk).2.1 hg.size, (h.ft k hk).2.2.grown hg (hne k hk)⟩, h.chg.grown hg (fun k e => .inr (hr k e).1)⟩
  rw [hg.block gz h.blkEq (fun e => by have := (hr gz e.symm).1; omega)]
  exact h.blk
theorem BI.below (h : BI w1 W gz v xs S) (hgz : gz < w1.heap.size) (hb : Below W.heap.size W W') : BI w1 W' gz v xs S :=
  h.grown hgz (row := none) ⟨hb.os, hb.tape, hb.output, hb.size, fun k hk _ => hb.block k hk⟩ (fun r e => by cases e)
end
/-- One block more. -/
theorem BI.add {w1 Wq w8 w9 : World} {gz : Nat} {v v9 : Value} {xs ys : List (List UInt8)} {S O : Nat → Prop} (h : BI w1 w8 gz v xs S) (hgz : gz < w1.heap.size) (hq : w1.heap.size ≤ Wq.heap.size) (hN : Kd.N bytesK 39 w9 w1.heap.size (fun k => S k ∨ O k ∨ w8.heap.size ≤ k) v9 ys) (hg : w8.grownBy w9 v.ownBlock)
    (hO : ∀ k, O k → Wq.heap.size ≤ k) (hs8 : w1.heap.size ≤ w8.heap.size) : ∃ S', BI w1 (w9.setCell ⟨gz, 0, none⟩ v9) gz v9 ys S' := by
  have hge : ∀ k, (S k ∨ O k ∨ w8.heap.size ≤ k) → w1.heap.size ≤ k := fun k hk => by
    rcases hk with h1 | h1 | h1
    · exact (h.ft k h1).1
    · exact Nat.le_trans hq (hO k h1)
    · exact Nat.le_trans hs8 h1
  have hb9 : w9.heap[gz]? = some (.cells #[v] 28 (0, 0)) := by
    rw [hg.block gz h.blkEq (fun e => by have := Kd.N_base h.row gz e.symm; omega)]
    exact h.blk
  have hN' := N_cells (Kd.N_bound hN)
  refine ⟨fun k => ((S k ∨ O k ∨ w8.heap.size ≤ k) ∧ k < w9.heap.size) ∧ CellsAt w9 k, blk_set hb9 0 v9, Kd.N_far hN' (fun k hk e => ?_) _, fun k hk => ⟨hge k hk.1.1, by simpa [World.setCell] using hk.1.2, hk.2.far (fun e => ?_)⟩, (h.chg.grown hg (fun k e => .inr (Kd.N_base h.row k e))).set (.inl rfl) _⟩
  · have := hge k hk.1.1
    have e' : k = gz := e
    omega
  · have := hge k hk.1.1
    have e' : k = gz := e
    omega
/-- A literal of one block. -/
theorem lit_one (W : World) (base : Nat) (hb : base ≤ W.heap.size) {xs : List UInt8} {A : Option Addr} {n c : Nat} {O : Nat → Prop} (hp : Kd.FK bytesK W O xs [.slice A n c]) :
    Kd.N bytesK 39 (W.alloc (.cells #[.slice A n c] 39)) base (fun k => O k ∨ W.heap.size ≤ k) (.slice (some ⟨W.heap.size, 0, none⟩) 1 1) [xs] := by
  have hR : (Kd.raw bytesK.sz).R 39 (W.alloc (.cells #[.slice A n c] 39)) base (fun k => k = W.heap.size) (.slice (some ⟨W.heap.size, 0, none⟩) 1 1) [[.slice A n c]] := by
    refine ⟨fun k hk => ?_, [.slice A n c], ?_, ?_⟩
    · have : W.heap.size = k := by simpa [Value.ownBlock] using hk
      exact this.symm
    · have h2 := World.ownsRow_lit (base := base) (e := 39) (size := 1) W #[.slice A n c] 1 hb (by simp [maxLen]) rfl
      exact h2
    · refine ⟨rfl, fun j p hj => ?_⟩
      cases j with
      | zero => simp at hj; subst hj; exact ⟨rfl, rfl, fun u hu => by rw [List.mem_singleton.1 hu]; rfl⟩
      | succ j => simp at hj
  refine Kd.N_made hR (World.grownBy_alloc W _ none) ⟨W.heap.size, by simp [Value.ownBlock], Nat.le_refl _⟩ rfl (fun j x c' hx hc => ?_) (fun k hk => .inl hk) (.inr (Nat.le_refl _))
  cases j with
  | zero => simp at hx hc; subst hx hc; exact hp
  | succ j => simp at hx
end Go.Proofs.Ytkmeipblgdahoaa.Ck
namespace Go.Proofs.Ytkmeipblgdahoaa.Ck
open Go.RowKit Go.Shelf Go.Proofs.YtkmeipblgdahoaaW.PrintWords Go.Proofs.YtkmeipblgdahoaaW.PrintMore Go.Proofs.Ytkmeipblgdahoaa.Base Go.Proofs.Ytkmeipblgdahoaa.Rc Go.Proofs.Ytkmeipblgdahoaa.Shp
set_option maxRecDepth 100000
set_option linter.unusedVariables false
set_option linter.unusedSimpArgs false
theorem rm_rmC (b : Nat) : rm (b : Int) = (rmC b : Int) := by
  by_cases h : Shp.Pow (b : Int)
  · have h' : b = 64 ∨ b = 128 ∨ b = 256 ∨ b = 512 ∨ b = 1024 ∨ b = 2048 ∨ b = 4096 := by unfold Shp.Pow at h; omega
    rw [show rm (b : Int) = ((b : Int) - 27) / 16 from if_pos h, show rmC b = (b - 27) / 16 from if_pos h']
    omega
  · have h' : ¬ (b = 64 ∨ b = 128 ∨ b = 256 ∨ b = 512 ∨ b = 1024 ∨ b = 2048 ∨ b = 4096) := by unfold Shp.Pow at h; omega
    rw [show rm (b : Int) = 0 from if_neg h, show rmC b = 0 from if_neg h']
    rfl
/-- What a round of Encode's loop loads. -/
def ES (g gm : Nat) (z zb b r many : Int) (q : Nat) (w : World) : Prop :=
  w.cell? ⟨g, 0, none⟩ = some (.int .i64 z) ∧ w.cell? ⟨g, 1, none⟩ = some (.int .i64 zb) ∧ w.cell? ⟨g, 2, none⟩ = some (.int .i64 b) ∧ w.cell? ⟨g, 3, none⟩ = some (.int .i64 r) ∧ w.cell? ⟨gm, 0, none⟩ = some (.int .i64 many) ∧ w.cell? ⟨g + 1, 0, none⟩ = some (.int .u64 (q : Int))
theorem ES.move {g gm : Nat} {z zb b r many : Int} {q : Nat} {w w' : World} (h : ES g gm z zb b r many q w) (hm : ∀ k, (k = g ∨ k = g + 1 ∨ k = gm) → w'.heap[k]? = w.heap[k]?) : ES g gm z zb b r many q w' := by
  obtain ⟨h0, h1, h2, h3, h4, h5⟩ := h
  have e0 := hm g (.inl rfl)
  have e1 := hm (g + 1) (.inr (.inl rfl))
  have e2 := hm gm (.inr (.inr rfl))
  exact ⟨(World.cell?_of_block e0).trans h0, (World.cell?_of_block e0).trans h1, (World.cell?_of_block e0).trans h2, (World.cell?_of_block e0).trans h3, (World.cell?_of_block e2).trans h4, (World.cell?_of_block e1).trans h5⟩
theorem ES.below {g gm : Nat} {z zb b r many : Int} {q : Nat} {w w' : World} (h : ES g gm z zb b r many q w) (hb : Below w.heap.size w w') : ES g gm z zb b r many q w' :=
  ⟨pw_cell_below hb h.1, pw_cell_below hb h.2.1, pw_cell_below hb h.2.2.1, pw_cell_below hb h.2.2.2.1, pw_cell_below hb h.2.2.2.2.1, pw_cell_below hb h.2.2.2.2.2⟩
/-- The blocks of pieces, one behind the other. -/
def bRow {cnt : Nat} (many q bn rm : Nat) (l : List Plc) (pre : List (Fin cnt)) : List (List UInt8) := pre.mapIdx fun i x => cblk i many q ((l.drop (x.1 * rm)).take rm) bn
theorem bRow_len {cnt many q bn rm : Nat} {l : List Plc} {pre : List (Fin cnt)} : (bRow many q bn rm l pre).length = pre.length := by unfold bRow; simp
theorem bRow_snoc {cnt many q bn rm : Nat} {l : List Plc} {pre : List (Fin cnt)} {x : Fin cnt} : bRow many q bn rm l (pre ++ [x]) = bRow many q bn rm l pre ++ [cblk pre.length many q ((l.drop (x.1 * rm)).take rm) bn] := by
  unfold bRow
  rw [List.mapIdx_concat]
theorem bRow_all {q bn rm : Nat} {l : List Plc} {many : Nat} (hm : manyN l.length bn = many) (hr : rmC bn = rm) : bRow many q bn rm l (List.finRange many) = blks q l bn := by
  unfold bRow blks
  rw [hm, hr]
  apply List.ext_getElem
  · simp
  · intro i h1 h2
    simp
/-- What Encode leaves. -/
def EncP (w : World) (z zb b r : Int) (q : Nat) (l : List Plc) (e : Ending) (w' : World) : Prop :=
  Below w.heap.size w w' ∧ ((∃ bs v, encC (decide (Rt z zb b r)) z zb b.toNat q l = .ok bs ∧ e = .returned (.tuple #[v, .int .u16 0]) ∧ Kd.N Dv.T.bytesK 39 w' w.heap.size (fun k => w.heap.size ≤ k ∧ k < w'.heap.size) v bs) ∨
    (∃ x : Int, encC (decide (Rt z zb b r)) z zb b.toNat q l = .error x ∧ (x = 140 ∨ x = 141) ∧ e = .returned (.tuple #[.slice none 0 0, .int .u16 x])))
attribute [local go_sem] Oper.semAt_some
attribute [local go_sem] max2_mx min2_mn max_two min_two
set_option maxHeartbeats 4000000 in
theorem encode_calls (z zb b r : Int) (hz : IsI z) (hzb : IsI zb) (hb : IsI b) (hr : IsI r) (q : Nat) (hq : q < 18446744073709551616) (A : Option Addr) (n c : Nat) (l : List Plc) (hn : n ≤ 10000000) (hnc : n ≤ c) (w : World) (h : plK.C w A n l) (hok : ∀ x ∈ l, PlcOk x) :
    Calls Try.prog 10 #[.agg #[.int .i64 z, .int .i64 zb, .int .i64 b, .int .i64 r], .agg #[.int .u64 (q : Int), .slice A n c]] w (EncP w z zb b r q l) := by
  obtain ⟨hl, hm⟩ := C_len h
  have HL := Aside0.mk hl
  have HC := Aside0.mk h
  have HOK := Aside0.mk hok
  have HA := Aside0.mk (below_alloc (alloc_below w (.cells #[.int .i64 z, .int .i64 zb, .int .i64 b, .int .i64 r] 23)) (.cells #[.int .u64 (q : Int), .slice A n c] 27))
  clear h hl hok
  have HI := Aside0.mk (And.intro hz (And.intro hzb (And.intro hb hr)))
  clear hz hzb hb hr
  obtain ⟨rt, hrt⟩ : ∃ rt, decide (Rt z zb b r) = rt := ⟨_, rfl⟩
  have HRT := Aside0.mk hrt
  clear hrt
  refine (callsIn_wide (n := 9)).1 (callsIn_of_wp_marks Try.func10 rfl trivial ?_ rfl)
  refine wpIn_wide.2 ?_
  simp only [Try.ntmps10, List.size_toArray, List.length_cons, List.length_nil, Nat.reduceAdd, Nat.reduceSub, Array.replicate_succ, Array.replicate_zero, List.push_toArray, List.append_toArray, List.nil_append, List.cons_append]
  go_wp2_with fail
  refine (right_calls z zb b r HI.out.1 HI.out.2.1 HI.out.2.2.1 HI.out.2.2.2 _).mono ?_
  rintro e w1 ⟨rfl, hb1⟩
  rw [HRT.out]
  cases rt with
  | false =>
    have HB1 := Aside0.mk (below_go HA.out hb1)
    clear hb1
    go_wp2
    refine ⟨_, results_tmp2 Try.results10 _ _ _, ?_⟩
    exact ⟨HB1.out, .inr ⟨141, by unfold encC; rw [HRT.out, if_neg (fun h => by cases h.1)], .inr rfl, rfl⟩⟩
  | true =>
  have HS1 := Aside0.mk (show w1.heap[w.heap.size]? = some (.cells #[.int .i64 z, .int .i64 zb, .int .i64 b, .int .i64 r] 23 (0, 0)) ∧ w1.heap[w.heap.size + 1]? = some (.cells #[.int .u64 (q : Int), .slice A n c] 27 (0, 0)) from
    ⟨(hb1.block _ (by simp; omega)).trans (blk_past (blk_here rfl)), (hb1.block _ (by simp)).trans (blk_here (by simp))⟩)
  have HB1 := Aside0.mk (below_go HA.out hb1)
  clear hb1
  obtain ⟨g, hg⟩ : ∃ g, w.heap.size = g := ⟨_, rfl⟩
  rw [hg] at HS1 ⊢
  have HG := Aside0.mk hg
  clear hg
  obtain ⟨mb, hmb⟩ : ∃ mb, decide (MayP z zb l) = mb := ⟨_, rfl⟩
  have HMB := Aside0.mk hmb
  clear hmb
  obtain ⟨c0, c1, c2, c3, s0, s1⟩ : w1.cell? ⟨g, 0, none⟩ = some (.int .i64 z) ∧ w1.cell? ⟨g, 1, none⟩ = some (.int .i64 zb) ∧ w1.cell? ⟨g, 2, none⟩ = some (.int .i64 b) ∧ w1.cell? ⟨g, 3, none⟩ = some (.int .i64 r) ∧ w1.cell? ⟨g + 1, 0, none⟩ = some (.int .u64 (q : Int)) ∧ w1.cell? ⟨g + 1, 1, none⟩ = some (.slice A n c) := by
    obtain ⟨h1, h2⟩ := HS1.out
    exact ⟨by simp [World.cell?, h1], by simp [World.cell?, h1], by simp [World.cell?, h1], by simp [World.cell?, h1], by simp [World.cell?, h2], by simp [World.cell?, h2]⟩
  go_wp2_with fail
  refine (may_calls z zb b r A n c l _ (Kd.C_below HC.out HB1.out)).mono ?_
  rintro e w2 ⟨rfl, hb2⟩
  rw [HMB.out]
  have HB2 := Aside0.mk (below_go HB1.out hb2)
  have HS2 := Aside0.mk (show w2.heap[g]? = some (.cells #[.int .i64 z, .int .i64 zb, .int .i64 b, .int .i64 r] 23 (0, 0)) ∧ w2.heap[g + 1]? = some (.cells #[.int .u64 (q : Int), .slice A n c] 27 (0, 0)) from
    ⟨(hb2.block _ (Array.getElem?_eq_some_iff.1 HS1.out.1).1).trans HS1.out.1, (hb2.block _ (Array.getElem?_eq_some_iff.1 HS1.out.2).1).trans HS1.out.2⟩)
  clear hb2 c0 c1 c2 c3 s0 s1
  cases mb with
  | false =>
    go_wp2
    refine ⟨_, results_tmp2 Try.results10 _ _ _, ?_⟩
    exact ⟨HB2.out, .inr ⟨141, by unfold encC; rw [if_neg (fun h => by have := h.2; rw [decide_eq_false_iff_not] at HMB; exact HMB.out this)], .inr rfl, rfl⟩⟩
  | true =>
  have HRT2 := Aside0.mk (of_decide_eq_true HRT.out)
  have HMP := Aside0.mk (of_decide_eq_true HMB.out)
  obtain ⟨rm0, hrm0⟩ : ∃ rm0 : Nat, rmC b.toNat = rm0 := ⟨_, rfl⟩
  obtain ⟨bn, rfl⟩ : ∃ bn : Nat, b = (bn : Int) := ⟨b.toNat, by have := pow_range HRT2.out.2.2.2.2.1; omega⟩
  rw [Int.toNat_natCast] at hrm0
  have hrm : rm (bn : Int) = (rm0 : Int) := by rw [rm_rmC, hrm0]
  obtain ⟨c0, c1, c2, c3, s0, s1⟩ : w2.cell? ⟨g, 0, none⟩ = some (.int .i64 z) ∧ w2.cell? ⟨g, 1, none⟩ = some (.int .i64 zb) ∧ w2.cell? ⟨g, 2, none⟩ = some (.int .i64 (bn : Int)) ∧ w2.cell? ⟨g, 3, none⟩ = some (.int .i64 r) ∧ w2.cell? ⟨g + 1, 0, none⟩ = some (.int .u64 (q : Int)) ∧ w2.cell? ⟨g + 1, 1, none⟩ = some (.slice A n c) := by
    obtain ⟨h1, h2⟩ := HS2.out
    exact ⟨by simp [World.cell?, h1], by simp [World.cell?, h1], by simp [World.cell?, h1], by simp [World.cell?, h1], by simp [World.cell?, h2], by simp [World.cell?, h2]⟩
  have hrp : 0 < rm0 := by
    have h1 := HRT2.out.2.2.2.2.1
    rw [← hrm0]
    unfold rmC
    unfold Shp.Pow at h1
    rw [if_pos (by omega)]
    omega
  obtain ⟨r1, r2, r3, r4, r5⟩ := rmC_le bn (by rw [hrm0]; exact hrp)
  rw [hrm0] at r3 r4 r5
  have HRM := Aside0.mk hrm0
  have hw1 : IntKind.i64.wrap ((n : Int) + (rm0 : Int)) = (n : Int) + (rm0 : Int) := IntWalk.i64_in _ (by omega)
  have hw2 : IntKind.i64.wrap ((n : Int) + (rm0 : Int) - 1) = (n : Int) + (rm0 : Int) - 1 := IntWalk.i64_in _ (by omega)
  obtain ⟨mq, hmq⟩ : ∃ mq, (n + rm0 - 1) / rm0 = mq := ⟨_, rfl⟩
  have hmq2 : mq ≤ n + rm0 - 1 := by rw [← hmq]; exact Nat.div_le_self _ _
  have htd : ((n : Int) + (rm0 : Int) - 1).tdiv (rm0 : Int) = (mq : Int) := by
    rw [show (n : Int) + (rm0 : Int) - 1 = ((n + rm0 - 1 : Nat) : Int) by omega, Int.tdiv_eq_ediv_of_nonneg (by omega), ← hmq]
    exact (Int.natCast_ediv _ _).symm
  have hw3 : IntKind.i64.wrap (mq : Int) = (mq : Int) := IntWalk.i64_in _ (by omega)
  obtain ⟨many, hmany⟩ : ∃ many, manyN n bn = many := ⟨_, rfl⟩
  have hmx : mx (mq : Int) 1 = (many : Int) := by
    unfold mx
    rw [← hmany]
    unfold manyN
    rw [hrm0, hmq]
    split <;> omega
  have hrn : ¬ (rm0 : Int) = 0 := by omega
  have HMANY := Aside0.mk hmany
  have HMQ := Aside0.mk hmq
  clear hmany hmq hrm0
  go_wp2_with fail
  refine (room_calls (bn : Int) HI.out.2.2.1 _).mono ?_
  rintro e w3 ⟨rfl, rfl⟩
  rw [hrm]
  clear hrm
  obtain ⟨W3, hW3⟩ : ∃ W3, w2.alloc (.cells #[.int .i64 (many : Int)] 3) = W3 := ⟨_, rfl⟩
  have hb3 : Below w2.heap.size w2 W3 := by rw [← hW3]; exact alloc_below _ _
  have c1o := c1
  have c1 : (w2.alloc (.cells #[.int .i64 (many : Int)] 3)).cell? ⟨g, 1, none⟩ = some (.int .i64 zb) := by rw [hW3]; exact pw_cell_below hb3 c1
  have s1' : (w2.alloc (.cells #[.int .i64 (many : Int)] 3)).cell? ⟨g + 1, 1, none⟩ = some (.slice A n c) := by rw [hW3]; exact pw_cell_below hb3 s1
  have HB3 := Aside0.mk hb3
  have HW3 := Aside0.mk hW3
  clear hW3 hb3
  by_cases hlong : zb < (many : Int)
  · have hd1 : decide (zb < (many : Int)) = true := decide_eq_true hlong
    have HE := Aside0.mk (show encC (decide (Rt z zb (bn : Int) r)) z zb (bn : Int).toNat q l = .error 140 by
      unfold encC
      rw [if_pos ⟨HRT.out, HMP.out⟩, Int.toNat_natCast, HL.out, HMANY.out, if_neg (by omega)])
    clear hlong
    go_wp2
    refine ⟨_, results_tmp2 Try.results10 _ _ _, ?_⟩
    exact ⟨below_alloc HB2.out _, .inr ⟨140, HE.out, .inl rfl, rfl⟩⟩
  have hd1 : decide (zb < (many : Int)) = false := decide_eq_false hlong
  have HE := Aside0.mk (show encC (decide (Rt z zb (bn : Int) r)) z zb (bn : Int).toNat q l = .ok (blks q l bn) by
    unfold encC
    rw [if_pos ⟨HRT.out, HMP.out⟩, Int.toNat_natCast, HL.out, HMANY.out, if_pos (by omega)])
  have HMB2 := Aside0.mk (show many ≤ 4096 by have := HRT2.out.2.2.2.1; omega)
  have HFIT := Aside0.mk (HMP.out.fit HRT2.out.2.1 HRT2.out.2.2.2.1 HOK.out)
  clear hlong
  by_cases hn0 : n = 0
  · have hd2 : ((n : Int) == 0) = true := by rw [hn0]; rfl
    have c0' : (w2.alloc (.cells #[.int .i64 (many : Int)] 3)).cell? ⟨g, 0, none⟩ = some (.int .i64 z) := by rw [HW3.out]; exact pw_cell_below HB3.out c0
    have c2' : (w2.alloc (.cells #[.int .i64 (many : Int)] 3)).cell? ⟨g, 2, none⟩ = some (.int .i64 (bn : Int)) := by rw [HW3.out]; exact pw_cell_below HB3.out c2
    have c3' : (w2.alloc (.cells #[.int .i64 (many : Int)] 3)).cell? ⟨g, 3, none⟩ = some (.int .i64 r) := by rw [HW3.out]; exact pw_cell_below HB3.out c3
    have s0' : (w2.alloc (.cells #[.int .i64 (many : Int)] 3)).cell? ⟨g + 1, 0, none⟩ = some (.int .u64 (q : Int)) := by rw [HW3.out]; exact pw_cell_below HB3.out s0
    have HN0 := Aside0.mk hn0
    clear hn0
    go_wp2_with fail
    refine (block_calls z zb r bn 0 1 q none 0 0 [] _ ⟨rfl, by omega, fun hp => by simp at hp⟩ (by omega) r2 (by omega) (by omega) hq (fun x hx => by simp at hx)).mono ?_
    rintro e w4 ⟨v4, rfl, hO4, hb4⟩
    have hO4 : Base.Own w4 w.heap.size v4 (cblk 0 1 q [] bn) := Kd.R_lower hO4 (below_alloc HB2.out _).size
    have HB4 := Aside0.mk (below_go (below_alloc HB2.out _) hb4)
    obtain ⟨A4, n4, c4, rfl, -, -⟩ := hO4.reads
    have HO4 := Aside0.mk hO4
    clear hb4 hO4
    go_wp2
    refine ⟨_, results_tmp2 Try.results10 _ _ _, ?_⟩
    have hl0 : l = [] := List.eq_nil_of_length_eq_zero (by rw [HL.out, HN0.out])
    have hm1 : manyN l.length bn = 1 := by
      rw [hl0]
      unfold manyN
      rw [HRM.out, List.length_nil, Nat.zero_add, Nat.div_eq_of_lt (by omega)]
      rfl
    have hbl : blks q l bn = [cblk 0 1 q [] bn] := by
      unfold blks
      rw [hm1, hl0]
      simp
    have hN := lit_one w4 w.heap.size HB4.out.size (Dv.T.own_FK HO4.out)
    rw [← hbl] at hN
    exact ⟨below_alloc HB4.out _, .inl ⟨_, _, HE.out, rfl, Kd.N_mono (Kd.N_bound hN) (fun k hk => ⟨by rcases hk.1 with h1 | h1; exact Kd.R_base HO4.out k h1.symm; exact Nat.le_trans HB4.out.size h1, hk.2⟩)⟩⟩
  have hd2 : ((n : Int) == 0) = false := by rw [beq_eq_false_iff_ne]; omega
  have s1'' : ((w2.alloc (.cells #[.int .i64 (many : Int)] 3)).alloc (.cells #[.slice none 0 0] 28)).cell? ⟨g + 1, 1, none⟩ = some (.slice A n c) := pw_cell_below (alloc_below _ _) s1'
  have hrm1 : (1 : Int) ≤ (rm0 : Int) := by omega
  have HN0 := Aside0.mk (show 0 < n by omega)
  clear hn0
  go_wp2_with fail
  refine (chunkp_calls A n c (rm0 : Int) hrm1 _).mono ?_
  rintro e w4 ⟨rfl, rfl⟩
  go_wp2
  obtain ⟨gm, hgm⟩ : ∃ gm, w2.heap.size = gm := ⟨_, rfl⟩
  obtain ⟨W5, hW5⟩ : ∃ W5, ((((w2.alloc (.cells #[.int .i64 (many : Int)] 3)).alloc (.cells #[.slice none 0 0] 28)).alloc (.cells #[.slice A n c] 25)).alloc (.cells #[.int .i64 (rm0 : Int)] 3)) = W5 := ⟨_, rfl⟩
  have hb5 : Below w2.heap.size w2 W5 := by rw [← hW5]; exact ((((Below.refl _ _).alloc (Nat.le_refl _) _).alloc (by simp) _).alloc (by simp; omega) _).alloc (by simp; omega) _
  have hs5 : W5.heap.size = gm + 4 := by rw [← hW5, ← hgm]; simp
  have hcm : W5.heap[gm]? = some (.cells #[.int .i64 (many : Int)] 3 (0, 0)) := by rw [← hW5, ← hgm]; exact blk_past (blk_past (blk_past (blk_here rfl)))
  have hbo : W5.heap[gm + 1]? = some (.cells #[.slice none 0 0] 28 (0, 0)) := by rw [← hW5, ← hgm]; exact blk_past (blk_past (blk_here (by simp)))
  have hx0 : W5.heap[gm + 2]? = some (.cells #[.slice A n c] 25 (0, 0)) := by rw [← hW5, ← hgm]; exact blk_past (blk_here (by simp))
  have hx1 : W5.heap[gm + 3]? = some (.cells #[.int .i64 (rm0 : Int)] 3 (0, 0)) := by rw [← hW5, ← hgm]; exact blk_here (by simp)
  have HES5 : Aside0 (ES g gm z zb (bn : Int) r (many : Int) q W5) := ⟨⟨pw_cell_below hb5 c0, pw_cell_below hb5 c1o, pw_cell_below hb5 c2, pw_cell_below hb5 c3, by simp [World.cell?, hcm], pw_cell_below hb5 s0⟩⟩
  rw [hW5, hgm]
  have HB5 := Aside0.mk hb5
  have HGM := Aside0.mk (show w.heap.size ≤ gm by rw [← hgm]; exact HB2.out.size)
  have HS5 := Aside0.mk hs5
  have HBO := Aside0.mk hbo
  have HBX := Aside0.mk (show W5.cell? ⟨gm + 2, 0, none⟩ = some (.slice A n c) ∧ W5.cell? ⟨gm + 2 + 1, 0, none⟩ = some (.int .i64 (rm0 : Int)) from ⟨by simp [World.cell?, hx0], by simp [World.cell?, hx1]⟩)
  have HG2 := Aside0.mk (show g + 1 < gm by rw [← hgm]; exact (Array.getElem?_eq_some_iff.1 HS2.out.2).1)
  have HBW5 := Aside0.mk (show Below w.heap.size w W5 from below_go HB2.out hb5)
  have HM1 := Aside0.mk (show n ≤ many * rm0 by
    have h1 := HMANY.out
    have h2 := HMQ.out
    unfold manyN at h1
    rw [HRM.out, h2] at h1
    have h3 := Nat.div_add_mod (n + rm0 - 1) rm0
    have h4 := Nat.mod_lt (n + rm0 - 1) hrp
    rw [h2] at h3
    have h5 : mq * rm0 ≤ many * rm0 := Nat.mul_le_mul_right _ (by omega)
    rw [Nat.mul_comm] at h3
    omega)
  have HM2 := Aside0.mk (show ∀ k, k < many → k * rm0 < n from fun k hk => by
    have h1 := HMANY.out
    have h2 := HMQ.out
    have h0 := HN0.out
    unfold manyN at h1
    rw [HRM.out, h2] at h1
    have h6 : 1 ≤ mq := by rw [← h2]; exact (Nat.le_div_iff_mul_le hrp).2 (by omega)
    have h3 : mq * rm0 ≤ n + rm0 - 1 := by rw [← h2]; exact Nat.div_mul_le_self _ _
    have h5 : (k + 1) * rm0 ≤ mq * rm0 := Nat.mul_le_mul_right _ (by omega)
    rw [Nat.succ_mul] at h5
    omega)
  clear hW5 hgm hb5 hs5 hcm hbo hx0 hx1 c0 c1 c2 c3 s0 s1 s1' s1''
  refine (wpIn_wide (n := 9)).1 ?_
  refine wpIn_rangeFunc_ownG (α := Fin many) rfl (by decide) (gf := 71) (lb := #[.pointer (some ⟨gm + 2, 0, none⟩), .pointer (some ⟨gm + 2 + 1, 0, none⟩)]) rfl trivial (enters_of Try.func71 (by kernel_rfl) rfl)
    (chunkp_stops _ (gm + 2) A n c rm0 many (by omega) HM1.out HM2.out hnc (by omega) (by omega) W5 (by rw [HS5.out]; omega) HBX.out.1 HBX.out.2) Dv.KpB.trans ?hKb (Below.refl _ _) (fun _ => rfl)
    (fun pre Wx => ∃ vz S, BI W5 Wx (gm + 1) vz (bRow many q bn rm0 l pre) S) (fun _ _ _ => False)
    (fun s A B row hs hg hr => by obtain ⟨vz, S, hz⟩ := hs; exact ⟨vz, S, hz.grown (by rw [HS5.out]; omega) hg hr⟩)
    (fun _ _ _ _ _ hs _ _ => hs) ⟨.slice none 0 0, fun _ => False, HBO.out, Kd.N_nil _ _ _ _ _, fun _ h => h.elim, Dv.Chg.refl _ _⟩ ?a1 ?assign ?body ?done ?stop
  case assign =>
    intro lp x Wx K hK
    gi_wp2
    exact hK
  case hKb =>
    intro Wx lp o o' hl ho _ _ j hj
    have hlt := (Array.getElem?_eq_some_iff.1 ho).1
    have := HS5.out
    exact (grownBy_putObj' Wx lp o').block j (by omega) (fun e => by injection e with e; omega)
  case body =>
    rintro lp pre x Wq ⟨vq, S, hz⟩ hlen
    have HZ := Aside0.mk hz
    clear hz
    have hgl : gm + 1 < W5.heap.size := by rw [HS5.out]; omega
    have hzk := HZ.out.chg.kept
    have HES : Aside0 (ES g gm z zb (bn : Int) r (many : Int) q Wq) := ⟨HES5.out.move (fun k hk => hzk.2 k (by have h1 := HS5.out; have h2 := HG2.out; omega) (by have h2 := HG2.out; omega))⟩
    have hx3 := HM2.out x.1 x.2
    have hBWq : Below w.heap.size w Wq := by
      have h1 : Below w.heap.size W5 Wq := HZ.out.chg.to_below HBW5.out.size (fun k e => by have h3 := HB2.out.size; have h4 := HS5.out; have h5 := HB5.out; have h6 := HGM.out; omega)
      exact Below.trans HBW5.out h1
    have HPC : Aside0 (plK.C Wq (A.map (·.add (x.1 * rm0 * 4))) (min rm0 (n - x.1 * rm0)) ((l.drop (x.1 * rm0)).take rm0)) := ⟨by
      have h1 := C_drop (Kd.C_below HC.out hBWq) hnc (x.1 * rm0) (by omega)
      rw [if_neg (by omega)] at h1
      have h2 := C_take h1 (min rm0 (n - x.1 * rm0)) (by omega)
      rw [List.take_eq_take_iff.2 (show min (min rm0 (n - x.1 * rm0)) (l.drop (x.1 * rm0)).length = min rm0 (l.drop (x.1 * rm0)).length by rw [List.length_drop, HL.out]; omega)] at h2
      exact h2⟩
    have HPF : Aside0 (∀ y ∈ (l.drop (x.1 * rm0)).take rm0, PlcFit y) := ⟨fun y hy => HFIT.out y (List.mem_of_mem_drop (List.mem_of_mem_take hy))⟩
    obtain ⟨px, hpx⟩ : ∃ px, (l.drop (x.1 * rm0)).take rm0 = px := ⟨_, rfl⟩
    obtain ⟨nx, hnx⟩ : ∃ nx, min rm0 (n - x.1 * rm0) = nx := ⟨_, rfl⟩
    obtain ⟨Ax, hax⟩ : ∃ Ax, A.map (·.add (x.1 * rm0 * 4)) = Ax := ⟨_, rfl⟩
    rw [hpx, hnx, hax] at HPC
    rw [hpx] at HPF
    have HPX := Aside0.mk hpx
    have hnr : nx ≤ rm0 := by omega
    have HRL : Aside0 ((bRow many q bn rm0 l pre).length = pre.length) := ⟨bRow_len⟩
    obtain ⟨Aq, nq, cq, rfl, -, hCq⟩ := N_open HZ.out.row
    have hnq : nq = pre.length := by rw [← HRL.out]; exact (C_len hCq).1.symm
    have HNQ := Aside0.mk hnq
    have HNL := Aside0.mk (show (bRow many q bn rm0 l pre).length ≤ 100000 by rw [HRL.out]; have := HMB2.out; omega)
    have hnqs : nq < 4096 := by have := HMB2.out; omega
    have hzb := HZ.out.blk
    have z0 : Wq.cell? ⟨gm + 1, 0, none⟩ = some (.slice Aq nq cq) := by simp [World.cell?, hzb]
    have HZ0 := Aside0.mk z0
    unfold chunkPV
    rw [hnx, hax]
    clear hCq hzk hzb hBWq hpx hnx hax hx3 hnq
    gi_wp2
    have hHeld : Wq.drew.cell? ⟨g, 0, none⟩ = some (.int .i64 z) ∧ Wq.drew.cell? ⟨g, 1, none⟩ = some (.int .i64 zb) ∧ Wq.drew.cell? ⟨g, 2, none⟩ = some (.int .i64 (bn : Int)) ∧ Wq.drew.cell? ⟨g, 3, none⟩ = some (.int .i64 r) ∧ Wq.drew.cell? ⟨gm, 0, none⟩ = some (.int .i64 (many : Int)) ∧ Wq.drew.cell? ⟨g + 1, 0, none⟩ = some (.int .u64 (q : Int)) := ES.below HES.out (below_drew (Below.refl _ _))
    refine Brg.region_in (by kernel_rfl) (by simp) (by rintro ⟨a, w, h⟩; exact h) (wpAny_of_held (S := fun w' => w'.cell? ⟨g, 0, none⟩ = some (.int .i64 z) ∧ w'.cell? ⟨g, 1, none⟩ = some (.int .i64 zb) ∧ w'.cell? ⟨g, 2, none⟩ = some (.int .i64 (bn : Int)) ∧ w'.cell? ⟨g, 3, none⟩ = some (.int .i64 r) ∧ w'.cell? ⟨gm, 0, none⟩ = some (.int .i64 (many : Int)) ∧ w'.cell? ⟨g + 1, 0, none⟩ = some (.int .u64 (q : Int))) _ _ _ _ ?_)
    refine wpAnyH_take (i := 1) (oi := { dst := some 52, op := Op.load 23 (Operand.tmp 2), type := 23, pos := "ckpt.go:81", after := #[], guard := none }) (v := ?_) rfl (by kernel_rfl) (by kernel_rfl) (by kernel_rfl) (fun _ _ _ h => h) (Or.inl ⟨by rfl, ?_⟩) (by assumption) ?_
    rotate_left
    · (intro w hSw; (try dsimp only at hSw); go_simp; (try with_reducible rfl))
    (try simp only [Act.put, List.setIfInBounds_toArray, List.set_cons_zero, List.set_cons_succ])
    refine wpAnyH_take (i := 4) (oi := { dst := some 55, op := Op.load 3 (Operand.tmp 7), type := 3, pos := "ckpt.go:81", after := #[], guard := none }) (v := ?_) rfl (by kernel_rfl) (by kernel_rfl) (by kernel_rfl) (fun _ _ _ h => h) (Or.inl ⟨by rfl, ?_⟩) (by assumption) ?_
    rotate_left
    · (intro w hSw; (try dsimp only at hSw); go_simp; (try with_reducible rfl))
    (try simp only [Act.put, List.setIfInBounds_toArray, List.set_cons_zero, List.set_cons_succ])
    refine wpAnyH_take (i := 5) (oi := { dst := some 56, op := Op.fieldAddr 27 (Operand.tmp 3) 0, type := 0, pos := "ckpt.go:81", after := #[], guard := none }) (v := ?_) rfl (by kernel_rfl) (by kernel_rfl) (by kernel_rfl) (fun _ _ _ h => h) (Or.inl ⟨by rfl, ?_⟩) (by assumption) ?_
    rotate_left
    · (intro w hSw; (try dsimp only at hSw); go_simp; (try with_reducible rfl))
    (try simp only [Act.put, List.setIfInBounds_toArray, List.set_cons_zero, List.set_cons_succ])
    refine wpAnyH_take (i := 6) (oi := { dst := some 57, op := Op.load 24 (Operand.tmp 56), type := 24, pos := "ckpt.go:81", after := #[{ on := 5, ground := Ground.data }], guard := none }) (v := ?_) rfl (by kernel_rfl) (by kernel_rfl) (by kernel_rfl) (fun _ _ _ h => h) (Or.inl ⟨by rfl, ?_⟩) (by assumption) ?_
    rotate_left
    · (intro w hSw; (try dsimp only at hSw); go_simp; (try with_reducible rfl))
    (try simp only [Act.put, List.setIfInBounds_toArray, List.set_cons_zero, List.set_cons_succ])
    refine wpAnyH_take (i := 8) (oi := { dst := some 59, op := Op.move (Operand.tmp 9), type := 25, pos := "ckpt.go:81", after := #[], guard := none }) (v := ?_) rfl (by kernel_rfl) (by kernel_rfl) (by kernel_rfl) (fun _ _ _ h => h) (Or.inl ⟨by rfl, ?_⟩) (by assumption) ?_
    rotate_left
    · (intro w hSw; (try dsimp only at hSw); go_simp; (try with_reducible rfl))
    (try simp only [Act.put, List.setIfInBounds_toArray, List.set_cons_zero, List.set_cons_succ])
    refine wpAnyH_ready (rs := [0, 2]) (by kernel_rfl) (by simp) ?_
    refine (AllReadyH.cons (o := { dst := some 51, op := Op.load 28 (Operand.tmp 8), type := 28, pos := "ckpt.go:81", after := #[], guard := none }) rfl (fun K hK => ?_) (AllReadyH.cons (o := { dst := some 53, op := Op.load 28 (Operand.tmp 8), type := 28, pos := "ckpt.go:81", after := #[], guard := none }) rfl (fun K hK => ?_) AllReadyH.nil))
    · go_simp
      refine hK.out _ _ ?_ (fun hHeld => ?_)
      · exact hHeld
      clear hK K
      (try simp only [Act.put, List.setIfInBounds_toArray, List.set_cons_zero, List.set_cons_succ])
      refine wpAnyH_ready (rs := [2]) (by kernel_rfl) (by simp) ?_
      refine (AllReadyH.cons (o := { dst := some 53, op := Op.load 28 (Operand.tmp 8), type := 28, pos := "ckpt.go:81", after := #[], guard := none }) rfl (fun K hK => ?_) AllReadyH.nil)
      go_simp
      refine hK.out _ _ ?_ (fun hHeld => ?_)
      · exact hHeld
      clear hK K
      (try simp only [Act.put, List.setIfInBounds_toArray, List.set_cons_zero, List.set_cons_succ])
      refine wpAnyH_take (i := 3) (oi := { dst := some 54, op := Op.call { callee := Callee.builtin Builtin.len, args := #[Operand.tmp 53], argTypes := #[28] }, type := 3, pos := "ckpt.go:81", after := #[{ on := 2, ground := Ground.data }], guard := none }) (v := ?_) rfl (by kernel_rfl) (by kernel_rfl) (by kernel_rfl) (fun _ _ _ h => h) (Or.inl ⟨by rfl, ?_⟩) (by assumption) ?_
      rotate_left
      · (intro w hSw; (try dsimp only at hSw); go_simp; (try with_reducible rfl))
      (try simp only [Act.put, List.setIfInBounds_toArray, List.set_cons_zero, List.set_cons_succ])
      refine wpAnyH_take (i := 7) (oi := { dst := some 58, op := Op.build 82 #[(0, Operand.tmp 54), (1, Operand.tmp 55), (2, Operand.tmp 57)], type := 82, pos := "ckpt.go:81", after := #[{ on := 3, ground := Ground.data }, { on := 4, ground := Ground.data }, { on := 6, ground := Ground.data }], guard := none }) (v := ?_) rfl (by kernel_rfl) (by kernel_rfl) (by kernel_rfl) (fun _ _ _ h => h) (Or.inl ⟨by rfl, ?_⟩) (by assumption) ?_
      rotate_left
      · (intro w hSw; (try dsimp only at hSw); go_simp; (try with_reducible rfl))
      (try simp only [Act.put, List.setIfInBounds_toArray, List.set_cons_zero, List.set_cons_succ])
      refine wpAnyH_ready (rs := [9]) (by kernel_rfl) (by simp) ?_
      refine (AllReadyH.cons (o := { dst := some 60, op := Op.call { callee := Callee.value (Operand.func 37), args := #[Operand.tmp 52, Operand.tmp 58, Operand.tmp 59], argTypes := #[23, 82, 25] }, type := 39, pos := "ckpt.go:81", after := #[{ on := 1, ground := Ground.data }, { on := 7, ground := Ground.data }, { on := 8, ground := Ground.data }], guard := none }) rfl (fun K hK => ?_) AllReadyH.nil)
      go_simp
      refine (block_calls z zb r bn nq many q Ax nx nx px _ (Kd.C_below HPC.out (below_drew (Below.refl _ _))) (by omega) r2 (by omega) (by have := HMB2.out; omega) hq HPF.out).mono ?_
      rintro e w8 ⟨v8, rfl, hO8, hw8⟩
      obtain ⟨A8, n8, c8, rfl, -, hC8⟩ := Base.Own.reads hO8
      have HO8 := Aside0.mk hO8
      have hb8 : Below Wq.heap.size Wq w8 := Below.trans (below_drew (Below.refl _ _)) hw8
      have HZ8 := Aside0.mk (HZ.out.below hgl hb8)
      have HKF8 := Aside0.mk hb8
      have z0 := pw_cell_below hb8 HZ0.out
      have HE8 := Aside0.mk (ES.below HES.out hb8)
      clear hO8 hw8 hC8 hb8
      refine hK.out _ _ ?_ (fun hHeld => ?_)
      · exact HE8.out
      clear hK K
      (try simp only [Act.put, List.setIfInBounds_toArray, List.set_cons_zero, List.set_cons_succ])
      refine wpAnyH_ready (rs := [10]) (by kernel_rfl) (by simp) ?_
      refine (AllReadyH.cons (o := { dst := some 61, op := Op.buildSlice 28 1 #[(0, Operand.tmp 60)], type := 28, pos := "ckpt.go:81", after := #[{ on := 9, ground := Ground.data }], guard := none }) rfl (fun K hK => ?_) AllReadyH.nil)
      go_simp
      refine hK.out _ _ ?_ (fun hHeld => ?_)
      · exact ES.below HE8.out (alloc_below _ _)
      clear hK K
      (try simp only [Act.put, List.setIfInBounds_toArray, List.set_cons_zero, List.set_cons_succ])
      refine wpAnyH_ready (rs := [11]) (by kernel_rfl) (by simp) ?_
      refine (AllReadyH.cons (o := { dst := some 62, op := Op.call { callee := Callee.builtin Builtin.append, args := #[Operand.tmp 51, Operand.tmp 61], argTypes := #[28, 28] }, type := 28, pos := "ckpt.go:81", after := #[{ on := 0, ground := Ground.data }, { on := 10, ground := Ground.data }, { on := 9, ground := Ground.chain }], guard := none }) rfl (fun K hK => ?_) AllReadyH.nil)
      refine Dv.T.app_blk_step W5.heap.size S (fun j => some j = (Value.slice A8 n8 c8).ownBlock) (.tmp 51) (.tmp 61) (by rfl) rfl (.slice Aq nq cq) (bRow many q bn rm0 l pre) (cblk nq many q px bn) A8 n8 c8 (Dv.T.own_FK HO8.out) (fun j hj e => by have h1 := Kd.N_lt HZ.out.row j e.symm; have h2 := Kd.R_base HO8.out j hj.symm; have h3 : Wq.drew.heap.size = Wq.heap.size := rfl; omega) rfl (by simp [Act.eval]) HZ8.out.row (Nat.le_trans HZ.out.chg.kept.1 HKF8.out.size) HNL.out ?_
      intro v9 w9 hN9 hg9
      obtain ⟨A9, n9, c9, rfl, -, -⟩ := N_open hN9
      have HZ9 := Aside0.mk (HZ8.out.add (Wq := Wq) hgl HZ.out.chg.kept.1 hN9 hg9 (fun j hj => Kd.R_base HO8.out j hj.symm) (Nat.le_trans HZ.out.chg.kept.1 HKF8.out.size))
      have hz9 : w9.heap[gm + 1]? = some (.cells #[.slice Aq nq cq] 28 (0, 0)) := (hg9.block _ HZ8.out.blkEq (fun e => by have := Kd.N_base HZ8.out.row _ e.symm; omega)).trans HZ8.out.blk
      have z9 : w9.cell? ⟨gm + 1, 0, none⟩ = some (.slice Aq nq cq) := by simp [World.cell?, hz9]
      have zf9 : w9.frozen? ⟨gm + 1, 0, none⟩ = false := by simp [World.frozen?, hz9]
      have HG9 := Aside0.mk hg9
      have HE9 := Aside0.mk (ES.move HE8.out (fun k hk => hg9.block k (by have h1 := HS5.out; have h2 := HG2.out; have h3 := HZ.out.chg.kept.1; have h4 := HKF8.out.size; omega) (fun e => by have h5 := Kd.N_base HZ8.out.row k e.symm; have h1 := HS5.out; have h2 := HG2.out; omega)))
      clear hz9 hN9 hg9
      refine hK.out _ _ ?_ (fun hHeld => ?_)
      · exact HE9.out
      clear hK K
      (try simp only [Act.put, List.setIfInBounds_toArray, List.set_cons_zero, List.set_cons_succ])
      refine wpAnyH_ready (rs := [12]) (by kernel_rfl) (by simp) ?_
      refine (AllReadyH.cons (o := { dst := none, op := Op.store 28 (Operand.tmp 8) (Operand.tmp 62), type := 0, pos := "ckpt.go:81", after := #[{ on := 11, ground := Ground.data }, { on := 11, ground := Ground.chain }, { on := 0, ground := Ground.phase }, { on := 1, ground := Ground.phase }, { on := 2, ground := Ground.phase }, { on := 3, ground := Ground.phase }, { on := 4, ground := Ground.phase }, { on := 5, ground := Ground.phase }, { on := 6, ground := Ground.phase }, { on := 7, ground := Ground.phase }, { on := 8, ground := Ground.phase }, { on := 9, ground := Ground.phase }, { on := 10, ground := Ground.phase }, { on := 11, ground := Ground.phase }], guard := none }) rfl (fun K hK => ?_) AllReadyH.nil)
      go_simp
      refine hK.out _ _ ?_ (fun hHeld => ?_)
      · exact ES.move HE9.out (fun k hk => Below.heap_setCell _ _ _ _ (by show k ≠ gm + 1; have h2 := HG2.out; omega))
      clear hK K
      (try simp only [Act.put, List.setIfInBounds_toArray, List.set_cons_zero, List.set_cons_succ])
      refine wpAnyH_done (by kernel_rfl) ?_ _
      obtain ⟨S9, hz⟩ := HZ9.out
      have hkk : KeepsOthers Wq (w9.setCell ⟨gm + 1, 0, none⟩ (.slice A9 n9 c9)) := ((KeepsOthers.of_grownBy (row := none) ⟨HKF8.out.os, HKF8.out.tape, HKF8.out.output, HKF8.out.size, fun k hk _ => HKF8.out.block k hk⟩ (fun j o e => by cases e)).trans (KeepsOthers.of_grownBy HG9.out (fun j o e ho => by obtain ⟨cells, hc⟩ := Kd.N_typed HZ8.out.row j e; rw [hc] at ho; injection ho with ho; rw [← ho]; rfl))).trans (KeepsOthers.setCell _ _ _)
      refine ⟨hkk.from _, fun j hj => ?_, ⟨_, S9, by rw [bRow_snoc, HPX.out, ← HNQ.out]; exact hz⟩⟩
      have hj3 : j < W5.heap.size ∧ j ≠ gm + 1 := by have := HS5.out; omega
      rw [Below.heap_setCell _ _ _ _ hj3.2, HG9.out.block j (by have := HZ.out.chg.kept.1; have := HKF8.out.size; omega) (fun e => by have := Kd.N_base HZ8.out.row j e.symm; omega)]
      exact HKF8.out.block j (by have := HZ.out.chg.kept.1; omega)
    · go_simp
      refine hK.out _ _ ?_ (fun hHeld => ?_)
      · exact hHeld
      clear hK K
      (try simp only [Act.put, List.setIfInBounds_toArray, List.set_cons_zero, List.set_cons_succ])
      refine wpAnyH_take (i := 3) (oi := { dst := some 54, op := Op.call { callee := Callee.builtin Builtin.len, args := #[Operand.tmp 53], argTypes := #[28] }, type := 3, pos := "ckpt.go:81", after := #[{ on := 2, ground := Ground.data }], guard := none }) (v := ?_) rfl (by kernel_rfl) (by kernel_rfl) (by kernel_rfl) (fun _ _ _ h => h) (Or.inl ⟨by rfl, ?_⟩) (by assumption) ?_
      rotate_left
      · (intro w hSw; (try dsimp only at hSw); go_simp; (try with_reducible rfl))
      (try simp only [Act.put, List.setIfInBounds_toArray, List.set_cons_zero, List.set_cons_succ])
      refine wpAnyH_take (i := 7) (oi := { dst := some 58, op := Op.build 82 #[(0, Operand.tmp 54), (1, Operand.tmp 55), (2, Operand.tmp 57)], type := 82, pos := "ckpt.go:81", after := #[{ on := 3, ground := Ground.data }, { on := 4, ground := Ground.data }, { on := 6, ground := Ground.data }], guard := none }) (v := ?_) rfl (by kernel_rfl) (by kernel_rfl) (by kernel_rfl) (fun _ _ _ h => h) (Or.inl ⟨by rfl, ?_⟩) (by assumption) ?_
      rotate_left
      · (intro w hSw; (try dsimp only at hSw); go_simp; (try with_reducible rfl))
      (try simp only [Act.put, List.setIfInBounds_toArray, List.set_cons_zero, List.set_cons_succ])
      refine wpAnyH_ready (rs := [0, 9]) (by kernel_rfl) (by simp) ?_
      refine (AllReadyH.cons (o := { dst := some 51, op := Op.load 28 (Operand.tmp 8), type := 28, pos := "ckpt.go:81", after := #[], guard := none }) rfl (fun K hK => ?_) (AllReadyH.cons (o := { dst := some 60, op := Op.call { callee := Callee.value (Operand.func 37), args := #[Operand.tmp 52, Operand.tmp 58, Operand.tmp 59], argTypes := #[23, 82, 25] }, type := 39, pos := "ckpt.go:81", after := #[{ on := 1, ground := Ground.data }, { on := 7, ground := Ground.data }, { on := 8, ground := Ground.data }], guard := none }) rfl (fun K hK => ?_) AllReadyH.nil))
      · go_simp
        refine hK.out _ _ ?_ (fun hHeld => ?_)
        · exact hHeld
        clear hK K
        (try simp only [Act.put, List.setIfInBounds_toArray, List.set_cons_zero, List.set_cons_succ])
        refine wpAnyH_ready (rs := [9]) (by kernel_rfl) (by simp) ?_
        refine (AllReadyH.cons (o := { dst := some 60, op := Op.call { callee := Callee.value (Operand.func 37), args := #[Operand.tmp 52, Operand.tmp 58, Operand.tmp 59], argTypes := #[23, 82, 25] }, type := 39, pos := "ckpt.go:81", after := #[{ on := 1, ground := Ground.data }, { on := 7, ground := Ground.data }, { on := 8, ground := Ground.data }], guard := none }) rfl (fun K hK => ?_) AllReadyH.nil)
        go_simp
        refine (block_calls z zb r bn nq many q Ax nx nx px _ (Kd.C_below HPC.out (below_drew (Below.refl _ _))) (by omega) r2 (by omega) (by have := HMB2.out; omega) hq HPF.out).mono ?_
        rintro e w8 ⟨v8, rfl, hO8, hw8⟩
        obtain ⟨A8, n8, c8, rfl, -, hC8⟩ := Base.Own.reads hO8
        have HO8 := Aside0.mk hO8
        have hb8 : Below Wq.heap.size Wq w8 := Below.trans (below_drew (Below.refl _ _)) hw8
        have HZ8 := Aside0.mk (HZ.out.below hgl hb8)
        have HKF8 := Aside0.mk hb8
        have z0 := pw_cell_below hb8 HZ0.out
        have HE8 := Aside0.mk (ES.below HES.out hb8)
        clear hO8 hw8 hC8 hb8
        refine hK.out _ _ ?_ (fun hHeld => ?_)
        · exact HE8.out
        clear hK K
        (try simp only [Act.put, List.setIfInBounds_toArray, List.set_cons_zero, List.set_cons_succ])
        refine wpAnyH_ready (rs := [10]) (by kernel_rfl) (by simp) ?_
        refine (AllReadyH.cons (o := { dst := some 61, op := Op.buildSlice 28 1 #[(0, Operand.tmp 60)], type := 28, pos := "ckpt.go:81", after := #[{ on := 9, ground := Ground.data }], guard := none }) rfl (fun K hK => ?_) AllReadyH.nil)
        go_simp
        refine hK.out _ _ ?_ (fun hHeld => ?_)
        · exact ES.below HE8.out (alloc_below _ _)
        clear hK K
        (try simp only [Act.put, List.setIfInBounds_toArray, List.set_cons_zero, List.set_cons_succ])
        refine wpAnyH_ready (rs := [11]) (by kernel_rfl) (by simp) ?_
        refine (AllReadyH.cons (o := { dst := some 62, op := Op.call { callee := Callee.builtin Builtin.append, args := #[Operand.tmp 51, Operand.tmp 61], argTypes := #[28, 28] }, type := 28, pos := "ckpt.go:81", after := #[{ on := 0, ground := Ground.data }, { on := 10, ground := Ground.data }, { on := 9, ground := Ground.chain }], guard := none }) rfl (fun K hK => ?_) AllReadyH.nil)
        refine Dv.T.app_blk_step W5.heap.size S (fun j => some j = (Value.slice A8 n8 c8).ownBlock) (.tmp 51) (.tmp 61) (by rfl) rfl (.slice Aq nq cq) (bRow many q bn rm0 l pre) (cblk nq many q px bn) A8 n8 c8 (Dv.T.own_FK HO8.out) (fun j hj e => by have h1 := Kd.N_lt HZ.out.row j e.symm; have h2 := Kd.R_base HO8.out j hj.symm; have h3 : Wq.drew.heap.size = Wq.heap.size := rfl; omega) rfl (by simp [Act.eval]) HZ8.out.row (Nat.le_trans HZ.out.chg.kept.1 HKF8.out.size) HNL.out ?_
        intro v9 w9 hN9 hg9
        obtain ⟨A9, n9, c9, rfl, -, -⟩ := N_open hN9
        have HZ9 := Aside0.mk (HZ8.out.add (Wq := Wq) hgl HZ.out.chg.kept.1 hN9 hg9 (fun j hj => Kd.R_base HO8.out j hj.symm) (Nat.le_trans HZ.out.chg.kept.1 HKF8.out.size))
        have hz9 : w9.heap[gm + 1]? = some (.cells #[.slice Aq nq cq] 28 (0, 0)) := (hg9.block _ HZ8.out.blkEq (fun e => by have := Kd.N_base HZ8.out.row _ e.symm; omega)).trans HZ8.out.blk
        have z9 : w9.cell? ⟨gm + 1, 0, none⟩ = some (.slice Aq nq cq) := by simp [World.cell?, hz9]
        have zf9 : w9.frozen? ⟨gm + 1, 0, none⟩ = false := by simp [World.frozen?, hz9]
        have HG9 := Aside0.mk hg9
        have HE9 := Aside0.mk (ES.move HE8.out (fun k hk => hg9.block k (by have h1 := HS5.out; have h2 := HG2.out; have h3 := HZ.out.chg.kept.1; have h4 := HKF8.out.size; omega) (fun e => by have h5 := Kd.N_base HZ8.out.row k e.symm; have h1 := HS5.out; have h2 := HG2.out; omega)))
        clear hz9 hN9 hg9
        refine hK.out _ _ ?_ (fun hHeld => ?_)
        · exact HE9.out
        clear hK K
        (try simp only [Act.put, List.setIfInBounds_toArray, List.set_cons_zero, List.set_cons_succ])
        refine wpAnyH_ready (rs := [12]) (by kernel_rfl) (by simp) ?_
        refine (AllReadyH.cons (o := { dst := none, op := Op.store 28 (Operand.tmp 8) (Operand.tmp 62), type := 0, pos := "ckpt.go:81", after := #[{ on := 11, ground := Ground.data }, { on := 11, ground := Ground.chain }, { on := 0, ground := Ground.phase }, { on := 1, ground := Ground.phase }, { on := 2, ground := Ground.phase }, { on := 3, ground := Ground.phase }, { on := 4, ground := Ground.phase }, { on := 5, ground := Ground.phase }, { on := 6, ground := Ground.phase }, { on := 7, ground := Ground.phase }, { on := 8, ground := Ground.phase }, { on := 9, ground := Ground.phase }, { on := 10, ground := Ground.phase }, { on := 11, ground := Ground.phase }], guard := none }) rfl (fun K hK => ?_) AllReadyH.nil)
        go_simp
        refine hK.out _ _ ?_ (fun hHeld => ?_)
        · exact ES.move HE9.out (fun k hk => Below.heap_setCell _ _ _ _ (by show k ≠ gm + 1; have h2 := HG2.out; omega))
        clear hK K
        (try simp only [Act.put, List.setIfInBounds_toArray, List.set_cons_zero, List.set_cons_succ])
        refine wpAnyH_done (by kernel_rfl) ?_ _
        obtain ⟨S9, hz⟩ := HZ9.out
        have hkk : KeepsOthers Wq (w9.setCell ⟨gm + 1, 0, none⟩ (.slice A9 n9 c9)) := ((KeepsOthers.of_grownBy (row := none) ⟨HKF8.out.os, HKF8.out.tape, HKF8.out.output, HKF8.out.size, fun k hk _ => HKF8.out.block k hk⟩ (fun j o e => by cases e)).trans (KeepsOthers.of_grownBy HG9.out (fun j o e ho => by obtain ⟨cells, hc⟩ := Kd.N_typed HZ8.out.row j e; rw [hc] at ho; injection ho with ho; rw [← ho]; rfl))).trans (KeepsOthers.setCell _ _ _)
        refine ⟨hkk.from _, fun j hj => ?_, ⟨_, S9, by rw [bRow_snoc, HPX.out, ← HNQ.out]; exact hz⟩⟩
        have hj3 : j < W5.heap.size ∧ j ≠ gm + 1 := by have := HS5.out; omega
        rw [Below.heap_setCell _ _ _ _ hj3.2, HG9.out.block j (by have := HZ.out.chg.kept.1; have := HKF8.out.size; omega) (fun e => by have := Kd.N_base HZ8.out.row j e.symm; omega)]
        exact HKF8.out.block j (by have := HZ.out.chg.kept.1; omega)
      · go_simp
        refine (block_calls z zb r bn nq many q Ax nx nx px _ (Kd.C_below HPC.out (below_drew (Below.refl _ _))) (by omega) r2 (by omega) (by have := HMB2.out; omega) hq HPF.out).mono ?_
        rintro e w8 ⟨v8, rfl, hO8, hw8⟩
        obtain ⟨A8, n8, c8, rfl, -, hC8⟩ := Base.Own.reads hO8
        have HO8 := Aside0.mk hO8
        have hb8 : Below Wq.heap.size Wq w8 := Below.trans (below_drew (Below.refl _ _)) hw8
        have HZ8 := Aside0.mk (HZ.out.below hgl hb8)
        have HKF8 := Aside0.mk hb8
        have z0 := pw_cell_below hb8 HZ0.out
        have HE8 := Aside0.mk (ES.below HES.out hb8)
        clear hO8 hw8 hC8 hb8
        refine hK.out _ _ ?_ (fun hHeld => ?_)
        · exact HE8.out
        clear hK K
        (try simp only [Act.put, List.setIfInBounds_toArray, List.set_cons_zero, List.set_cons_succ])
        refine wpAnyH_ready (rs := [0, 10]) (by kernel_rfl) (by simp) ?_
        refine (AllReadyH.cons (o := { dst := some 51, op := Op.load 28 (Operand.tmp 8), type := 28, pos := "ckpt.go:81", after := #[], guard := none }) rfl (fun K hK => ?_) (AllReadyH.cons (o := { dst := some 61, op := Op.buildSlice 28 1 #[(0, Operand.tmp 60)], type := 28, pos := "ckpt.go:81", after := #[{ on := 9, ground := Ground.data }], guard := none }) rfl (fun K hK => ?_) AllReadyH.nil))
        · go_simp
          refine hK.out _ _ ?_ (fun hHeld => ?_)
          · exact hHeld
          clear hK K
          (try simp only [Act.put, List.setIfInBounds_toArray, List.set_cons_zero, List.set_cons_succ])
          refine wpAnyH_ready (rs := [10]) (by kernel_rfl) (by simp) ?_
          refine (AllReadyH.cons (o := { dst := some 61, op := Op.buildSlice 28 1 #[(0, Operand.tmp 60)], type := 28, pos := "ckpt.go:81", after := #[{ on := 9, ground := Ground.data }], guard := none }) rfl (fun K hK => ?_) AllReadyH.nil)
          go_simp
          refine hK.out _ _ ?_ (fun hHeld => ?_)
          · exact ES.below HE8.out (alloc_below _ _)
          clear hK K
          (try simp only [Act.put, List.setIfInBounds_toArray, List.set_cons_zero, List.set_cons_succ])
          refine wpAnyH_ready (rs := [11]) (by kernel_rfl) (by simp) ?_
          refine (AllReadyH.cons (o := { dst := some 62, op := Op.call { callee := Callee.builtin Builtin.append, args := #[Operand.tmp 51, Operand.tmp 61], argTypes := #[28, 28] }, type := 28, pos := "ckpt.go:81", after := #[{ on := 0, ground := Ground.data }, { on := 10, ground := Ground.data }, { on := 9, ground := Ground.chain }], guard := none }) rfl (fun K hK => ?_) AllReadyH.nil)
          refine Dv.T.app_blk_step W5.heap.size S (fun j => some j = (Value.slice A8 n8 c8).ownBlock) (.tmp 51) (.tmp 61) (by rfl) rfl (.slice Aq nq cq) (bRow many q bn rm0 l pre) (cblk nq many q px bn) A8 n8 c8 (Dv.T.own_FK HO8.out) (fun j hj e => by have h1 := Kd.N_lt HZ.out.row j e.symm; have h2 := Kd.R_base HO8.out j hj.symm; have h3 : Wq.drew.heap.size = Wq.heap.size := rfl; omega) rfl (by simp [Act.eval]) HZ8.out.row (Nat.le_trans HZ.out.chg.kept.1 HKF8.out.size) HNL.out ?_
          intro v9 w9 hN9 hg9
          obtain ⟨A9, n9, c9, rfl, -, -⟩ := N_open hN9
          have HZ9 := Aside0.mk (HZ8.out.add (Wq := Wq) hgl HZ.out.chg.kept.1 hN9 hg9 (fun j hj => Kd.R_base HO8.out j hj.symm) (Nat.le_trans HZ.out.chg.kept.1 HKF8.out.size))
          have hz9 : w9.heap[gm + 1]? = some (.cells #[.slice Aq nq cq] 28 (0, 0)) := (hg9.block _ HZ8.out.blkEq (fun e => by have := Kd.N_base HZ8.out.row _ e.symm; omega)).trans HZ8.out.blk
          have z9 : w9.cell? ⟨gm + 1, 0, none⟩ = some (.slice Aq nq cq) := by simp [World.cell?, hz9]
          have zf9 : w9.frozen? ⟨gm + 1, 0, none⟩ = false := by simp [World.frozen?, hz9]
          have HG9 := Aside0.mk hg9
          have HE9 := Aside0.mk (ES.move HE8.out (fun k hk => hg9.block k (by have h1 := HS5.out; have h2 := HG2.out; have h3 := HZ.out.chg.kept.1; have h4 := HKF8.out.size; omega) (fun e => by have h5 := Kd.N_base HZ8.out.row k e.symm; have h1 := HS5.out; have h2 := HG2.out; omega)))
          clear hz9 hN9 hg9
          refine hK.out _ _ ?_ (fun hHeld => ?_)
          · exact HE9.out
          clear hK K
          (try simp only [Act.put, List.setIfInBounds_toArray, List.set_cons_zero, List.set_cons_succ])
          refine wpAnyH_ready (rs := [12]) (by kernel_rfl) (by simp) ?_
          refine (AllReadyH.cons (o := { dst := none, op := Op.store 28 (Operand.tmp 8) (Operand.tmp 62), type := 0, pos := "ckpt.go:81", after := #[{ on := 11, ground := Ground.data }, { on := 11, ground := Ground.chain }, { on := 0, ground := Ground.phase }, { on := 1, ground := Ground.phase }, { on := 2, ground := Ground.phase }, { on := 3, ground := Ground.phase }, { on := 4, ground := Ground.phase }, { on := 5, ground := Ground.phase }, { on := 6, ground := Ground.phase }, { on := 7, ground := Ground.phase }, { on := 8, ground := Ground.phase }, { on := 9, ground := Ground.phase }, { on := 10, ground := Ground.phase }, { on := 11, ground := Ground.phase }], guard := none }) rfl (fun K hK => ?_) AllReadyH.nil)
          go_simp
          refine hK.out _ _ ?_ (fun hHeld => ?_)
          · exact ES.move HE9.out (fun k hk => Below.heap_setCell _ _ _ _ (by show k ≠ gm + 1; have h2 := HG2.out; omega))
          clear hK K
          (try simp only [Act.put, List.setIfInBounds_toArray, List.set_cons_zero, List.set_cons_succ])
          refine wpAnyH_done (by kernel_rfl) ?_ _
          obtain ⟨S9, hz⟩ := HZ9.out
          have hkk : KeepsOthers Wq (w9.setCell ⟨gm + 1, 0, none⟩ (.slice A9 n9 c9)) := ((KeepsOthers.of_grownBy (row := none) ⟨HKF8.out.os, HKF8.out.tape, HKF8.out.output, HKF8.out.size, fun k hk _ => HKF8.out.block k hk⟩ (fun j o e => by cases e)).trans (KeepsOthers.of_grownBy HG9.out (fun j o e ho => by obtain ⟨cells, hc⟩ := Kd.N_typed HZ8.out.row j e; rw [hc] at ho; injection ho with ho; rw [← ho]; rfl))).trans (KeepsOthers.setCell _ _ _)
          refine ⟨hkk.from _, fun j hj => ?_, ⟨_, S9, by rw [bRow_snoc, HPX.out, ← HNQ.out]; exact hz⟩⟩
          have hj3 : j < W5.heap.size ∧ j ≠ gm + 1 := by have := HS5.out; omega
          rw [Below.heap_setCell _ _ _ _ hj3.2, HG9.out.block j (by have := HZ.out.chg.kept.1; have := HKF8.out.size; omega) (fun e => by have := Kd.N_base HZ8.out.row j e.symm; omega)]
          exact HKF8.out.block j (by have := HZ.out.chg.kept.1; omega)
        · go_simp
          refine hK.out _ _ ?_ (fun hHeld => ?_)
          · exact ES.below HE8.out (alloc_below _ _)
          clear hK K
          (try simp only [Act.put, List.setIfInBounds_toArray, List.set_cons_zero, List.set_cons_succ])
          have z0 := pw_cell_below (alloc_below w8 (.cells #[.slice A8 n8 c8] 39)) z0
          refine wpAnyH_ready (rs := [0]) (by kernel_rfl) (by simp) ?_
          refine (AllReadyH.cons (o := { dst := some 51, op := Op.load 28 (Operand.tmp 8), type := 28, pos := "ckpt.go:81", after := #[], guard := none }) rfl (fun K hK => ?_) AllReadyH.nil)
          go_simp
          refine hK.out _ _ ?_ (fun hHeld => ?_)
          · exact hHeld
          clear hK K
          (try simp only [Act.put, List.setIfInBounds_toArray, List.set_cons_zero, List.set_cons_succ])
          refine wpAnyH_ready (rs := [11]) (by kernel_rfl) (by simp) ?_
          refine (AllReadyH.cons (o := { dst := some 62, op := Op.call { callee := Callee.builtin Builtin.append, args := #[Operand.tmp 51, Operand.tmp 61], argTypes := #[28, 28] }, type := 28, pos := "ckpt.go:81", after := #[{ on := 0, ground := Ground.data }, { on := 10, ground := Ground.data }, { on := 9, ground := Ground.chain }], guard := none }) rfl (fun K hK => ?_) AllReadyH.nil)
          refine Dv.T.app_blk_step W5.heap.size S (fun j => some j = (Value.slice A8 n8 c8).ownBlock) (.tmp 51) (.tmp 61) (by rfl) rfl (.slice Aq nq cq) (bRow many q bn rm0 l pre) (cblk nq many q px bn) A8 n8 c8 (Dv.T.own_FK HO8.out) (fun j hj e => by have h1 := Kd.N_lt HZ.out.row j e.symm; have h2 := Kd.R_base HO8.out j hj.symm; have h3 : Wq.drew.heap.size = Wq.heap.size := rfl; omega) rfl (by simp [Act.eval]) HZ8.out.row (Nat.le_trans HZ.out.chg.kept.1 HKF8.out.size) HNL.out ?_
          intro v9 w9 hN9 hg9
          obtain ⟨A9, n9, c9, rfl, -, -⟩ := N_open hN9
          have HZ9 := Aside0.mk (HZ8.out.add (Wq := Wq) hgl HZ.out.chg.kept.1 hN9 hg9 (fun j hj => Kd.R_base HO8.out j hj.symm) (Nat.le_trans HZ.out.chg.kept.1 HKF8.out.size))
          have hz9 : w9.heap[gm + 1]? = some (.cells #[.slice Aq nq cq] 28 (0, 0)) := (hg9.block _ HZ8.out.blkEq (fun e => by have := Kd.N_base HZ8.out.row _ e.symm; omega)).trans HZ8.out.blk
          have z9 : w9.cell? ⟨gm + 1, 0, none⟩ = some (.slice Aq nq cq) := by simp [World.cell?, hz9]
          have zf9 : w9.frozen? ⟨gm + 1, 0, none⟩ = false := by simp [World.frozen?, hz9]
          have HG9 := Aside0.mk hg9
          have HE9 := Aside0.mk (ES.move HE8.out (fun k hk => hg9.block k (by have h1 := HS5.out; have h2 := HG2.out; have h3 := HZ.out.chg.kept.1; have h4 := HKF8.out.size; omega) (fun e => by have h5 := Kd.N_base HZ8.out.row k e.symm; have h1 := HS5.out; have h2 := HG2.out; omega)))
          clear hz9 hN9 hg9
          refine hK.out _ _ ?_ (fun hHeld => ?_)
          · exact HE9.out
          clear hK K
          (try simp only [Act.put, List.setIfInBounds_toArray, List.set_cons_zero, List.set_cons_succ])
          refine wpAnyH_ready (rs := [12]) (by kernel_rfl) (by simp) ?_
          refine (AllReadyH.cons (o := { dst := none, op := Op.store 28 (Operand.tmp 8) (Operand.tmp 62), type := 0, pos := "ckpt.go:81", after := #[{ on := 11, ground := Ground.data }, { on := 11, ground := Ground.chain }, { on := 0, ground := Ground.phase }, { on := 1, ground := Ground.phase }, { on := 2, ground := Ground.phase }, { on := 3, ground := Ground.phase }, { on := 4, ground := Ground.phase }, { on := 5, ground := Ground.phase }, { on := 6, ground := Ground.phase }, { on := 7, ground := Ground.phase }, { on := 8, ground := Ground.phase }, { on := 9, ground := Ground.phase }, { on := 10, ground := Ground.phase }, { on := 11, ground := Ground.phase }], guard := none }) rfl (fun K hK => ?_) AllReadyH.nil)
          go_simp
          refine hK.out _ _ ?_ (fun hHeld => ?_)
          · exact ES.move HE9.out (fun k hk => Below.heap_setCell _ _ _ _ (by show k ≠ gm + 1; have h2 := HG2.out; omega))
          clear hK K
          (try simp only [Act.put, List.setIfInBounds_toArray, List.set_cons_zero, List.set_cons_succ])
          refine wpAnyH_done (by kernel_rfl) ?_ _
          obtain ⟨S9, hz⟩ := HZ9.out
          have hkk : KeepsOthers Wq (w9.setCell ⟨gm + 1, 0, none⟩ (.slice A9 n9 c9)) := ((KeepsOthers.of_grownBy (row := none) ⟨HKF8.out.os, HKF8.out.tape, HKF8.out.output, HKF8.out.size, fun k hk _ => HKF8.out.block k hk⟩ (fun j o e => by cases e)).trans (KeepsOthers.of_grownBy HG9.out (fun j o e ho => by obtain ⟨cells, hc⟩ := Kd.N_typed HZ8.out.row j e; rw [hc] at ho; injection ho with ho; rw [← ho]; rfl))).trans (KeepsOthers.setCell _ _ _)
          refine ⟨hkk.from _, fun j hj => ?_, ⟨_, S9, by rw [bRow_snoc, HPX.out, ← HNQ.out]; exact hz⟩⟩
          have hj3 : j < W5.heap.size ∧ j ≠ gm + 1 := by have := HS5.out; omega
          rw [Below.heap_setCell _ _ _ _ hj3.2, HG9.out.block j (by have := HZ.out.chg.kept.1; have := HKF8.out.size; omega) (fun e => by have := Kd.N_base HZ8.out.row j e.symm; omega)]
          exact HKF8.out.block j (by have := HZ.out.chg.kept.1; omega)
  case done =>
    rintro D xs Wd hD rfl ⟨vz, S, hz⟩ hK
    have hzr := hz.row
    rw [bRow_all (by rw [HL.out]; exact HMANY.out) HRM.out] at hzr
    obtain ⟨Az, nz, cz, rfl, hcz, -⟩ := N_open hzr
    have hzb := hz.blk
    have z0 : Wd.cell? ⟨gm + 1, 0, none⟩ = some (.slice Az nz cz) := by simp [World.cell?, hzb]
    have HZ := Aside0.mk hz
    have HZR := Aside0.mk hzr
    have HK := Aside0.mk hK
    clear hz hzb hzr hK
    go_wp2
    have hDl := (Array.getElem?_eq_some_iff.1 HK.out).1
    refine Dv.leaves_marks (B := w.heap.size) _ Wd ⟨⟨D, rfl, Nat.le_trans HBW5.out.size hD, HK.out, fun d hd => by cases hd⟩, trivial⟩ (fun W' hs ho ht hou hk => ?_)
    refine ⟨_, results_tmp2 Try.results10 _ _ _, ?_⟩
    have hne : ∀ k, k ≠ D → ∀ d ∈ [({ target := .collected D, args := #[] } : Deferred)], d.target ≠ .collected k := fun k hkD d hd e => by
      rw [List.mem_singleton.1 hd] at e
      injection e with e
      exact hkD e.symm
    have hBWd : Below w.heap.size w Wd := by
      have h1 : Below w.heap.size W5 Wd := HZ.out.chg.to_below HBW5.out.size (fun k e => by have h3 := HB2.out.size; have h4 := HS5.out; have h5 := HB5.out; have h6 := HGM.out; omega)
      exact Below.trans HBW5.out h1
    have hSD : ∀ j, S j → j ≠ D := fun j hj e => by
      subst e
      obtain ⟨o, h5, h6⟩ := (HZ.out.ft _ hj).2.2
      have := HK.out
      rw [this] at h5
      injection h5 with h5
      rw [← h5] at h6
      cases h6
    refine ⟨⟨ho.trans hBWd.os, ht.trans hBWd.tape, hou.trans hBWd.output, Nat.le_trans hBWd.size hs, fun k hlt => ?_⟩, .inl ⟨_, _, HE.out, rfl, ?_⟩⟩
    · have hlD : k < D := by have := HBW5.out.size; omega
      exact (hk k (Nat.lt_of_lt_of_le hlt hBWd.size) (hne k (by omega))).trans (hBWd.block k hlt)
    · exact Kd.N_mono (Kd.N_lower (Kd.N_step HZR.out (fun j hj hlt => hk j hlt (hne j (hSD j hj)))) HBW5.out.size) (fun j hj => ⟨Nat.le_trans HBW5.out.size (HZ.out.ft j hj).1, Nat.lt_of_lt_of_le (HZ.out.ft j hj).2.1 hs⟩)
  case stop =>
    rintro D c pre Wx _ _ h _
    exact h.elim
end Go.Proofs.Ytkmeipblgdahoaa.Ck
namespace Go.Proofs.Ytkmeipblgdahoaa.Rc
open Go.RowKit Go.Proofs.YtkmeipblgdahoaaW.PrintWords Go.Proofs.YtkmeipblgdahoaaW.PrintMore Go.Proofs.Ytkmeipblgdahoaa.Base
set_option linter.unusedVariables false
set_option linter.unusedSimpArgs false
/-- A row of numbers of the call's own. -/
def OwnU (w : World) (base : Nat) (v : Value) (xs : List Nat) : Prop := (nat .u64).R 24 w base anyB v xs
def TakeP (w : World) (r : Option (List Nat × List UInt8)) (e : Ending) (w' : World) : Prop :=
  Below w.heap.size w w' ∧ match r with
    | some (l, x) => ∃ vl vr, e = .returned (.tuple #[vl, vr, .bool true]) ∧ OwnU w' w.heap.size vl l ∧ Base.Own w' w.heap.size vr x
    | none => e = .returned (.tuple #[.slice none 0 0, .slice none 0 0, .bool false])
/-- What holds at a round's head. -/
structure TkR (w W : World) (gl : Nat) (vl : Value) (l : List Nat) (A : Option Addr) (n c : Nat) (b : List UInt8) : Prop where
  bl : Boxed W gl 92 vl
  br : Boxed W (gl + 1) 39 (.slice none 0 0)
  bi : Boxed W (gl + 1 + 1) 4 (.bool false)
  row : OwnU W w.heap.size vl l
  rd : Rd w W (gl + 1 + 1 + 1) A n c b
  glb : w.heap.size ≤ gl
section
variable {w W W' : World} {gl : Nat} {vl : Value} {l : List Nat} {A A' : Option Addr} {n c n' c' : Nat} {b b' : List UInt8}
theorem Rd.below (h : Rd w W gl A n c b) (hb : Below W.heap.size W W') : Rd w W' gl A n c b :=
  ⟨h.blk.kept (grown_of_below hb none) (by simp), h.byt, h.cap, below_go h.bel hb, h.new⟩
theorem TkR.below (h : TkR w W gl vl l A n c b) (hb : Below W.heap.size W W') : TkR w W' gl vl l A n c b :=
  ⟨h.bl.kept (grown_of_below hb none) (by simp), h.br.kept (grown_of_below hb none) (by simp), h.bi.kept (grown_of_below hb none) (by simp), Kd.R_below h.row hb, h.rd.below hb, h.glb⟩
theorem TkR.num (h : TkR w W gl vl l A n c b) (hr : Rd w W' (gl + 1 + 1 + 1) A' n' c' b') (hg : W.grownBy W' (some (gl + 1 + 1 + 1))) : TkR w W' gl vl l A' n' c' b' :=
  ⟨h.bl.kept hg (by simp; omega), h.br.kept hg (by simp), h.bi.kept hg (by simp), Kd.R_grown1 h.row rfl hg (Kd.R_ne h.row (show W.heap[gl + 1 + 1 + 1]? = _ from h.rd.blk) (by decide)), hr, h.glb⟩
theorem TkR.put (h : TkR w W gl vl l A n c b) {v1 : Value} {y : Nat} (hr : OwnU W' w.heap.size v1 (l ++ [y])) (hg : W.grownBy W' vl.ownBlock) : TkR w (W'.setCell ⟨gl, 0, none⟩ v1) gl v1 (l ++ [y]) A n c b := by
  have n0 := Kd.R_ne h.row (show W.heap[gl]? = _ from h.bl) (by decide)
  have n1 := Kd.R_ne h.row (show W.heap[gl + 1]? = _ from h.br) (by decide)
  have n2 := Kd.R_ne h.row (show W.heap[gl + 1 + 1]? = _ from h.bi) (by decide)
  have n3 := Kd.R_ne h.row (show W.heap[gl + 1 + 1 + 1]? = _ from h.rd.blk) (by decide)
  have b0 : Boxed W' gl 92 vl := h.bl.kept hg n0
  have hgs := grownBy_setCell' W' gl v1
  refine ⟨b0.set v1, Boxed.far (h.br.kept hg n1) (by omega) _, Boxed.far (h.bi.kept hg n2) (by omega) _, Kd.R_grown1 hr rfl hgs (Kd.R_ne hr (show W'.heap[gl]? = _ from b0) (by decide)), ⟨Boxed.far (h.rd.blk.kept hg n3) (by omega) _, h.rd.byt, h.rd.cap, ?_, h.rd.new⟩, h.glb⟩
  have hgl : w.heap.size ≤ gl := by have := h.glb; omega
  exact ((h.rd.bel.grown hg h.rd.bel.size (fun k hk => Kd.R_base h.row k hk))).setCell hgl _
end
section
variable {ops : Array Oper} {o : Oper} {a : Act} {Q : Exit → Act → World → Prop} {Kc : Act → World → Prop}
theorem info_u64 : (Try.prog.info? 24).map (fun i => (i.zero, i.size, i.bytes)) = some (some (.int .u64 0), 1, 8) := by kernel_rfl
/-- append(v, x) in a region that draws: a number. -/
theorem app_u64_step {W : World} (base : Nat) (s x : Operand) (hw : Region.wanted o (yielded ops a.tmps) = true) (ho : o.op = .call { callee := .builtin .append, args := #[s, x], argTypes := #[92, 92] })
    (v : Value) (xs : List Nat) (y : Nat) (hy : (Lit.int .u64 (y : Int)).wf = true) (hs : a.eval s = v) (hx : a.eval x = .slice (some ⟨W.heap.size, 0, none⟩) 1 1)
    (HO : OwnU W base v xs) (hbase : base ≤ W.heap.size) (hl : xs.length ≤ 100000)
    (h : ∀ v1 w1, OwnU w1 base v1 (xs ++ [y]) → W.grownBy w1 v.ownBlock → Kc (a.put o.dst v1) w1) :
    if Region.wanted o (yielded ops a.tmps) = true then Oper.wp Try.prog o a (W.alloc (.cells #[.int .u64 (y : Int)] 24)) Kc Q else Kc (a.put o.dst undef) (W.alloc (.cells #[.int .u64 (y : Int)] 24)) :=
  Kd.R_append_step (nat .u64) (w0 := W) base hw s x 92 24 (.int .u64 0) 8 ho Try.underlying92 info_u64 rfl (by decide) (by decide) v xs y [.int .u64 (y : Int)] anyB (fun _ => False) hs hx ⟨rfl, hy⟩ (fun _ h => h.elim) (fun _ _ => trivial) HO (Below.refl _ _) hbase (by omega) (fun v1 w1 h1 _ h3 _ => h v1 w1 h1 h3)
end
theorem wf_un (l : List UInt8) (h : l.length ≤ 8) : (Lit.int .u64 ((un l : Nat) : Int)).wf = true := by
  have h1 := un_lt l
  have h2 : 256 ^ l.length ≤ 256 ^ 8 := Nat.pow_le_pow_right (by omega) h
  have h3 : (256 : Nat) ^ 8 = 18446744073709551616 := by decide
  simp only [Lit.wf, IntKind.min, IntKind.max, IntKind.bits, IntKind.signed, decide_eq_true_eq, Bool.and_eq_true, Bool.false_eq_true, if_false]
  have h4 : un l ≤ 18446744073709551615 := by omega
  refine ⟨by omega, ?_⟩
  have : ((2 : Int) ^ 64 - 1) = 18446744073709551615 := by decide
  omega

theorem take_more {b : List UInt8} {ws : List Int} {i : Nat} {x : Int} (hi : i < ws.length) (hx : ws.getD i 0 = x) (hb : wd x ≤ b.length) (l : List Nat) :
    (take b (ws.drop i)).map (fun p => (l ++ p.1, p.2)) = (take (b.drop (wd x)) (ws.drop (i + 1))).map (fun p => ((l ++ [un (b.take (wd x))]) ++ p.1, p.2)) := by
  rw [drop_getD ws i 0 hi, hx, take, if_neg (by omega), Option.map_map]
  congr 1
  funext p
  simp
theorem take_less {b : List UInt8} {ws : List Int} {i : Nat} {x : Int} (hi : i < ws.length) (hx : ws.getD i 0 = x) (hb : b.length < wd x) : take b (ws.drop i) = none := by
  rw [drop_getD ws i 0 hi, hx, take, if_pos hb]
theorem own_empty (w : World) (base : Nat) (hb : base ≤ w.heap.size) : Base.Own (w.alloc (.cells #[] 5)) base (.slice (some ⟨w.heap.size, 0, none⟩) 0 0) [] :=
  ⟨fun _ _ => trivial, [], ⟨rfl, .inr ⟨w.heap.size, 0, #[], rfl, hb, heap_alloc_new w _, Nat.le_refl _, Nat.zero_le _, rfl, rfl⟩⟩, rfl, fun j p hj => by simp at hj⟩
set_option maxRecDepth 100000 in
theorem clone_calls (A : Option Addr) (n cap : Nat) (xs : List UInt8) (hn : n ≤ 140737488355328) (w : World) (h : byte.C w A n xs) :
    Calls Try.prog 64 #[.slice A n cap] w fun e w' => ∃ v, e = .returned v ∧ Base.Own w' w.heap.size v xs ∧ Below w.heap.size w w' := by
  have H := Aside0.mk h
  have hnil : ∀ (c : Nat) (W : World), (binOp .eql 39 (.slice none 0 c) (.slice none 0 0)).run Try.prog W = .ok (.bool true) W := fun _ _ => by kernel_rfl
  have hnot : ∀ (a : Addr) (m c : Nat) (W : World), (binOp .eql 39 (.slice (some a) m c) (.slice none 0 0)).run Try.prog W = .ok (.bool false) W := fun _ _ _ _ => by kernel_rfl
  cases A with
  | none =>
    have hn0 : n = 0 := by
      rcases Nat.eq_zero_or_pos n with h0 | h0
      · exact h0
      · obtain ⟨ad, he, _⟩ := h.2.2 h0
        cases he
    subst hn0
    have hx : xs = [] := List.eq_nil_of_length_eq_zero h.1
    subst hx
    clear h
    go_enter Try.func64, Try.ntmps64
    go_wp2
    go_ret
    exact ⟨_, rfl, Base.Own.nil _ _, Below.refl _ _⟩
  | some ad =>
    have HC := Aside0.mk (Kd.C_below h (alloc_below w (.cells #[] 5)))
    have HO := Aside0.mk (own_empty w w.heap.size (Nat.le_refl _))
    have HB := Aside0.mk (alloc_below w (.cells #[] 5))
    clear h
    go_enter Try.func64, Try.ntmps64
    go_wp2_with (at_builtin; go_loud (refine app_row (w0 := w) w.heap.size (.tmp 5) (.tmp 6) rfl rfl _ [] xs (some ad) n cap rfl rfl HO.out HC.out HB.out (by simp) (by simp; omega) ?_); intro v1 w1 hO hB _; have HO1 := Aside0.mk hO; have HB1 := Aside0.mk hB; clear hO hB)
    go_ret
    exact ⟨_, rfl, HO1.out, HB1.out⟩
theorem door_panic (w W : World) (r : Option (List Nat × List UInt8)) (gl : Nat) (vl : Value) (l : List Nat) (A : Option Addr) (n c : Nat) (b : List UInt8) (h : TkR w W gl vl l A n c b) (hr : r = none) (T : Array Value) (u : TypeId) (pv : Value)
    (h4 : T[4]?.getD undef = .pointer (some ⟨gl, 0, none⟩)) (h5 : T[5]?.getD undef = .pointer (some ⟨gl + 1, 0, none⟩)) (h6 : T[6]?.getD undef = .pointer (some ⟨gl + 1 + 1, 0, none⟩)) :
    Leaves Try.prog Try.f74 T (TakeP w r) [{ target := .fn (.func 87) #[.pointer (some ⟨gl, 0, none⟩), .pointer (some ⟨gl + 1, 0, none⟩), .pointer (some ⟨gl + 1 + 1, 0, none⟩)], args := #[] }] (.panicking [{ v := .iface u pv, recovered := false }]) W := by
  subst hr
  refine leaves_cons (f := 87) (args := #[.pointer (some ⟨gl, 0, none⟩), .pointer (some ⟨gl + 1, 0, none⟩), .pointer (some ⟨gl + 1 + 1, 0, none⟩)]) (by simp) (by simp [go_sem]) ?_
  refine (catch_panicking gl (gl + 1) (gl + 1 + 1) _ _ _ u pv W h.bl h.br h.bi (by omega) (by omega) (by omega)).mono ?_
  rintro e u' w'' ⟨rfl, rfl, rfl⟩
  have b0 := Boxed.far (Boxed.far (h.bl.set (.slice none 0 0)) (by omega : gl ≠ gl + 1) (.slice none 0 0)) (by omega : gl ≠ gl + 1 + 1) (.bool false)
  have b1 := Boxed.far ((Boxed.far h.br (by omega : gl + 1 ≠ gl) (.slice none 0 0)).set (.slice none 0 0)) (by omega : gl + 1 ≠ gl + 1 + 1) (.bool false)
  have b2 := (Boxed.far (Boxed.far h.bi (by omega : gl + 1 + 1 ≠ gl) (.slice none 0 0)) (by omega : gl + 1 + 1 ≠ gl + 1) (.slice none 0 0)).set (.bool false)
  have c0 := b0.cell
  have c1 := b1.cell
  have c2 := b2.cell
  have hg := h.glb
  have hb := (((h.rd.bel.setCell (p := ⟨gl, 0, none⟩) hg (.slice none 0 0)).setCell (p := ⟨gl + 1, 0, none⟩) (by show w.heap.size ≤ gl + 1; omega) (.slice none 0 0)).setCell (p := ⟨gl + 1 + 1, 0, none⟩) (by show w.heap.size ≤ gl + 1 + 1; omega) (.bool false))
  generalize ((W.setCell ⟨gl, 0, none⟩ (.slice none 0 0)).setCell ⟨gl + 1, 0, none⟩ (.slice none 0 0)).setCell ⟨gl + 1 + 1, 0, none⟩ (.bool false) = W9 at *
  refine ⟨.tuple #[.slice none 0 0, .slice none 0 0, .bool false], ?_, hb, rfl⟩
  simp [results, Try.results74, go_sem, h4, h5, h6, c0, c1, c2]
theorem last_u {w W : World} {gl : Nat} {vl : Value} {l : List Nat} {A : Option Addr} {n c : Nat} {b : List UInt8} (h : TkR w W gl vl l A n c b) : Boxed (W.setCell ⟨gl, 0, none⟩ vl) (gl + 1) 39 (.slice none 0 0) ∧ Boxed (W.setCell ⟨gl, 0, none⟩ vl) gl 92 vl :=
  ⟨Boxed.far h.br (by omega) _, h.bl.set _⟩
theorem last_u2 {w W : World} {gl : Nat} {vl : Value} {l : List Nat} {A : Option Addr} {n c : Nat} {b : List UInt8} (h : TkR w W gl vl l A n c b) (v : Value) : Boxed ((W.setCell ⟨gl, 0, none⟩ vl).setCell ⟨gl + 1, 0, none⟩ v) (gl + 1 + 1) 4 (.bool false) :=
  Boxed.far (Boxed.far h.bi (by omega) _) (by omega) _
theorem own_lower {w : World} {b b' : Nat} {v : Value} {xs : List UInt8} (h : Base.Own w b v xs) (hb : b' ≤ b) : Base.Own w b' v xs := Kd.R_lower h hb
theorem own_box {w : World} {b B t : Nat} {v u v' : Value} {xs : List UInt8} (h : Base.Own w b v xs) (hB : Boxed w B t u) (ht : 5 ≠ t) : Base.Own (w.setCell ⟨B, 0, none⟩ v') b v xs :=
  Kd.R_grown1 h rfl (grownBy_setCell' w B v') (Kd.R_ne h (show w.heap[B]? = _ from hB) ht)
theorem ownU_box {w : World} {b B t : Nat} {v u v' : Value} {xs : List Nat} (h : OwnU w b v xs) (hB : Boxed w B t u) (ht : 24 ≠ t) : OwnU (w.setCell ⟨B, 0, none⟩ v') b v xs :=
  Kd.R_grown1 h rfl (grownBy_setCell' w B v') (Kd.R_ne h (show w.heap[B]? = _ from hB) ht)
theorem door_ret (w W : World) (r : Option (List Nat × List UInt8)) (gl : Nat) (vl : Value) (l : List Nat) (A : Option Addr) (n c : Nat) (b x : List UInt8) (v : Value) (h : TkR w W gl vl l A n c b) (hO : Base.Own W w.heap.size v x) (hr : r = some (l, x)) (T : Array Value)
    (h4 : T[4]?.getD undef = .pointer (some ⟨gl, 0, none⟩)) (h5 : T[5]?.getD undef = .pointer (some ⟨gl + 1, 0, none⟩)) (h6 : T[6]?.getD undef = .pointer (some ⟨gl + 1 + 1, 0, none⟩)) :
    Leaves Try.prog Try.f74 T (TakeP w r) [{ target := .fn (.func 87) #[.pointer (some ⟨gl, 0, none⟩), .pointer (some ⟨gl + 1, 0, none⟩), .pointer (some ⟨gl + 1 + 1, 0, none⟩)], args := #[] }] .returning (((W.setCell ⟨gl, 0, none⟩ vl).setCell ⟨gl + 1, 0, none⟩ v).setCell ⟨gl + 1 + 1, 0, none⟩ (.bool true)) := by
  subst hr
  refine leaves_cons (f := 87) (args := #[.pointer (some ⟨gl, 0, none⟩), .pointer (some ⟨gl + 1, 0, none⟩), .pointer (some ⟨gl + 1 + 1, 0, none⟩)]) (by simp) (by simp [go_sem]) ?_
  refine (catch_idle gl (gl + 1) (gl + 1 + 1) _).mono ?_
  rintro e u' w'' ⟨rfl, rfl, rfl⟩
  obtain ⟨a1, a0⟩ := last_u h
  have a2 := last_u2 h v
  have b0 := Boxed.far (Boxed.far a0 (by omega : gl ≠ gl + 1) v) (by omega : gl ≠ gl + 1 + 1) (.bool true)
  have b1 := Boxed.far (a1.set v) (by omega : gl + 1 ≠ gl + 1 + 1) (.bool true)
  have b2 := a2.set (.bool true)
  have c0 := b0.cell
  have c1 := b1.cell
  have c2 := b2.cell
  have hg := h.glb
  have hb := (((h.rd.bel.setCell (p := ⟨gl, 0, none⟩) hg vl).setCell (p := ⟨gl + 1, 0, none⟩) (by show w.heap.size ≤ gl + 1; omega) v).setCell (p := ⟨gl + 1 + 1, 0, none⟩) (by show w.heap.size ≤ gl + 1 + 1; omega) (.bool true))
  have o1 := own_box (v' := .bool true) (own_box (v' := v) (own_box (v' := vl) hO h.bl (by decide)) a1 (by decide)) a2 (by decide)
  have u1 := ownU_box (v' := .bool true) (ownU_box (v' := v) (ownU_box (v' := vl) h.row h.bl (by decide)) a1 (by decide)) a2 (by decide)
  generalize ((W.setCell ⟨gl, 0, none⟩ vl).setCell ⟨gl + 1, 0, none⟩ v).setCell ⟨gl + 1 + 1, 0, none⟩ (.bool true) = W9 at *
  refine ⟨.tuple #[vl, v, .bool true], ?_, hb, vl, v, rfl, u1, o1⟩
  simp [results, Try.results74, go_sem, h4, h5, h6, c0, c1, c2]
theorem ownU_open {w : World} {b : Nat} {v : Value} {xs : List Nat} (h : OwnU w b v xs) : ∃ A n c, v = .slice A n c := by
  obtain ⟨A, c, h1⟩ := Kd.R_slice h
  exact ⟨A, _, c, h1⟩
theorem leaves_congr {P : Program} {fn : Func} {t t' : Array Value} {R : Ending → World → Prop} (h : results fn t = results fn t') : ∀ (ds : List Deferred) (u : FrameMode) (w : World), Leaves P fn t R ds u w → Leaves P fn t' R ds u w := by
  intro ds
  induction ds with
  | nil =>
    intro u w hl
    cases u with
    | run => exact hl
    | returning => obtain ⟨v, h1, h2⟩ := hl; exact ⟨v, by rw [← h]; exact h1, h2⟩
    | panicking c => exact hl
  | cons d ds ih =>
    intro u w hl
    obtain ⟨h1, fv, cap, f, args, h2, h3, h4⟩ := hl
    refine ⟨h1, fv, cap, f, args, h2, h3, h4.mono ?_⟩
    intro e u' w' hh
    cases e with
    | returned v => exact ih _ _ hh
    | panicked c => exact ih _ _ hh
    | outgrown => exact hh
theorem take_put {R : Ending → World → Prop} {a : Act} {d : Nat} {v : Value} {c : List PanicEntry} {w : World} (hd : 7 ≤ d) (h : Leaves Try.prog Try.f74 (a.put (some d) v).tmps R (a.put (some d) v).defers (.panicking c) w) : Leaves Try.prog Try.f74 a.tmps R a.defers (.panicking c) w := by
  refine leaves_congr ?_ _ _ _ h
  have h4 : (a.tmps.setIfInBounds d v)[4]? = a.tmps[4]? := Array.getElem?_setIfInBounds_ne (by omega)
  have h5 : (a.tmps.setIfInBounds d v)[5]? = a.tmps[5]? := Array.getElem?_setIfInBounds_ne (by omega)
  have h6 : (a.tmps.setIfInBounds d v)[6]? = a.tmps[6]? := Array.getElem?_setIfInBounds_ne (by omega)
  simp [results, Try.results74, Act.put, h4, h5, h6]
theorem take_first (w : World) (gl : Nat) (A : Option Addr) (n c : Nat) (b : List UInt8) (h : byte.C w A n b) (hc : n ≤ c) (hg : gl = w.heap.size) :
    TkR w ((((w.alloc (.cells #[.slice none 0 0] 92)).alloc (.cells #[.slice none 0 0] 39)).alloc (.cells #[.bool false] 4)).alloc (.cells #[.slice A n c] 146)) gl (.slice none 0 0) [] A n c b := by
  subst hg
  have b1 := Boxed.new w 92 (.slice none 0 0)
  have b2 := Boxed.new (w.alloc (.cells #[.slice none 0 0] 92)) 39 (.slice none 0 0)
  have b3 := Boxed.new ((w.alloc (.cells #[.slice none 0 0] 92)).alloc (.cells #[.slice none 0 0] 39)) 4 (.bool false)
  have b4 := Boxed.new (((w.alloc (.cells #[.slice none 0 0] 92)).alloc (.cells #[.slice none 0 0] 39)).alloc (.cells #[.bool false] 4)) 146 (.slice A n c)
  refine ⟨((b1.alloc _).alloc _).alloc _, ?_, ?_, Kd.R_nil _ _ _ _ _, ⟨?_, h, hc, ?_, by omega⟩, Nat.le_refl _⟩
  · simpa using (b2.alloc _).alloc _
  · simpa using b3.alloc _
  · simpa using b4
  · exact below_alloc (below_alloc (below_alloc (alloc_below _ _) _) _) _
set_option maxRecDepth 100000 in
set_option maxHeartbeats 4000000 in
theorem take_callsU (A : Option Addr) (n c : Nat) (b : List UInt8) (B : Option Addr) (m d : Nat) (ws : List Int) (w : World) (h : byte.C w A n b) (hnc : n ≤ c) (hn : n ≤ 100000000) (hw : (num .i64).C w B m ws) (hm : m ≤ 1000) :
    Calls Try.prog 74 #[.slice A n c, .slice B m d] w (TakeP w (take b ws)) := by
  have hmf : ∀ (fn : Fn) (first cap : Array Value) (w : World), (Instr.makeFunc fn first cap).run Try.prog w = .ok (.func fn first cap) w := fun _ _ _ _ => rfl
  obtain ⟨wl, wmx⟩ := C_len hw
  have HWL := Aside0.mk wl
  have HWC := Aside0.mk hw
  have HT := Aside0.mk (take_first w _ A n c b h hnc rfl)
  clear h hw wl
  go_enter_defers Try.func74, Try.ntmps74
  go_wp2
  obtain ⟨W, hW⟩ : ∃ W, ((((w.alloc (.cells #[.slice none 0 0] 92)).alloc (.cells #[.slice none 0 0] 39)).alloc (.cells #[.bool false] 4)).alloc (.cells #[.slice A n c] 146)) = W := ⟨_, rfl⟩
  obtain ⟨gl, hgl⟩ : ∃ gl, w.heap.size = gl := ⟨_, rfl⟩
  rw [hW, hgl] at HT
  rw [hW, hgl]
  have HGL := Aside0.mk hgl
  clear hW hgl
  go_loopg [16] m (fun g v16 wr => ∃ (i : Nat) (vl : Value) (l : List Nat) (A1 : Option Addr) (n1 c1 : Nat) (b1 : List UInt8), v16 = .int .i64 (i : Int) ∧ i ≤ m ∧ n1 ≤ 100000000 ∧ c1 ≤ c ∧ l.length ≤ 1000 ∧ Aside0 (g + i = m) ∧ Aside0 (l.length = i) ∧ Aside0 (TkR w wr gl vl l A1 n1 c1 b1) ∧ Aside0 ((take b1 (ws.drop i)).map (fun p => (l ++ p.1, p.2)) = take b ws))
  case atStart => exact ⟨0, _, [], A, n, c, b, rfl, by omega, hn, Nat.le_refl _, by simp, ⟨rfl⟩, ⟨rfl⟩, HT, ⟨by simp⟩⟩
  case round =>
    obtain ⟨i, vl, l, A1, n1, c1, b1, rfl, hi, hn1, hc1, hl1, HK, HL1, HR, HP⟩ := hrel
    by_cases hlt : i < m
    · obtain ⟨Al, nl, cl, rfl⟩ := ownU_open HR.out.row
      obtain ⟨pa, hpa, e0, hwf⟩ := num_at (Kd.C_below HWC.out HR.out.rd.bel) i (by omega)
      subst hpa
      obtain ⟨x, hx⟩ : ∃ x, ws.getD i 0 = x := ⟨_, rfl⟩
      rw [hx] at e0 hwf
      have HX := Aside0.mk hx
      have hlt' : (i : Int) < (m : Int) := by omega
      have hd0 : decide ((i : Int) < (m : Int)) = true := decide_eq_true hlt'
      obtain ⟨hbl, hnb⟩ := C_len HR.out.rd.byt
      have hw8 := wd_pos x
      have HB1 := Aside0.mk hbl
      clear hx hwf hbl hnb
      go_wp2
      clear e0
      have HD := Aside0.mk (HR.out.below (below_drew (Below.refl _ _)))
      have hbw : w.heap.size ≤ wr.heap.size := HR.out.rd.bel.size
      have z0 : wr.cell? ⟨gl, 0, none⟩ = some (.slice Al nl cl) := HR.out.bl.cell
      by_cases hsh : b1.length < wd x
      · have HNone := Aside0.mk (show take b ws = none by rw [← HP.out, take_less (by rw [HWL.out]; exact hlt) HX.out hsh]; rfl)
        have HSH := Aside0.mk hsh
        clear hsh
        refine wp_region_any (by kernel_rfl) ?_
        rw [show ({ wr with drawn := wr.drawn + 1 } : World) = wr.drew from rfl]
        refine wpAny_take (i := 1) (oi := { dst := some 21, op := Op.move (Operand.tmp 7), type := 144, pos := "wire.go:53", after := #[], guard := none }) (v := ?_) rfl (by kernel_rfl) (by kernel_rfl) (by kernel_rfl) (fun _ _ _ h => take_put (by omega) h) (Or.inl ⟨by rfl, ?_⟩) ?_
        rotate_left
        · (intro w; go_simp; (try with_reducible rfl))
        (try simp only [Act.put, List.setIfInBounds_toArray, List.set_cons_zero, List.set_cons_succ])
        refine wpAny_take (i := 2) (oi := { dst := some 22, op := Op.move (Operand.tmp 9), type := 3, pos := "wire.go:53", after := #[], guard := none }) (v := ?_) rfl (by kernel_rfl) (by kernel_rfl) (by kernel_rfl) (fun _ _ _ h => take_put (by omega) h) (Or.inl ⟨by rfl, ?_⟩) ?_
        rotate_left
        · (intro w; go_simp; (try with_reducible rfl))
        (try simp only [Act.put, List.setIfInBounds_toArray, List.set_cons_zero, List.set_cons_succ])
        refine wpAny_ready (rs := [0, 3]) (by kernel_rfl) (by simp) ?_
        refine (AllReady.cons (o := { dst := some 20, op := Op.load 92 (Operand.tmp 4), type := 92, pos := "wire.go:53", after := #[], guard := none }) rfl (fun K hK => ?_) (AllReady.cons (o := { dst := some 23, op := Op.call { callee := Callee.value (Operand.func 85), args := #[Operand.tmp 22], argTypes := #[3] }, type := 3, pos := "wire.go:53", after := #[{ on := 2, ground := Ground.data }], guard := none }) rfl (fun K hK => ?_) AllReady.nil))
        · go_simp
          refine hK _ _ ?_
          clear hK K
          (try simp only [Act.put, List.setIfInBounds_toArray, List.set_cons_zero, List.set_cons_succ])
          refine wpAny_ready (rs := [3]) (by kernel_rfl) (by simp) ?_
          refine (AllReady.cons (o := { dst := some 23, op := Op.call { callee := Callee.value (Operand.func 85), args := #[Operand.tmp 22], argTypes := #[3] }, type := 3, pos := "wire.go:53", after := #[{ on := 2, ground := Ground.data }], guard := none }) rfl (fun K hK => ?_) AllReady.nil)
          go_simp
          refine (width_calls x _).mono ?_
          rintro e w7 ⟨rfl, rfl⟩
          refine hK _ _ ?_
          clear hK K
          (try simp only [Act.put, List.setIfInBounds_toArray, List.set_cons_zero, List.set_cons_succ])
          refine wpAny_ready (rs := [4]) (by kernel_rfl) (by simp) ?_
          refine (AllReady.cons (o := { dst := some 24, op := Op.call { callee := Callee.value (Operand.func 88), args := #[Operand.tmp 21, Operand.tmp 23], argTypes := #[144, 3] }, type := 24, pos := "wire.go:53", after := #[{ on := 1, ground := Ground.data }, { on := 3, ground := Ground.data }, { on := 3, ground := Ground.chain }], guard := none }) rfl (fun K hK => ?_) AllReady.nil)
          go_simp
          refine (number_short w _ (gl + 1 + 1 + 1) A1 n1 c1 b1 (wd x) HD.out.rd (by have := HSH.out; have := HB1.out; omega) hw8.2).mono ?_
          rintro e w8 ⟨u, pv, rfl, hb8⟩
          exact door_panic w w8 _ gl _ l A1 n1 c1 b1 (HD.out.below hb8) HNone.out _ u pv rfl rfl rfl
        · go_simp
          refine (width_calls x _).mono ?_
          rintro e w7 ⟨rfl, rfl⟩
          refine hK _ _ ?_
          clear hK K
          (try simp only [Act.put, List.setIfInBounds_toArray, List.set_cons_zero, List.set_cons_succ])
          refine wpAny_ready (rs := [0, 4]) (by kernel_rfl) (by simp) ?_
          refine (AllReady.cons (o := { dst := some 20, op := Op.load 92 (Operand.tmp 4), type := 92, pos := "wire.go:53", after := #[], guard := none }) rfl (fun K hK => ?_) (AllReady.cons (o := { dst := some 24, op := Op.call { callee := Callee.value (Operand.func 88), args := #[Operand.tmp 21, Operand.tmp 23], argTypes := #[144, 3] }, type := 24, pos := "wire.go:53", after := #[{ on := 1, ground := Ground.data }, { on := 3, ground := Ground.data }, { on := 3, ground := Ground.chain }], guard := none }) rfl (fun K hK => ?_) AllReady.nil))
          · go_simp
            refine hK _ _ ?_
            clear hK K
            (try simp only [Act.put, List.setIfInBounds_toArray, List.set_cons_zero, List.set_cons_succ])
            refine wpAny_ready (rs := [4]) (by kernel_rfl) (by simp) ?_
            refine (AllReady.cons (o := { dst := some 24, op := Op.call { callee := Callee.value (Operand.func 88), args := #[Operand.tmp 21, Operand.tmp 23], argTypes := #[144, 3] }, type := 24, pos := "wire.go:53", after := #[{ on := 1, ground := Ground.data }, { on := 3, ground := Ground.data }, { on := 3, ground := Ground.chain }], guard := none }) rfl (fun K hK => ?_) AllReady.nil)
            go_simp
            refine (number_short w _ (gl + 1 + 1 + 1) A1 n1 c1 b1 (wd x) HD.out.rd (by have := HSH.out; have := HB1.out; omega) hw8.2).mono ?_
            rintro e w8 ⟨u, pv, rfl, hb8⟩
            exact door_panic w w8 _ gl _ l A1 n1 c1 b1 (HD.out.below hb8) HNone.out _ u pv rfl rfl rfl
          · go_simp
            refine (number_short w _ (gl + 1 + 1 + 1) A1 n1 c1 b1 (wd x) HD.out.rd (by have := HSH.out; have := HB1.out; omega) hw8.2).mono ?_
            rintro e w8 ⟨u, pv, rfl, hb8⟩
            exact door_panic w w8 _ gl _ l A1 n1 c1 b1 (HD.out.below hb8) HNone.out _ u pv rfl rfl rfl
      · have HTM := Aside0.mk (take_more (by rw [HWL.out]; exact hlt) HX.out (by omega : wd x ≤ b1.length) l)
        have HSH := Aside0.mk hsh
        have HNL := Aside0.mk (show l.length ≤ 100000 by omega)
        clear hsh
        refine wp_region_any (by kernel_rfl) ?_
        rw [show ({ wr with drawn := wr.drawn + 1 } : World) = wr.drew from rfl]
        refine wpAny_take (i := 1) (oi := { dst := some 21, op := Op.move (Operand.tmp 7), type := 144, pos := "wire.go:53", after := #[], guard := none }) (v := ?_) rfl (by kernel_rfl) (by kernel_rfl) (by kernel_rfl) (fun _ _ _ h => take_put (by omega) h) (Or.inl ⟨by rfl, ?_⟩) ?_
        rotate_left
        · (intro w; go_simp; (try with_reducible rfl))
        (try simp only [Act.put, List.setIfInBounds_toArray, List.set_cons_zero, List.set_cons_succ])
        refine wpAny_take (i := 2) (oi := { dst := some 22, op := Op.move (Operand.tmp 9), type := 3, pos := "wire.go:53", after := #[], guard := none }) (v := ?_) rfl (by kernel_rfl) (by kernel_rfl) (by kernel_rfl) (fun _ _ _ h => take_put (by omega) h) (Or.inl ⟨by rfl, ?_⟩) ?_
        rotate_left
        · (intro w; go_simp; (try with_reducible rfl))
        (try simp only [Act.put, List.setIfInBounds_toArray, List.set_cons_zero, List.set_cons_succ])
        refine wpAny_ready (rs := [0, 3]) (by kernel_rfl) (by simp) ?_
        refine (AllReady.cons (o := { dst := some 20, op := Op.load 92 (Operand.tmp 4), type := 92, pos := "wire.go:53", after := #[], guard := none }) rfl (fun K hK => ?_) (AllReady.cons (o := { dst := some 23, op := Op.call { callee := Callee.value (Operand.func 85), args := #[Operand.tmp 22], argTypes := #[3] }, type := 3, pos := "wire.go:53", after := #[{ on := 2, ground := Ground.data }], guard := none }) rfl (fun K hK => ?_) AllReady.nil))
        · go_simp
          refine hK _ _ ?_
          clear hK K
          (try simp only [Act.put, List.setIfInBounds_toArray, List.set_cons_zero, List.set_cons_succ])
          refine wpAny_ready (rs := [3]) (by kernel_rfl) (by simp) ?_
          refine (AllReady.cons (o := { dst := some 23, op := Op.call { callee := Callee.value (Operand.func 85), args := #[Operand.tmp 22], argTypes := #[3] }, type := 3, pos := "wire.go:53", after := #[{ on := 2, ground := Ground.data }], guard := none }) rfl (fun K hK => ?_) AllReady.nil)
          go_simp
          refine (width_calls x _).mono ?_
          rintro e w7 ⟨rfl, rfl⟩
          refine hK _ _ ?_
          clear hK K
          (try simp only [Act.put, List.setIfInBounds_toArray, List.set_cons_zero, List.set_cons_succ])
          refine wpAny_ready (rs := [4]) (by kernel_rfl) (by simp) ?_
          refine (AllReady.cons (o := { dst := some 24, op := Op.call { callee := Callee.value (Operand.func 88), args := #[Operand.tmp 21, Operand.tmp 23], argTypes := #[144, 3] }, type := 24, pos := "wire.go:53", after := #[{ on := 1, ground := Ground.data }, { on := 3, ground := Ground.data }, { on := 3, ground := Ground.chain }], guard := none }) rfl (fun K hK => ?_) AllReady.nil)
          go_simp
          refine (number_next w _ (gl + 1 + 1 + 1) A1 n1 c1 b1 (wd x) HD.out.rd (by have := HSH.out; have := HB1.out; omega) hw8.2 hc1).mono ?_
          rintro e w8 ⟨rfl, ⟨A2, c2, hc2, hrd⟩, hg8⟩
          have HT8 := Aside0.mk (HD.out.num hrd hg8)
          have hs8 : wr.heap.size ≤ w8.heap.size := hg8.size
          have z0 : w8.cell? ⟨gl, 0, none⟩ = some (.slice Al nl cl) := HT8.out.bl.cell
          clear hrd hg8
          refine hK _ _ ?_
          clear hK K
          (try simp only [Act.put, List.setIfInBounds_toArray, List.set_cons_zero, List.set_cons_succ])
          refine wpAny_ready (rs := [5]) (by kernel_rfl) (by simp) ?_
          refine (AllReady.cons (o := { dst := some 25, op := Op.buildSlice 92 1 #[(0, Operand.tmp 24)], type := 92, pos := "wire.go:53", after := #[{ on := 4, ground := Ground.data }], guard := none }) rfl (fun K hK => ?_) AllReady.nil)
          go_simp
          refine hK _ _ ?_
          clear hK K
          (try simp only [Act.put, List.setIfInBounds_toArray, List.set_cons_zero, List.set_cons_succ])
          refine wpAny_ready (rs := [6]) (by kernel_rfl) (by simp) ?_
          refine (AllReady.cons (o := { dst := some 26, op := Op.call { callee := Callee.builtin Builtin.append, args := #[Operand.tmp 20, Operand.tmp 25], argTypes := #[92, 92] }, type := 92, pos := "wire.go:53", after := #[{ on := 0, ground := Ground.data }, { on := 5, ground := Ground.data }, { on := 4, ground := Ground.chain }], guard := none }) rfl (fun K hK => ?_) AllReady.nil)
          refine app_u64_step w.heap.size (.tmp 20) (.tmp 25) (by rfl) rfl _ l (un (b1.take (wd x))) (wf_un _ (by rw [List.length_take]; omega)) rfl (by simp [Act.eval]) HT8.out.row (by omega) HNL.out ?_
          intro v9 w9 hR9 hg9
          obtain ⟨A9, n9, c9, rfl⟩ := ownU_open hR9
          have HT9 := Aside0.mk (HT8.out.put hR9 hg9)
          have z9 : w9.cell? ⟨gl, 0, none⟩ = some (.slice Al nl cl) := (HT8.out.bl.kept hg9 (Kd.R_ne HT8.out.row (show w8.heap[gl]? = _ from HT8.out.bl) (by decide))).cell
          have zf9 : w9.frozen? ⟨gl, 0, none⟩ = false := (HT8.out.bl.kept hg9 (Kd.R_ne HT8.out.row (show w8.heap[gl]? = _ from HT8.out.bl) (by decide))).frozen
          clear hR9 hg9
          refine hK _ _ ?_
          clear hK K
          (try simp only [Act.put, List.setIfInBounds_toArray, List.set_cons_zero, List.set_cons_succ])
          refine wpAny_ready (rs := [7]) (by kernel_rfl) (by simp) ?_
          refine (AllReady.cons (o := { dst := none, op := Op.store 92 (Operand.tmp 4) (Operand.tmp 26), type := 0, pos := "wire.go:53", after := #[{ on := 6, ground := Ground.data }, { on := 6, ground := Ground.chain }, { on := 0, ground := Ground.phase }, { on := 1, ground := Ground.phase }, { on := 2, ground := Ground.phase }, { on := 3, ground := Ground.phase }, { on := 4, ground := Ground.phase }, { on := 5, ground := Ground.phase }, { on := 6, ground := Ground.phase }], guard := none }) rfl (fun K hK => ?_) AllReady.nil)
          go_simp
          refine hK _ _ ?_
          clear hK K
          (try simp only [Act.put, List.setIfInBounds_toArray, List.set_cons_zero, List.set_cons_succ])
          refine wpAny_done (by kernel_rfl) ?_ _
          go_wp2
          go_roundg (gk - 1)
          case measure => have := HK.out; omega
          case rel => exact ⟨i + 1, _, l ++ [un (b1.take (wd x))], A2, n1 - wd x, c2, b1.drop (wd x), by congr 1, by omega, by omega, hc2, by rw [List.length_append]; have := HL1.out; simp; omega, ⟨by have := HK.out; omega⟩, ⟨by rw [List.length_append, HL1.out]; rfl⟩, HT9, ⟨by rw [← HTM.out]; exact HP.out⟩⟩
        · go_simp
          refine (width_calls x _).mono ?_
          rintro e w7 ⟨rfl, rfl⟩
          refine hK _ _ ?_
          clear hK K
          (try simp only [Act.put, List.setIfInBounds_toArray, List.set_cons_zero, List.set_cons_succ])
          refine wpAny_ready (rs := [0, 4]) (by kernel_rfl) (by simp) ?_
          refine (AllReady.cons (o := { dst := some 20, op := Op.load 92 (Operand.tmp 4), type := 92, pos := "wire.go:53", after := #[], guard := none }) rfl (fun K hK => ?_) (AllReady.cons (o := { dst := some 24, op := Op.call { callee := Callee.value (Operand.func 88), args := #[Operand.tmp 21, Operand.tmp 23], argTypes := #[144, 3] }, type := 24, pos := "wire.go:53", after := #[{ on := 1, ground := Ground.data }, { on := 3, ground := Ground.data }, { on := 3, ground := Ground.chain }], guard := none }) rfl (fun K hK => ?_) AllReady.nil))
          · go_simp
            refine hK _ _ ?_
            clear hK K
            (try simp only [Act.put, List.setIfInBounds_toArray, List.set_cons_zero, List.set_cons_succ])
            refine wpAny_ready (rs := [4]) (by kernel_rfl) (by simp) ?_
            refine (AllReady.cons (o := { dst := some 24, op := Op.call { callee := Callee.value (Operand.func 88), args := #[Operand.tmp 21, Operand.tmp 23], argTypes := #[144, 3] }, type := 24, pos := "wire.go:53", after := #[{ on := 1, ground := Ground.data }, { on := 3, ground := Ground.data }, { on := 3, ground := Ground.chain }], guard := none }) rfl (fun K hK => ?_) AllReady.nil)
            go_simp
            refine (number_next w _ (gl + 1 + 1 + 1) A1 n1 c1 b1 (wd x) HD.out.rd (by have := HSH.out; have := HB1.out; omega) hw8.2 hc1).mono ?_
            rintro e w8 ⟨rfl, ⟨A2, c2, hc2, hrd⟩, hg8⟩
            have HT8 := Aside0.mk (HD.out.num hrd hg8)
            have hs8 : wr.heap.size ≤ w8.heap.size := hg8.size
            have z0 : w8.cell? ⟨gl, 0, none⟩ = some (.slice Al nl cl) := HT8.out.bl.cell
            clear hrd hg8
            refine hK _ _ ?_
            clear hK K
            (try simp only [Act.put, List.setIfInBounds_toArray, List.set_cons_zero, List.set_cons_succ])
            refine wpAny_ready (rs := [5]) (by kernel_rfl) (by simp) ?_
            refine (AllReady.cons (o := { dst := some 25, op := Op.buildSlice 92 1 #[(0, Operand.tmp 24)], type := 92, pos := "wire.go:53", after := #[{ on := 4, ground := Ground.data }], guard := none }) rfl (fun K hK => ?_) AllReady.nil)
            go_simp
            refine hK _ _ ?_
            clear hK K
            (try simp only [Act.put, List.setIfInBounds_toArray, List.set_cons_zero, List.set_cons_succ])
            refine wpAny_ready (rs := [6]) (by kernel_rfl) (by simp) ?_
            refine (AllReady.cons (o := { dst := some 26, op := Op.call { callee := Callee.builtin Builtin.append, args := #[Operand.tmp 20, Operand.tmp 25], argTypes := #[92, 92] }, type := 92, pos := "wire.go:53", after := #[{ on := 0, ground := Ground.data }, { on := 5, ground := Ground.data }, { on := 4, ground := Ground.chain }], guard := none }) rfl (fun K hK => ?_) AllReady.nil)
            refine app_u64_step w.heap.size (.tmp 20) (.tmp 25) (by rfl) rfl _ l (un (b1.take (wd x))) (wf_un _ (by rw [List.length_take]; omega)) rfl (by simp [Act.eval]) HT8.out.row (by omega) HNL.out ?_
            intro v9 w9 hR9 hg9
            obtain ⟨A9, n9, c9, rfl⟩ := ownU_open hR9
            have HT9 := Aside0.mk (HT8.out.put hR9 hg9)
            have z9 : w9.cell? ⟨gl, 0, none⟩ = some (.slice Al nl cl) := (HT8.out.bl.kept hg9 (Kd.R_ne HT8.out.row (show w8.heap[gl]? = _ from HT8.out.bl) (by decide))).cell
            have zf9 : w9.frozen? ⟨gl, 0, none⟩ = false := (HT8.out.bl.kept hg9 (Kd.R_ne HT8.out.row (show w8.heap[gl]? = _ from HT8.out.bl) (by decide))).frozen
            clear hR9 hg9
            refine hK _ _ ?_
            clear hK K
            (try simp only [Act.put, List.setIfInBounds_toArray, List.set_cons_zero, List.set_cons_succ])
            refine wpAny_ready (rs := [7]) (by kernel_rfl) (by simp) ?_
            refine (AllReady.cons (o := { dst := none, op := Op.store 92 (Operand.tmp 4) (Operand.tmp 26), type := 0, pos := "wire.go:53", after := #[{ on := 6, ground := Ground.data }, { on := 6, ground := Ground.chain }, { on := 0, ground := Ground.phase }, { on := 1, ground := Ground.phase }, { on := 2, ground := Ground.phase }, { on := 3, ground := Ground.phase }, { on := 4, ground := Ground.phase }, { on := 5, ground := Ground.phase }, { on := 6, ground := Ground.phase }], guard := none }) rfl (fun K hK => ?_) AllReady.nil)
            go_simp
            refine hK _ _ ?_
            clear hK K
            (try simp only [Act.put, List.setIfInBounds_toArray, List.set_cons_zero, List.set_cons_succ])
            refine wpAny_done (by kernel_rfl) ?_ _
            go_wp2
            go_roundg (gk - 1)
            case measure => have := HK.out; omega
            case rel => exact ⟨i + 1, _, l ++ [un (b1.take (wd x))], A2, n1 - wd x, c2, b1.drop (wd x), by congr 1, by omega, by omega, hc2, by rw [List.length_append]; have := HL1.out; simp; omega, ⟨by have := HK.out; omega⟩, ⟨by rw [List.length_append, HL1.out]; rfl⟩, HT9, ⟨by rw [← HTM.out]; exact HP.out⟩⟩
          · go_simp
            refine (number_next w _ (gl + 1 + 1 + 1) A1 n1 c1 b1 (wd x) HD.out.rd (by have := HSH.out; have := HB1.out; omega) hw8.2 hc1).mono ?_
            rintro e w8 ⟨rfl, ⟨A2, c2, hc2, hrd⟩, hg8⟩
            have HT8 := Aside0.mk (HD.out.num hrd hg8)
            have hs8 : wr.heap.size ≤ w8.heap.size := hg8.size
            have z0 : w8.cell? ⟨gl, 0, none⟩ = some (.slice Al nl cl) := HT8.out.bl.cell
            clear hrd hg8
            refine hK _ _ ?_
            clear hK K
            (try simp only [Act.put, List.setIfInBounds_toArray, List.set_cons_zero, List.set_cons_succ])
            refine wpAny_ready (rs := [0, 5]) (by kernel_rfl) (by simp) ?_
            refine (AllReady.cons (o := { dst := some 20, op := Op.load 92 (Operand.tmp 4), type := 92, pos := "wire.go:53", after := #[], guard := none }) rfl (fun K hK => ?_) (AllReady.cons (o := { dst := some 25, op := Op.buildSlice 92 1 #[(0, Operand.tmp 24)], type := 92, pos := "wire.go:53", after := #[{ on := 4, ground := Ground.data }], guard := none }) rfl (fun K hK => ?_) AllReady.nil))
            · go_simp
              refine hK _ _ ?_
              clear hK K
              (try simp only [Act.put, List.setIfInBounds_toArray, List.set_cons_zero, List.set_cons_succ])
              refine wpAny_ready (rs := [5]) (by kernel_rfl) (by simp) ?_
              refine (AllReady.cons (o := { dst := some 25, op := Op.buildSlice 92 1 #[(0, Operand.tmp 24)], type := 92, pos := "wire.go:53", after := #[{ on := 4, ground := Ground.data }], guard := none }) rfl (fun K hK => ?_) AllReady.nil)
              go_simp
              refine hK _ _ ?_
              clear hK K
              (try simp only [Act.put, List.setIfInBounds_toArray, List.set_cons_zero, List.set_cons_succ])
              refine wpAny_ready (rs := [6]) (by kernel_rfl) (by simp) ?_
              refine (AllReady.cons (o := { dst := some 26, op := Op.call { callee := Callee.builtin Builtin.append, args := #[Operand.tmp 20, Operand.tmp 25], argTypes := #[92, 92] }, type := 92, pos := "wire.go:53", after := #[{ on := 0, ground := Ground.data }, { on := 5, ground := Ground.data }, { on := 4, ground := Ground.chain }], guard := none }) rfl (fun K hK => ?_) AllReady.nil)
              refine app_u64_step w.heap.size (.tmp 20) (.tmp 25) (by rfl) rfl _ l (un (b1.take (wd x))) (wf_un _ (by rw [List.length_take]; omega)) rfl (by simp [Act.eval]) HT8.out.row (by omega) HNL.out ?_
              intro v9 w9 hR9 hg9
              obtain ⟨A9, n9, c9, rfl⟩ := ownU_open hR9
              have HT9 := Aside0.mk (HT8.out.put hR9 hg9)
              have z9 : w9.cell? ⟨gl, 0, none⟩ = some (.slice Al nl cl) := (HT8.out.bl.kept hg9 (Kd.R_ne HT8.out.row (show w8.heap[gl]? = _ from HT8.out.bl) (by decide))).cell
              have zf9 : w9.frozen? ⟨gl, 0, none⟩ = false := (HT8.out.bl.kept hg9 (Kd.R_ne HT8.out.row (show w8.heap[gl]? = _ from HT8.out.bl) (by decide))).frozen
              clear hR9 hg9
              refine hK _ _ ?_
              clear hK K
              (try simp only [Act.put, List.setIfInBounds_toArray, List.set_cons_zero, List.set_cons_succ])
              refine wpAny_ready (rs := [7]) (by kernel_rfl) (by simp) ?_
              refine (AllReady.cons (o := { dst := none, op := Op.store 92 (Operand.tmp 4) (Operand.tmp 26), type := 0, pos := "wire.go:53", after := #[{ on := 6, ground := Ground.data }, { on := 6, ground := Ground.chain }, { on := 0, ground := Ground.phase }, { on := 1, ground := Ground.phase }, { on := 2, ground := Ground.phase }, { on := 3, ground := Ground.phase }, { on := 4, ground := Ground.phase }, { on := 5, ground := Ground.phase }, { on := 6, ground := Ground.phase }], guard := none }) rfl (fun K hK => ?_) AllReady.nil)
              go_simp
              refine hK _ _ ?_
              clear hK K
              (try simp only [Act.put, List.setIfInBounds_toArray, List.set_cons_zero, List.set_cons_succ])
              refine wpAny_done (by kernel_rfl) ?_ _
              go_wp2
              go_roundg (gk - 1)
              case measure => have := HK.out; omega
              case rel => exact ⟨i + 1, _, l ++ [un (b1.take (wd x))], A2, n1 - wd x, c2, b1.drop (wd x), by congr 1, by omega, by omega, hc2, by rw [List.length_append]; have := HL1.out; simp; omega, ⟨by have := HK.out; omega⟩, ⟨by rw [List.length_append, HL1.out]; rfl⟩, HT9, ⟨by rw [← HTM.out]; exact HP.out⟩⟩
            · go_simp
              refine hK _ _ ?_
              clear hK K
              (try simp only [Act.put, List.setIfInBounds_toArray, List.set_cons_zero, List.set_cons_succ])
              have z0 := pw_cell_below (alloc_below w8 (.cells #[.int .u64 ((un (b1.take (wd x)) : Nat) : Int)] 24)) z0
              refine wpAny_ready (rs := [0]) (by kernel_rfl) (by simp) ?_
              refine (AllReady.cons (o := { dst := some 20, op := Op.load 92 (Operand.tmp 4), type := 92, pos := "wire.go:53", after := #[], guard := none }) rfl (fun K hK => ?_) AllReady.nil)
              go_simp
              refine hK _ _ ?_
              clear hK K
              (try simp only [Act.put, List.setIfInBounds_toArray, List.set_cons_zero, List.set_cons_succ])
              refine wpAny_ready (rs := [6]) (by kernel_rfl) (by simp) ?_
              refine (AllReady.cons (o := { dst := some 26, op := Op.call { callee := Callee.builtin Builtin.append, args := #[Operand.tmp 20, Operand.tmp 25], argTypes := #[92, 92] }, type := 92, pos := "wire.go:53", after := #[{ on := 0, ground := Ground.data }, { on := 5, ground := Ground.data }, { on := 4, ground := Ground.chain }], guard := none }) rfl (fun K hK => ?_) AllReady.nil)
              refine app_u64_step w.heap.size (.tmp 20) (.tmp 25) (by rfl) rfl _ l (un (b1.take (wd x))) (wf_un _ (by rw [List.length_take]; omega)) rfl (by simp [Act.eval]) HT8.out.row (by omega) HNL.out ?_
              intro v9 w9 hR9 hg9
              obtain ⟨A9, n9, c9, rfl⟩ := ownU_open hR9
              have HT9 := Aside0.mk (HT8.out.put hR9 hg9)
              have z9 : w9.cell? ⟨gl, 0, none⟩ = some (.slice Al nl cl) := (HT8.out.bl.kept hg9 (Kd.R_ne HT8.out.row (show w8.heap[gl]? = _ from HT8.out.bl) (by decide))).cell
              have zf9 : w9.frozen? ⟨gl, 0, none⟩ = false := (HT8.out.bl.kept hg9 (Kd.R_ne HT8.out.row (show w8.heap[gl]? = _ from HT8.out.bl) (by decide))).frozen
              clear hR9 hg9
              refine hK _ _ ?_
              clear hK K
              (try simp only [Act.put, List.setIfInBounds_toArray, List.set_cons_zero, List.set_cons_succ])
              refine wpAny_ready (rs := [7]) (by kernel_rfl) (by simp) ?_
              refine (AllReady.cons (o := { dst := none, op := Op.store 92 (Operand.tmp 4) (Operand.tmp 26), type := 0, pos := "wire.go:53", after := #[{ on := 6, ground := Ground.data }, { on := 6, ground := Ground.chain }, { on := 0, ground := Ground.phase }, { on := 1, ground := Ground.phase }, { on := 2, ground := Ground.phase }, { on := 3, ground := Ground.phase }, { on := 4, ground := Ground.phase }, { on := 5, ground := Ground.phase }, { on := 6, ground := Ground.phase }], guard := none }) rfl (fun K hK => ?_) AllReady.nil)
              go_simp
              refine hK _ _ ?_
              clear hK K
              (try simp only [Act.put, List.setIfInBounds_toArray, List.set_cons_zero, List.set_cons_succ])
              refine wpAny_done (by kernel_rfl) ?_ _
              go_wp2
              go_roundg (gk - 1)
              case measure => have := HK.out; omega
              case rel => exact ⟨i + 1, _, l ++ [un (b1.take (wd x))], A2, n1 - wd x, c2, b1.drop (wd x), by congr 1, by omega, by omega, hc2, by rw [List.length_append]; have := HL1.out; simp; omega, ⟨by have := HK.out; omega⟩, ⟨by rw [List.length_append, HL1.out]; rfl⟩, HT9, ⟨by rw [← HTM.out]; exact HP.out⟩⟩
    · obtain rfl : i = m := by omega
      obtain ⟨Al, nl, cl, rfl⟩ := ownU_open HR.out.row
      have hd0 : decide ((i : Int) < (i : Int)) = false := decide_eq_false (by omega)
      go_wp2
      have HRes := Aside0.mk (show take b ws = some (l, b1) by
        have h1 := HP.out
        rw [List.drop_of_length_le (by rw [HWL.out]; omega)] at h1
        rw [← h1]
        simp [take])
      have HD := Aside0.mk (HR.out.below (below_drew (Below.refl _ _)))
      have hbw : w.heap.size ≤ wr.heap.size := HR.out.rd.bel.size
      have z0 : wr.cell? ⟨gl, 0, none⟩ = some (.slice Al nl cl) := HR.out.bl.cell
      have zr : wr.cell? ⟨gl + 1 + 1 + 1, 0, none⟩ = some (.slice A1 n1 c1) := HR.out.rd.blk.cell
      have hglw : gl < wr.heap.size := (Array.getElem?_eq_some_iff.1 (show wr.heap[gl]? = _ from HR.out.bl)).1
      have HGW := Aside0.mk hglw
      clear hglw
      refine wp_region_any (by kernel_rfl) ?_
      rw [show ({ wr with drawn := wr.drawn + 1 } : World) = wr.drew from rfl]
      refine wpAny_take (i := 1) (oi := { dst := some 29, op := Op.move (Operand.tmp 7), type := 144, pos := "wire.go:55", after := #[], guard := none }) (v := ?_) rfl (by kernel_rfl) (by kernel_rfl) (by kernel_rfl) (fun _ _ _ h => take_put (by omega) h) (Or.inl ⟨by rfl, ?_⟩) ?_
      rotate_left
      · (intro w; go_simp; (try with_reducible rfl))
      (try simp only [Act.put, List.setIfInBounds_toArray, List.set_cons_zero, List.set_cons_succ])
      refine wpAny_take (i := 2) (oi := { dst := some 30, op := Op.nilCheck (Operand.tmp 29), type := 0, pos := "wire.go:55", after := #[{ on := 1, ground := Ground.data }], guard := none }) (v := ?_) rfl (by kernel_rfl) (by kernel_rfl) (by kernel_rfl) (fun _ _ _ h => take_put (by omega) h) (Or.inl ⟨by rfl, ?_⟩) ?_
      rotate_left
      · (intro w; go_simp; (try with_reducible rfl))
      (try simp only [Act.put, List.setIfInBounds_toArray, List.set_cons_zero, List.set_cons_succ])
      refine wpAny_take (i := 3) (oi := { dst := some 31, op := Op.fieldAddr 146 (Operand.tmp 30) 0, type := 0, pos := "wire.go:55", after := #[{ on := 2, ground := Ground.data }], guard := none }) (v := ?_) rfl (by kernel_rfl) (by kernel_rfl) (by kernel_rfl) (fun _ _ _ h => take_put (by omega) h) (Or.inl ⟨by rfl, ?_⟩) ?_
      rotate_left
      · (intro w; go_simp; (try with_reducible rfl))
      (try simp only [Act.put, List.setIfInBounds_toArray, List.set_cons_zero, List.set_cons_succ])
      refine wpAny_ready (rs := [0, 4]) (by kernel_rfl) (by simp) ?_
      refine (AllReady.cons (o := { dst := some 28, op := Op.load 92 (Operand.tmp 4), type := 92, pos := "wire.go:55", after := #[], guard := none }) rfl (fun K hK => ?_) (AllReady.cons (o := { dst := some 32, op := Op.load 39 (Operand.tmp 31), type := 39, pos := "wire.go:55", after := #[{ on := 3, ground := Ground.data }], guard := none }) rfl (fun K hK => ?_) AllReady.nil))
      · go_simp
        refine hK _ _ ?_
        clear hK K
        (try simp only [Act.put, List.setIfInBounds_toArray, List.set_cons_zero, List.set_cons_succ])
        refine wpAny_ready (rs := [4]) (by kernel_rfl) (by simp) ?_
        refine (AllReady.cons (o := { dst := some 32, op := Op.load 39 (Operand.tmp 31), type := 39, pos := "wire.go:55", after := #[{ on := 3, ground := Ground.data }], guard := none }) rfl (fun K hK => ?_) AllReady.nil)
        go_simp
        refine hK _ _ ?_
        clear hK K
        (try simp only [Act.put, List.setIfInBounds_toArray, List.set_cons_zero, List.set_cons_succ])
        refine wpAny_ready (rs := [5]) (by kernel_rfl) (by simp) ?_
        refine (AllReady.cons (o := { dst := some 33, op := Op.call { callee := Callee.value (Operand.func 64), args := #[Operand.tmp 32], argTypes := #[39] }, type := 39, pos := "wire.go:55", after := #[{ on := 4, ground := Ground.data }], guard := none }) rfl (fun K hK => ?_) AllReady.nil)
        go_simp
        refine (clone_calls A1 n1 c1 b1 (by omega) _ (Kd.C_below HD.out.rd.byt HD.out.rd.bel)).mono ?_
        rintro e w8 ⟨v8, rfl, hO8, hb8⟩
        obtain ⟨A8, n8, c8, rfl, -, -⟩ := hO8.reads
        have HT8 := Aside0.mk (HD.out.below hb8)
        have HO8 := Aside0.mk hO8
        have z0 : w8.cell? ⟨gl, 0, none⟩ = some (.slice Al nl cl) := HT8.out.bl.cell
        clear hO8 hb8
        refine hK _ _ ?_
        clear hK K
        (try simp only [Act.put, List.setIfInBounds_toArray, List.set_cons_zero, List.set_cons_succ])
        refine wpAny_ready (rs := [6]) (by kernel_rfl) (by simp) ?_
        refine (AllReady.cons (o := { dst := none, op := Op.store 92 (Operand.tmp 4) (Operand.tmp 28), type := 0, pos := "wire.go:55", after := #[{ on := 0, ground := Ground.data }, { on := 5, ground := Ground.chain }, { on := 0, ground := Ground.phase }, { on := 1, ground := Ground.textOnly Departure.lateStoresUnsure }, { on := 2, ground := Ground.textOnly Departure.lateStoresUnsure }, { on := 3, ground := Ground.textOnly Departure.lateStoresUnsure }, { on := 4, ground := Ground.textOnly Departure.lateStoresUnsure }, { on := 5, ground := Ground.textOnly Departure.lateStoresUnsure }], guard := none }) rfl (fun K hK => ?_) AllReady.nil)
        have zf0 : w8.frozen? ⟨gl, 0, none⟩ = false := HT8.out.bl.frozen
        go_simp
        refine hK _ _ ?_
        clear hK K
        (try simp only [Act.put, List.setIfInBounds_toArray, List.set_cons_zero, List.set_cons_succ])
        refine wpAny_ready (rs := [7]) (by kernel_rfl) (by simp) ?_
        refine (AllReady.cons (o := { dst := none, op := Op.store 39 (Operand.tmp 5) (Operand.tmp 33), type := 0, pos := "wire.go:55", after := #[{ on := 5, ground := Ground.data }, { on := 6, ground := Ground.chain }, { on := 0, ground := Ground.phase }, { on := 1, ground := Ground.phase }, { on := 2, ground := Ground.phase }, { on := 3, ground := Ground.phase }, { on := 4, ground := Ground.phase }, { on := 5, ground := Ground.phase }, { on := 6, ground := Ground.phase }], guard := none }) rfl (fun K hK => ?_) AllReady.nil)
        have HU := Aside0.mk (last_u HT8.out)
        have z1 := HU.out.1.cell
        have zf1 := HU.out.1.frozen
        go_simp
        refine hK _ _ ?_
        clear hK K
        (try simp only [Act.put, List.setIfInBounds_toArray, List.set_cons_zero, List.set_cons_succ])
        refine wpAny_ready (rs := [8]) (by kernel_rfl) (by simp) ?_
        refine (AllReady.cons (o := { dst := none, op := Op.store 4 (Operand.tmp 6) (Operand.const (Value.bool true)), type := 0, pos := "wire.go:55", after := #[{ on := 7, ground := Ground.chain }, { on := 0, ground := Ground.phase }, { on := 1, ground := Ground.phase }, { on := 2, ground := Ground.phase }, { on := 3, ground := Ground.phase }, { on := 4, ground := Ground.phase }, { on := 5, ground := Ground.phase }, { on := 6, ground := Ground.phase }, { on := 7, ground := Ground.phase }], guard := none }) rfl (fun K hK => ?_) AllReady.nil)
        have HU2 := Aside0.mk (last_u2 HT8.out (.slice A8 n8 c8))
        have z2 := HU2.out.cell
        have zf2 := HU2.out.frozen
        go_simp
        refine hK _ _ ?_
        clear hK K
        (try simp only [Act.put, List.setIfInBounds_toArray, List.set_cons_zero, List.set_cons_succ])
        refine wpAny_done (by kernel_rfl) ?_ _
        go_wp2
        exact door_ret w w8 _ gl _ l A1 n1 c1 b1 b1 _ HT8.out (own_lower HO8.out hbw) HRes.out _ rfl rfl rfl
      · go_simp
        refine hK _ _ ?_
        clear hK K
        (try simp only [Act.put, List.setIfInBounds_toArray, List.set_cons_zero, List.set_cons_succ])
        refine wpAny_ready (rs := [0, 5]) (by kernel_rfl) (by simp) ?_
        refine (AllReady.cons (o := { dst := some 28, op := Op.load 92 (Operand.tmp 4), type := 92, pos := "wire.go:55", after := #[], guard := none }) rfl (fun K hK => ?_) (AllReady.cons (o := { dst := some 33, op := Op.call { callee := Callee.value (Operand.func 64), args := #[Operand.tmp 32], argTypes := #[39] }, type := 39, pos := "wire.go:55", after := #[{ on := 4, ground := Ground.data }], guard := none }) rfl (fun K hK => ?_) AllReady.nil))
        · go_simp
          refine hK _ _ ?_
          clear hK K
          (try simp only [Act.put, List.setIfInBounds_toArray, List.set_cons_zero, List.set_cons_succ])
          refine wpAny_ready (rs := [5]) (by kernel_rfl) (by simp) ?_
          refine (AllReady.cons (o := { dst := some 33, op := Op.call { callee := Callee.value (Operand.func 64), args := #[Operand.tmp 32], argTypes := #[39] }, type := 39, pos := "wire.go:55", after := #[{ on := 4, ground := Ground.data }], guard := none }) rfl (fun K hK => ?_) AllReady.nil)
          go_simp
          refine (clone_calls A1 n1 c1 b1 (by omega) _ (Kd.C_below HD.out.rd.byt HD.out.rd.bel)).mono ?_
          rintro e w8 ⟨v8, rfl, hO8, hb8⟩
          obtain ⟨A8, n8, c8, rfl, -, -⟩ := hO8.reads
          have HT8 := Aside0.mk (HD.out.below hb8)
          have HO8 := Aside0.mk hO8
          have z0 : w8.cell? ⟨gl, 0, none⟩ = some (.slice Al nl cl) := HT8.out.bl.cell
          clear hO8 hb8
          refine hK _ _ ?_
          clear hK K
          (try simp only [Act.put, List.setIfInBounds_toArray, List.set_cons_zero, List.set_cons_succ])
          refine wpAny_ready (rs := [6]) (by kernel_rfl) (by simp) ?_
          refine (AllReady.cons (o := { dst := none, op := Op.store 92 (Operand.tmp 4) (Operand.tmp 28), type := 0, pos := "wire.go:55", after := #[{ on := 0, ground := Ground.data }, { on := 5, ground := Ground.chain }, { on := 0, ground := Ground.phase }, { on := 1, ground := Ground.textOnly Departure.lateStoresUnsure }, { on := 2, ground := Ground.textOnly Departure.lateStoresUnsure }, { on := 3, ground := Ground.textOnly Departure.lateStoresUnsure }, { on := 4, ground := Ground.textOnly Departure.lateStoresUnsure }, { on := 5, ground := Ground.textOnly Departure.lateStoresUnsure }], guard := none }) rfl (fun K hK => ?_) AllReady.nil)
          have zf0 : w8.frozen? ⟨gl, 0, none⟩ = false := HT8.out.bl.frozen
          go_simp
          refine hK _ _ ?_
          clear hK K
          (try simp only [Act.put, List.setIfInBounds_toArray, List.set_cons_zero, List.set_cons_succ])
          refine wpAny_ready (rs := [7]) (by kernel_rfl) (by simp) ?_
          refine (AllReady.cons (o := { dst := none, op := Op.store 39 (Operand.tmp 5) (Operand.tmp 33), type := 0, pos := "wire.go:55", after := #[{ on := 5, ground := Ground.data }, { on := 6, ground := Ground.chain }, { on := 0, ground := Ground.phase }, { on := 1, ground := Ground.phase }, { on := 2, ground := Ground.phase }, { on := 3, ground := Ground.phase }, { on := 4, ground := Ground.phase }, { on := 5, ground := Ground.phase }, { on := 6, ground := Ground.phase }], guard := none }) rfl (fun K hK => ?_) AllReady.nil)
          have HU := Aside0.mk (last_u HT8.out)
          have z1 := HU.out.1.cell
          have zf1 := HU.out.1.frozen
          go_simp
          refine hK _ _ ?_
          clear hK K
          (try simp only [Act.put, List.setIfInBounds_toArray, List.set_cons_zero, List.set_cons_succ])
          refine wpAny_ready (rs := [8]) (by kernel_rfl) (by simp) ?_
          refine (AllReady.cons (o := { dst := none, op := Op.store 4 (Operand.tmp 6) (Operand.const (Value.bool true)), type := 0, pos := "wire.go:55", after := #[{ on := 7, ground := Ground.chain }, { on := 0, ground := Ground.phase }, { on := 1, ground := Ground.phase }, { on := 2, ground := Ground.phase }, { on := 3, ground := Ground.phase }, { on := 4, ground := Ground.phase }, { on := 5, ground := Ground.phase }, { on := 6, ground := Ground.phase }, { on := 7, ground := Ground.phase }], guard := none }) rfl (fun K hK => ?_) AllReady.nil)
          have HU2 := Aside0.mk (last_u2 HT8.out (.slice A8 n8 c8))
          have z2 := HU2.out.cell
          have zf2 := HU2.out.frozen
          go_simp
          refine hK _ _ ?_
          clear hK K
          (try simp only [Act.put, List.setIfInBounds_toArray, List.set_cons_zero, List.set_cons_succ])
          refine wpAny_done (by kernel_rfl) ?_ _
          go_wp2
          exact door_ret w w8 _ gl _ l A1 n1 c1 b1 b1 _ HT8.out (own_lower HO8.out hbw) HRes.out _ rfl rfl rfl
        · go_simp
          refine (clone_calls A1 n1 c1 b1 (by omega) _ (Kd.C_below HD.out.rd.byt HD.out.rd.bel)).mono ?_
          rintro e w8 ⟨v8, rfl, hO8, hb8⟩
          obtain ⟨A8, n8, c8, rfl, -, -⟩ := hO8.reads
          have HT8 := Aside0.mk (HD.out.below hb8)
          have HO8 := Aside0.mk hO8
          have z0 : w8.cell? ⟨gl, 0, none⟩ = some (.slice Al nl cl) := HT8.out.bl.cell
          clear hO8 hb8
          refine hK _ _ ?_
          clear hK K
          (try simp only [Act.put, List.setIfInBounds_toArray, List.set_cons_zero, List.set_cons_succ])
          refine wpAny_ready (rs := [0]) (by kernel_rfl) (by simp) ?_
          refine (AllReady.cons (o := { dst := some 28, op := Op.load 92 (Operand.tmp 4), type := 92, pos := "wire.go:55", after := #[], guard := none }) rfl (fun K hK => ?_) AllReady.nil)
          go_simp
          refine hK _ _ ?_
          clear hK K
          (try simp only [Act.put, List.setIfInBounds_toArray, List.set_cons_zero, List.set_cons_succ])
          refine wpAny_ready (rs := [6]) (by kernel_rfl) (by simp) ?_
          refine (AllReady.cons (o := { dst := none, op := Op.store 92 (Operand.tmp 4) (Operand.tmp 28), type := 0, pos := "wire.go:55", after := #[{ on := 0, ground := Ground.data }, { on := 5, ground := Ground.chain }, { on := 0, ground := Ground.phase }, { on := 1, ground := Ground.textOnly Departure.lateStoresUnsure }, { on := 2, ground := Ground.textOnly Departure.lateStoresUnsure }, { on := 3, ground := Ground.textOnly Departure.lateStoresUnsure }, { on := 4, ground := Ground.textOnly Departure.lateStoresUnsure }, { on := 5, ground := Ground.textOnly Departure.lateStoresUnsure }], guard := none }) rfl (fun K hK => ?_) AllReady.nil)
          have zf0 : w8.frozen? ⟨gl, 0, none⟩ = false := HT8.out.bl.frozen
          go_simp
          refine hK _ _ ?_
          clear hK K
          (try simp only [Act.put, List.setIfInBounds_toArray, List.set_cons_zero, List.set_cons_succ])
          refine wpAny_ready (rs := [7]) (by kernel_rfl) (by simp) ?_
          refine (AllReady.cons (o := { dst := none, op := Op.store 39 (Operand.tmp 5) (Operand.tmp 33), type := 0, pos := "wire.go:55", after := #[{ on := 5, ground := Ground.data }, { on := 6, ground := Ground.chain }, { on := 0, ground := Ground.phase }, { on := 1, ground := Ground.phase }, { on := 2, ground := Ground.phase }, { on := 3, ground := Ground.phase }, { on := 4, ground := Ground.phase }, { on := 5, ground := Ground.phase }, { on := 6, ground := Ground.phase }], guard := none }) rfl (fun K hK => ?_) AllReady.nil)
          have HU := Aside0.mk (last_u HT8.out)
          have z1 := HU.out.1.cell
          have zf1 := HU.out.1.frozen
          go_simp
          refine hK _ _ ?_
          clear hK K
          (try simp only [Act.put, List.setIfInBounds_toArray, List.set_cons_zero, List.set_cons_succ])
          refine wpAny_ready (rs := [8]) (by kernel_rfl) (by simp) ?_
          refine (AllReady.cons (o := { dst := none, op := Op.store 4 (Operand.tmp 6) (Operand.const (Value.bool true)), type := 0, pos := "wire.go:55", after := #[{ on := 7, ground := Ground.chain }, { on := 0, ground := Ground.phase }, { on := 1, ground := Ground.phase }, { on := 2, ground := Ground.phase }, { on := 3, ground := Ground.phase }, { on := 4, ground := Ground.phase }, { on := 5, ground := Ground.phase }, { on := 6, ground := Ground.phase }, { on := 7, ground := Ground.phase }], guard := none }) rfl (fun K hK => ?_) AllReady.nil)
          have HU2 := Aside0.mk (last_u2 HT8.out (.slice A8 n8 c8))
          have z2 := HU2.out.cell
          have zf2 := HU2.out.frozen
          go_simp
          refine hK _ _ ?_
          clear hK K
          (try simp only [Act.put, List.setIfInBounds_toArray, List.set_cons_zero, List.set_cons_succ])
          refine wpAny_done (by kernel_rfl) ?_ _
          go_wp2
          exact door_ret w w8 _ gl _ l A1 n1 c1 b1 b1 _ HT8.out (own_lower HO8.out hbw) HRes.out _ rfl rfl rfl
end Go.Proofs.Ytkmeipblgdahoaa.Rc
namespace Go.Proofs.Ytkmeipblgdahoaa.Rc
open Go.RowKit Go.Proofs.YtkmeipblgdahoaaW.PrintWords Go.Proofs.YtkmeipblgdahoaaW.PrintMore Go.Proofs.Ytkmeipblgdahoaa.Base
set_option maxRecDepth 100000
set_option linter.unusedVariables false
set_option linter.unusedSimpArgs false
theorem ownU_cells {w : World} {b : Nat} {v : Value} {xs : List Nat} (h : OwnU w b v xs) (hp : 0 < xs.length) :
    ∃ g c, v = .slice (some ⟨g, 0, none⟩) xs.length c ∧ b ≤ g ∧ g < w.heap.size ∧ ∀ i, i < xs.length → w.cell? ⟨g, i, none⟩ = some (.int .u64 ((xs.getD i 0 : Nat) : Int)) := by
  obtain ⟨g, c, rfl, hb, hg, -⟩ := Kd.R_form h hp
  obtain ⟨A, c', he, -, hC⟩ := Kd.R_reads h
  simp only [Value.slice.injEq] at he
  obtain ⟨rfl, -, rfl⟩ := he
  refine ⟨g, c, rfl, hb, hg, fun i hi => ?_⟩
  obtain ⟨ad, hA, hc, -⟩ := nat_at hC i hi
  injection hA with hA
  subst hA
  rwa [add_plain] at hc
theorem own_form {w : World} {b : Nat} {v : Value} {xs : List UInt8} (h : Base.Own w b v xs) (hp : 0 < xs.length) :
    ∃ g c, v = .slice (some ⟨g, 0, none⟩) xs.length c ∧ b ≤ g ∧ g < w.heap.size ∧ xs.length ≤ c ∧ c ≤ 9223372036854775807 := by
  obtain ⟨g, c, rfl, hb, hg, -⟩ := Kd.R_form h hp
  obtain ⟨A, c', he, hc, hC⟩ := Kd.R_reads h
  simp only [Value.slice.injEq] at he
  obtain ⟨rfl, -, rfl⟩ := he
  exact ⟨g, c, rfl, hb, hg, hc, own_cap h⟩
theorem wrap_u32_in {x : Int} (h0 : 0 ≤ x) (h1 : x < 4294967296) : IntKind.u32.wrap x = x := by
  have e : IntKind.u32.wrap x = x % 4294967296 := by simp [IntKind.wrap, IntKind.signed, IntKind.bits]
  rw [e]; omega
theorem blk_old {W W' : World} {o : Obj} {k : Nat} (hb : Below W.heap.size W W') (h : W.heap[k]? = some o) : W'.heap[k]? = some o := (hb.block k (Array.getElem?_eq_some_iff.1 h).1).trans h
theorem take_len : ∀ (ws : List Int) (b : List UInt8) (l : List Nat) (r : List UInt8), take b ws = some (l, r) → l.length = ws.length ∧ (ws.map wd).sum + r.length = b.length
  | [], b, l, r, h => by simp [take] at h; obtain ⟨rfl, rfl⟩ := h; simp
  | w :: ws, b, l, r, h => by
    unfold take at h
    split at h
    · cases h
    · rename_i hw
      obtain ⟨p, hp, he⟩ := Option.map_eq_some_iff.1 h
      simp only [Prod.mk.injEq] at he
      obtain ⟨rfl, rfl⟩ := he
      obtain ⟨h1, h2⟩ := take_len ws _ _ _ hp
      rw [List.length_drop] at h2
      exact ⟨by simp [h1], by simp only [List.map_cons, List.sum_cons]; omega⟩
theorem take_none {ws : List Int} {b : List UInt8} (h : b.length < (ws.map wd).sum) : take b ws = none := by
  cases hh : take b ws with
  | none => rfl
  | some p =>
    obtain ⟨l, r⟩ := p
    have := (take_len ws b l r hh).2
    omega
end Go.Proofs.Ytkmeipblgdahoaa.Rc
namespace Go.Proofs.Ytkmeipblgdahoaa.Ck
open Go.RowKit Go.Proofs.YtkmeipblgdahoaaW.PrintWords Go.Proofs.YtkmeipblgdahoaaW.PrintMore Go.Proofs.Ytkmeipblgdahoaa.Base Go.Proofs.Ytkmeipblgdahoaa.Rc
set_option maxRecDepth 100000
set_option linter.unusedVariables false
set_option linter.unusedSimpArgs false
theorem must_yes (w : World) : Calls Try.prog 45 #[.bool true] w fun e w' => e = .returned (.tuple #[]) ∧ w = w' := by
  go_enter Try.func45, Try.ntmps45
  go_wp2
  go_end0
  exact ⟨rfl, rfl⟩
theorem must_no (w : World) : Calls Try.prog 45 #[.bool false] w fun e w' => (∃ u pv, e = .panicked [{ v := .iface u pv, recovered := false }]) ∧ w = w' := by
  go_enter Try.func45, Try.ntmps45
  go_wp2
  exact ⟨rfl, ⟨_, _, rfl⟩, rfl⟩
theorem take_headC (b : List UInt8) (h : 26 ≤ b.length) : take b [4, 4, 4, 4, 8, 2] = some ([un (b.take 4), un ((b.drop 4).take 4), un ((b.drop 8).take 4), un ((b.drop 12).take 4), seqC b, ctC b], b.drop 26) := by
  have w4 : wd 4 = 4 := rfl
  have w8 : wd 8 = 8 := rfl
  have w2 : wd 2 = 2 := rfl
  simp only [take, w4, w8, w2, List.length_drop, List.drop_drop]
  rw [if_neg (by omega), if_neg (by omega), if_neg (by omega), if_neg (by omega), if_neg (by omega), if_neg (by omega)]
  rfl
theorem take_plc (r : List UInt8) (h : 16 ≤ r.length) : take r [4, 8, 2, 2] = some ([un (r.take 4), un ((r.drop 4).take 8), un ((r.drop 12).take 2), un ((r.drop 14).take 2)], r.drop 16) := by
  have w4 : wd 4 = 4 := rfl
  have w8 : wd 8 = 8 := rfl
  have w2 : wd 2 = 2 := rfl
  simp only [take, w4, w8, w2, List.length_drop, List.drop_drop]
  rw [if_neg (by omega), if_neg (by omega), if_neg (by omega), if_neg (by omega)]
  rfl
theorem un2_lt (l : List UInt8) : un (l.take 2) < 65536 := by
  have h : un (l.take 2) < 256 ^ 2 := Nat.lt_of_lt_of_le (un_lt _) (Nat.pow_le_pow_right (by omega) (by rw [List.length_take]; omega))
  exact h
theorem un4_lt (l : List UInt8) : un (l.take 4) < 4294967296 := by
  have h : un (l.take 4) < 256 ^ 4 := Nat.lt_of_lt_of_le (un_lt _) (Nat.pow_le_pow_right (by omega) (by rw [List.length_take]; omega))
  exact h
theorem un8_lt (l : List UInt8) : un (l.take 8) < 18446744073709551616 := by
  have h : un (l.take 8) < 256 ^ 8 := Nat.lt_of_lt_of_le (un_lt _) (Nat.pow_le_pow_right (by omega) (by rw [List.length_take]; omega))
  exact h
/-- A row of places of the call's own. -/
def OwnP (w : World) (base : Nat) (v : Value) (xs : List Plc) : Prop := plK.R 88 w base anyB v xs
theorem info_plcs : (Try.prog.info? 88).map (fun i => (i.zero, i.size, i.bytes)) = some (some (.agg #[.int .u32 0, .int .u64 0, .int .i64 0, .int .i64 0]), 4, 32) := by kernel_rfl
theorem plK_M {w : World} {base : Nat} {ok : Nat → Prop} {x : Plc} (h : PlcOk x) (h3 : I64 x.2.2.1) (h4 : I64 x.2.2.2) : plK.M w base ok x (plV x).toList := plK_mk (w := w) h h3 h4
section
variable {ops : Array Oper} {o : Oper} {a : Act} {Q : Exit → Act → World → Prop} {Kc : Act → World → Prop}
/-- append(v, x) in a region that draws: a place. -/
theorem app_plc_step {W : World} (base : Nat) (s x : Operand) (hw : Region.wanted o (yielded ops a.tmps) = true) (ho : o.op = .call { callee := .builtin .append, args := #[s, x], argTypes := #[25, 25] })
    (v : Value) (xs : List Plc) (p : Plc) (hp : PlcOk p) (h3 : I64 p.2.2.1) (h4 : I64 p.2.2.2) (hs : a.eval s = v) (hx : a.eval x = .slice (some ⟨W.heap.size, 0, none⟩) 1 1)
    (HO : OwnP W base v xs) (hbase : base ≤ W.heap.size) (hl : xs.length ≤ 100000)
    (h : ∀ v1 w1, OwnP w1 base v1 (xs ++ [p]) → W.grownBy w1 v.ownBlock → Kc (a.put o.dst v1) w1) :
    if Region.wanted o (yielded ops a.tmps) = true then Oper.wp Try.prog o a (W.alloc (.cells (plV p) 88)) Kc Q else Kc (a.put o.dst undef) (W.alloc (.cells (plV p) 88)) :=
  Kd.R_append_step plK (w0 := W) base hw s x 25 88 _ 32 ho Try.underlying25 info_plcs (by decide) (by decide) (by decide) v xs p (plV p).toList anyB (fun _ => False) hs hx (plK_M hp h3 h4) (fun _ h => h.elim) (fun _ _ => trivial) HO (Below.refl _ _) hbase (by omega) (fun v1 w1 h1 _ h3 _ => h v1 w1 h1 h3)
end
theorem grown_cell {w w1 : World} {row : Option Nat} {p : Addr} {u : Value} (hg : w.grownBy w1 row) (hne : some p.block ≠ row) (h : w.cell? p = some u) : w1.cell? p = some u :=
  (World.cell?_of_block (hg.block p.block (World.block_lt_of_cell? w p h) hne)).trans h
def PlcsP (w : World) (b : List UInt8) (e : Ending) (w' : World) : Prop :=
  Below w.heap.size w w' ∧ ((∃ q l v, places b = some (q, l) ∧ e = .returned (.tuple #[.int .u64 (q : Int), v]) ∧ OwnP w' w.heap.size v l) ∨ (places b = none ∧ ∃ u pv, e = .panicked [{ v := .iface u pv, recovered := false }]))
theorem plcs_no {w w' : World} {b : List UInt8} (hb : Below w.heap.size w w') (hn : places b = none) (u : TypeId) (pv : Value) : PlcsP w b (.panicked [{ v := .iface u pv, recovered := false }]) w' := ⟨hb, .inr ⟨hn, u, pv, rfl⟩⟩
set_option maxHeartbeats 4000000 in
theorem places_calls (A : Option Addr) (n c : Nat) (b : List UInt8) (w : World) (h : byte.C w A n b) (hnc : n ≤ c) (hn : n ≤ 100000) :
    Calls Try.prog 44 #[.slice A n c] w (PlcsP w b) := by
  obtain ⟨hl, hm⟩ := C_len h
  have HL := Aside0.mk hl
  have HC := Aside0.mk h
  clear h hl
  go_enter Try.func44, Try.ntmps44
  go_wp2_with fail
  refine (take_callsU A n c b _ 6 6 [4, 4, 4, 4, 8, 2] _ (Kd.C_below HC.out (alloc_below _ _)) hnc (by omega) (wid_lit w [4, 4, 4, 4, 8, 2] _ rfl (by decide) (by decide)) (by omega)).mono ?_
  by_cases h26 : n < 26
  · rw [take_none (by rw [HL.out]; exact h26)]
    rintro e w3 ⟨hb3, rfl⟩
    have HB3 := Aside0.mk (below_go (alloc_below w _) hb3)
    have HNO := Aside0.mk (show places b = none by unfold places; rw [if_pos (.inr (by rw [HL.out]; exact h26))])
    clear hb3 h26
    go_wp2_with fail
    refine (must_no _).mono ?_
    rintro e w2 ⟨⟨u, pv, rfl⟩, rfl⟩
    exact ⟨rfl, plcs_no HB3.out HNO.out u pv⟩
  rw [take_headC b (by rw [HL.out]; omega)]
  rintro e w3 ⟨hb3, vl, vr, rfl, hU, hO⟩
  have HB3 := Aside0.mk (below_go (alloc_below w _) hb3)
  obtain ⟨gl, cl, rfl, hgl, hglt, hcell⟩ := ownU_cells hU (by simp)
  have l4 := hcell 4 (by simp)
  have l5 := hcell 5 (by simp)
  simp only [List.getD_cons_zero, List.getD_cons_succ, List.length_cons, List.length_nil] at l4 l5 ⊢
  obtain ⟨sq, hsq⟩ : ∃ x, seqC b = x := ⟨_, rfl⟩
  obtain ⟨ct, hct⟩ : ∃ x, ctC b = x := ⟨_, rfl⟩
  rw [hsq] at l4
  rw [hct] at l5
  have hct16 : ct < 65536 := by rw [← hct]; exact un2_lt _
  have HSQ := Aside0.mk hsq
  have HCT := Aside0.mk hct
  have HO3 := Aside0.mk (show Base.Own w3 w.heap.size vr (b.drop 26) from Kd.R_lower hO (alloc_below w _).size)
  have HL4 := Aside0.mk l4
  clear hb3 hU hO hgl hglt hcell hsq hct
  go_wp2_with fail
  refine (must_yes _).mono ?_
  rintro e w4 ⟨rfl, rfl⟩
  go_wp2
  clear l4 l5
  go_loopg [5, 7, 23] ct (fun g1 v5 v7 v23 wr => ∃ i : Nat, v23 = .int .u64 (i : Int) ∧ i ≤ ct ∧ Aside0 (g1 + i = ct) ∧ Aside0 (26 + 16 * i ≤ n) ∧ Aside0 (Base.Own wr w.heap.size v5 (b.drop (26 + 16 * i))) ∧ Aside0 (OwnP wr w3.heap.size v7 (plsOf i (b.drop 26))) ∧ Aside0 (Below w.heap.size w wr) ∧ Aside0 (Below w3.heap.size w3 wr))
  case atStart => exact ⟨0, rfl, Nat.zero_le _, ⟨rfl⟩, ⟨by omega⟩, HO3, ⟨Kd.R_nil _ _ _ _ _⟩, HB3, ⟨Below.refl _ _⟩⟩
  case round =>
    obtain ⟨i, rfl, hi, HK, HI, HR, HP, HB, HB0⟩ := hrel
    by_cases hlt : i < ct
    · obtain ⟨Ao, co, rfl⟩ := Kd.R_slice HP.out
      obtain ⟨no, hno⟩ : ∃ no, (plsOf i (b.drop 26)).length = no := ⟨_, rfl⟩
      rw [hno] at HP ⊢
      have HNO0 := Aside0.mk hno
      clear hno
      have hd0 : decide ((i : Int) < (ct : Int)) = true := decide_eq_true (by omega)
      have hd0' : decide (i < ct) = true := decide_eq_true hlt
      obtain ⟨rr, hrr⟩ : ∃ rr, b.drop (26 + 16 * i) = rr := ⟨_, rfl⟩
      rw [hrr] at HR
      have HRR := Aside0.mk hrr
      obtain ⟨nr, hnr⟩ : ∃ nr, rr.length = nr := ⟨_, rfl⟩
      have hnr2 : nr = n - (26 + 16 * i) := by rw [← hnr, ← hrr, List.length_drop, HL.out]
      obtain ⟨Ar, nr', cr, rfl, hcr, hCr⟩ := HR.out.reads
      obtain rfl : nr' = nr := by rw [← hnr]; exact (C_len hCr).1.symm
      have HCR := Aside0.mk hCr
      have HNR := Aside0.mk hnr
      have HN2 := Aside0.mk hnr2
      clear hrr hCr hnr hnr2
      go_wp2_with fail
      refine (take_callsU Ar nr' cr rr _ 4 4 [4, 8, 2, 2] _ (Kd.C_below HCR.out (alloc_below _ _)) hcr (by have := HN2.out; omega) (wid_lit wr [4, 8, 2, 2] _ rfl (by decide) (by decide)) (by omega)).mono ?_
      by_cases h16 : nr' < 16
      · rw [take_none (by rw [HNR.out]; exact h16)]
        rintro e w5 ⟨hb5, rfl⟩
        have HB5 := Aside0.mk (below_go HB.out (below_go (alloc_below _ _) hb5))
        have HNO := Aside0.mk (show places b = none by
          have h1 := HN2.out
          have h2 := HI.out
          unfold places
          rw [if_pos (.inl (by rw [HL.out, HCT.out]; omega))])
        clear hb5 h16
        go_wp2_with fail
        refine (must_no _).mono ?_
        rintro e w6 ⟨⟨u, pv, rfl⟩, rfl⟩
        exact ⟨rfl, plcs_no HB5.out HNO.out u pv⟩
      rw [take_plc rr (by rw [HNR.out]; omega)]
      rintro e w5 ⟨hb5, vl5, vr5, rfl, hU5, hO5⟩
      have hb5w := below_go (alloc_below wr _) hb5
      have HB5 := Aside0.mk (below_go HB.out hb5w)
      have HB05 := Aside0.mk (below_go HB0.out hb5w)
      have HP5 := Aside0.mk (show OwnP w5 w3.heap.size (.slice Ao no co) (plsOf i (b.drop 26)) from Kd.R_below HP.out hb5w)
      have HO5 := Aside0.mk (show Base.Own w5 w.heap.size vr5 (rr.drop 16) from Kd.R_lower hO5 (below_alloc HB.out _).size)
      obtain ⟨gv, cv, rfl, hgv, hgvt, hcell⟩ := ownU_cells hU5 (by simp)
      have l0 := hcell 0 (by simp)
      have l1 := hcell 1 (by simp)
      have l2 := hcell 2 (by simp)
      have l3 := hcell 3 (by simp)
      simp only [List.getD_cons_zero, List.getD_cons_succ, List.length_cons, List.length_nil] at l0 l1 l2 l3 ⊢
      obtain ⟨x1, hx1⟩ : ∃ x, un (rr.take 4) = x := ⟨_, rfl⟩
      obtain ⟨x2, hx2⟩ : ∃ x, un ((rr.drop 4).take 8) = x := ⟨_, rfl⟩
      obtain ⟨x3, hx3⟩ : ∃ x, un ((rr.drop 12).take 2) = x := ⟨_, rfl⟩
      obtain ⟨x4, hx4⟩ : ∃ x, un ((rr.drop 14).take 2) = x := ⟨_, rfl⟩
      rw [hx1] at l0
      rw [hx2] at l1
      rw [hx3] at l2
      rw [hx4] at l3
      have b1 : x1 < 4294967296 := by rw [← hx1]; exact un4_lt _
      have b2 : x2 < 18446744073709551616 := by rw [← hx2]; exact un8_lt _
      have b3 : x3 < 65536 := by rw [← hx3]; exact un2_lt _
      have b4 : x4 < 65536 := by rw [← hx4]; exact un2_lt _
      have HPL := Aside0.mk (show plAt rr = (x1, x2, (x3 : Int), (x4 : Int)) by unfold plAt; rw [hx1, hx2, hx3, hx4])
      have hw1 : IntKind.u32.wrap (x1 : Int) = (x1 : Int) := wrap_u32_in (by omega) (by omega)
      have hw3 : IntKind.i64.wrap (x3 : Int) = (x3 : Int) := IntWalk.i64_in _ (by omega)
      have hw4 : IntKind.i64.wrap (x4 : Int) = (x4 : Int) := IntWalk.i64_in _ (by omega)
      have HNE := Aside0.mk (show some gv ≠ (Value.slice Ao no co).ownBlock by
        obtain ⟨cells, hcs⟩ := Kd.R_typed hU5 gv rfl
        exact Kd.R_ne HP5.out hcs (by decide))
      have H16 := Aside0.mk h16
      clear hb5 hb5w hU5 hO5 hcell hgv hx1 hx2 hx3 hx4 h16 hgvt
      go_wp2_with fail
      refine (must_yes _).mono ?_
      rintro e w6 ⟨rfl, rfl⟩
      go_wp2
      have HPD := Aside0.mk (show OwnP w5.drew w3.heap.size (.slice Ao no co) (plsOf i (b.drop 26)) from Kd.R_below HP5.out (below_drew (Below.refl _ _)))
      have HPN := Aside0.mk (show (plsOf i (b.drop 26)).length ≤ 100000 by rw [plsOf_len]; have := HI.out; omega)
      have HSZ := Aside0.mk (show w3.heap.size ≤ w5.drew.heap.size from HB05.out.size)
      go_region_held3 (fun w' => w'.cell? ⟨gv, 0, none⟩ = some (.int .u64 (x1 : Int)) ∧ w'.cell? ⟨gv, 1, none⟩ = some (.int .u64 (x2 : Int)) ∧ w'.cell? ⟨gv, 2, none⟩ = some (.int .u64 (x3 : Int)) ∧ w'.cell? ⟨gv, 3, none⟩ = some (.int .u64 (x4 : Int)))
        (first | exact ⟨l0, l1, l2, l3⟩ | exact ⟨pw_cell_below (alloc_below _ _) l0, pw_cell_below (alloc_below _ _) l1, pw_cell_below (alloc_below _ _) l2, pw_cell_below (alloc_below _ _) l3⟩ | exact ⟨grown_cell hg9 HNE.out l0, grown_cell hg9 HNE.out l1, grown_cell hg9 HNE.out l2, grown_cell hg9 HNE.out l3⟩)
        (first | (refine app_plc_step w3.heap.size (.tmp 34) (.tmp 52) (by rfl) rfl (.slice Ao no co) (plsOf i (b.drop 26)) (x1, x2, (x3 : Int), (x4 : Int)) ⟨b1, b2⟩ (by unfold I64; dsimp only; omega) (by unfold I64; dsimp only; omega) rfl (by simp [Act.eval]) HPD.out HSZ.out HPN.out ?_; intro v9 w9 hP9 hg9))
      have HB9 := Aside0.mk (show Below w3.heap.size w3 w9 from (below_drew HB05.out).grown hg9 HB05.out.size (fun k hk => Kd.R_base HPD.out k hk))
      have HO9 := Aside0.mk (show Base.Own w9 w.heap.size vr5 (rr.drop 16) from Kd.R_over (Kd.R_below HO5.out (below_drew (Below.refl _ _))) HPD.out (by intro q hq; rw [List.mem_singleton.1 hq]; decide) hg9)
      have HP9 := Aside0.mk hP9
      clear hP9 hg9 l0 l1 l2 l3 hw1 hw3 hw4
      go_wp2
      go_roundg (gk - 1)
      case measure => have := HK.out; omega
      case rel =>
        refine ⟨i + 1, by congr 1, by omega, ⟨by have := HK.out; omega⟩, ⟨?_⟩, ⟨?_⟩, ⟨?_⟩, ⟨below_go HB3.out HB9.out⟩, HB9⟩
        · have h1 := H16.out
          have h2 := HN2.out
          omega
        · rw [show 26 + 16 * (i + 1) = 26 + 16 * i + 16 from by omega, ← List.drop_drop, HRR.out]
          exact HO9.out
        · rw [plsOf_snoc, List.drop_drop, HRR.out, HPL.out]
          exact HP9.out
    · obtain rfl : i = ct := by omega
      have hd0 : decide ((i : Int) < (i : Int)) = false := decide_eq_false (by omega)
      have l4 := pw_cell_below HB0.out HL4.out
      have HE := Aside0.mk (show places b = some (sq, plsOf i (b.drop 26)) by
        have h1 := HI.out
        have h2 := HL.out
        unfold places
        rw [if_neg (by rw [HL.out, HCT.out]; omega), HSQ.out, HCT.out])
      obtain ⟨Ao, co, rfl⟩ := Kd.R_slice HP.out
      go_wp2
      go_ret2
      exact ⟨HB.out, .inl ⟨sq, _, _, HE.out, rfl, Kd.R_lower HP.out HB3.out.size⟩⟩
end Go.Proofs.Ytkmeipblgdahoaa.Ck
namespace Go.Proofs.Ytkmeipblgdahoaa.Ck
open Go.RowKit Go.Proofs.YtkmeipblgdahoaaW.PrintWords Go.Proofs.YtkmeipblgdahoaaW.PrintMore Go.Proofs.Ytkmeipblgdahoaa.Base Go.Proofs.Ytkmeipblgdahoaa.Rc Go.Proofs.Ytkmeipblgdahoaa.Shp
set_option maxRecDepth 100000
set_option linter.unusedVariables false
set_option linter.unusedSimpArgs false
theorem equal_calls (A B : Option Addr) (n k c d : Nat) (xs ys : List UInt8) (w : World) (h : byte.C w A n xs) (h2 : byte.C w B k ys) :
    Calls Try.prog 47 #[.slice A n c, .slice B k d] w fun e w' => e = .returned (.bool (decide (xs = ys))) ∧ w = w' := by
  have e1 := Dv.conv_bytes w A n c xs h
  have e2 := Dv.conv_bytes w B k d ys h2
  clear h h2
  go_enter Try.func47, Try.ntmps47
  go_wp2
  go_ret
  refine ⟨?_, rfl⟩
  show Ending.returned (.bool (xs == ys)) = _
  congr 2
  rw [Bool.eq_iff_iff, beq_iff_eq, decide_eq_true_eq]
set_option maxHeartbeats 1000000 in
theorem equals_calls (A B : Option Addr) (n m c d : Nat) (l1 l2 : List (List UInt8)) (w : World) (h : Dv.bytesK.C w A n l1) (g : Dv.bytesK.C w B m l2) :
    Calls Try.prog 46 #[.slice A n c, .slice B m d, .func (.func 47) #[] #[]] w fun e w' => e = .returned (.bool (decide (l1 = l2))) ∧ w = w' := by
  obtain ⟨hl, hm⟩ := C_len h
  obtain ⟨gl, gm⟩ := C_len g
  have HL := Aside0.mk hl
  have GL := Aside0.mk gl
  have HC := Aside0.mk h
  have GC := Aside0.mk g
  clear h g hl gl
  by_cases hn : n = m
  case neg =>
    have hnb : ((n : Int) != (m : Int)) = true := by rw [bne_iff_ne]; omega
    have HE := Aside0.mk (show decide (l1 = l2) = false from decide_eq_false (fun hh => hn (by rw [← HL.out, ← GL.out, hh])))
    rw [HE.out]
    clear hn
    go_enter Try.func46, Try.ntmps46
    go_wp2
    go_ret
    exact ⟨rfl, rfl⟩
  subst hn
  have hnb : ((n : Int) != (n : Int)) = false := by rw [bne_eq_false_iff_eq]
  go_enter Try.func46, Try.ntmps46
  go_wp2
  clear hnb
  go_loopg [17] n (fun g1 v17 wr => ∃ i : Nat, v17 = .int .i64 (i : Int) ∧ i ≤ n ∧ Aside0 (g1 + i = n) ∧ Aside0 (∀ j, j < i → l1.getD j [] = l2.getD j []) ∧ w = wr)
  case atStart => exact ⟨0, rfl, by omega, ⟨rfl⟩, ⟨fun j hj => by omega⟩, rfl⟩
  case round =>
    obtain ⟨i, rfl, hi, HK, HS, rfl⟩ := hrel
    by_cases hlt : i < n
    · have hd0 : decide ((i : Int) < (n : Int)) = true := decide_eq_true (by omega)
      have hd0' : decide (i < n) = true := decide_eq_true hlt
      have hi0 : (0 : Int) ≤ (i : Int) := by omega
      have hi1 : (i : Int) < (n : Int) := by omega
      obtain ⟨pa, A0, c0, rfl, e0, hk0, hC0⟩ := bytes_at HC.out i hlt
      obtain ⟨pb, B0, d0, rfl, f0, hg0, hD0⟩ := bytes_at GC.out i hlt
      obtain ⟨x, hx⟩ : ∃ x, l1.getD i [] = x := ⟨_, rfl⟩
      obtain ⟨y, hy⟩ : ∃ y, l2.getD i [] = y := ⟨_, rfl⟩
      rw [hx] at e0 hk0 hC0
      rw [hy] at f0 hg0 hD0
      have HX := Aside0.mk hx
      have HY := Aside0.mk hy
      have HC0 := Aside0.mk hC0
      have HD0 := Aside0.mk hD0
      clear hx hy hC0 hD0
      obtain ⟨bb, hbb⟩ : ∃ bb, decide (x = y) = bb := ⟨_, rfl⟩
      have HBB := Aside0.mk hbb
      clear hbb
      go_wp2_with fail
      refine (equal_calls A0 B0 x.length y.length c0 d0 x y _ HC0.out HD0.out).mono ?_
      rintro e w2 ⟨rfl, rfl⟩
      rw [HBB.out]
      cases bb with
      | true =>
        go_wp2
        go_roundg (gk - 1)
        case measure => have := HK.out; omega
        case rel =>
          refine ⟨i + 1, by congr 1, by omega, ⟨by have := HK.out; omega⟩, ⟨fun j hj => ?_⟩, rfl⟩
          by_cases hji : j < i
          · exact HS.out j hji
          · obtain rfl : j = i := by omega
            rw [HX.out, HY.out]
            exact of_decide_eq_true HBB.out
      | false =>
        have HNE := Aside0.mk (show ¬ l1 = l2 from fun hh => by
          have := of_decide_eq_false HBB.out
          apply this
          rw [← HX.out, ← HY.out, hh])
        go_wp2
        go_ret
        exact ⟨by rw [decide_eq_false HNE.out]; rfl, rfl⟩
    · obtain rfl : i = n := by omega
      have hd0 : decide ((i : Int) < (i : Int)) = false := decide_eq_false (by omega)
      have HEQ := Aside0.mk (show l1 = l2 by
        apply List.ext_getElem (by rw [HL.out, GL.out])
        intro j h1 h2
        have := HS.out j (by rw [HL.out] at h1; exact h1)
        rwa [List.getD_eq_getElem?_getD, List.getD_eq_getElem?_getD, List.getElem?_eq_getElem h1, List.getElem?_eq_getElem h2] at this)
      go_wp2
      go_ret
      exact ⟨by rw [decide_eq_true HEQ.out]; rfl, rfl⟩
/-! Decode. -/
theorem said_app : ∀ (a b : List (List UInt8)) (s : Nat × List Plc), said (a ++ b) s = (said a s).bind fun s' => said b s'
  | [], b, s => rfl
  | x :: a, b, s => by
    show (match places x with | none => none | some (q, sm) => said (a ++ b) (q, s.2 ++ sm)) = (match places x with | none => none | some (q, sm) => said a (q, s.2 ++ sm)).bind fun s' => said b s'
    cases places x with
    | none => rfl
    | some p =>
      obtain ⟨q, sm⟩ := p
      exact said_app a b _
theorem said_none {l : List (List UInt8)} {i : Nat} {x : List UInt8} {s s' : Nat × List Plc} (hi : i < l.length) (hx : l.getD i [] = x) (h : said (l.take i) s = some s') (hp : places x = none) : said l s = none := by
  have e : l = l.take i ++ (x :: l.drop (i + 1)) := by
    rw [← hx, ← drop_getD l i [] hi, List.take_append_drop]
  rw [e, said_app, h]
  show said (x :: l.drop (i + 1)) s' = none
  unfold said
  rw [hp]
theorem said_next {l : List (List UInt8)} {i : Nat} {x : List UInt8} {s s' : Nat × List Plc} {q : Nat} {sm : List Plc} (hi : i < l.length) (hx : l.getD i [] = x) (h : said (l.take i) s = some s') (hp : places x = some (q, sm)) : said (l.take (i + 1)) s = some (q, s'.2 ++ sm) := by
  rw [take_snocD l [] i hi, hx, said_app, h]
  show said [x] s' = _
  unfold said
  rw [hp]
  rfl
theorem places_len {b : List UInt8} {q : Nat} {sm : List Plc} (h : places b = some (q, sm)) : 16 * sm.length ≤ b.length := by
  unfold places at h
  split at h
  · cases h
  · rename_i hh
    injection h with h
    simp only [Prod.mk.injEq] at h
    rw [← h.2, plsOf_len]
    omega
theorem plc_ok {w : World} {A : Option Addr} {n : Nat} {xs : List Plc} (h : plK.C w A n xs) : ∀ x ∈ xs, PlcOk x := by
  intro x hx
  obtain ⟨i, hi, rfl⟩ := List.mem_iff_getElem.1 hx
  obtain ⟨ad, e, ho, -⟩ := pl_at h i (by rw [← h.1]; exact hi) (p := xs[i]) (by rw [List.getD_eq_getElem?_getD, List.getElem?_eq_getElem hi]; rfl)
  exact ho
/-- The deferred closure. -/
theorem dcatch_panicking (gr ge : Nat) (v0 v1 ve : Value) (u : TypeId) (pv : Value) (w : World) (h0 : w.heap[gr]? = some (.cells #[v0, v1] 27 (0, 0))) (h1 : Boxed w ge 30 ve) (hne : gr ≠ ge) :
    CallsD Try.prog 43 #[.pointer (some ⟨gr, 0, none⟩), .pointer (some ⟨ge, 0, none⟩)] (.panicking ({ v := .iface u pv, recovered := false } :: [])) w fun e u' w' =>
      e = .returned (.tuple #[]) ∧ u' = .panicking ({ v := .iface u pv, recovered := true } :: []) ∧ w' = ((w.setCell ⟨gr, 0, none⟩ (.int .u64 0)).setCell ⟨gr, 1, none⟩ (.slice none 0 0)).setCell ⟨ge, 0, none⟩ (.int .u16 141) := by
  have b1 := blk_set h0 0 (.int .u64 0)
  have c0 : w.cell? ⟨gr, 0, none⟩ = some v0 := by simp [World.cell?, h0]
  have z0 : w.frozen? ⟨gr, 0, none⟩ = false := by simp [World.frozen?, h0]
  have c1 : (w.setCell ⟨gr, 0, none⟩ (.int .u64 0)).cell? ⟨gr, 1, none⟩ = some v1 := by simp [World.cell?, b1]
  have z1 : (w.setCell ⟨gr, 0, none⟩ (.int .u64 0)).frozen? ⟨gr, 1, none⟩ = false := by simp [World.frozen?, b1]
  have be : ((w.setCell ⟨gr, 0, none⟩ (.int .u64 0)).setCell ⟨gr, 1, none⟩ (.slice none 0 0)).heap[ge]? = some (.cells #[ve] 30 (0, 0)) :=
    (Below.heap_setCell _ ⟨gr, 1, none⟩ _ ge hne.symm).trans ((Below.heap_setCell _ ⟨gr, 0, none⟩ _ ge hne.symm).trans h1)
  have c2 : ((w.setCell ⟨gr, 0, none⟩ (.int .u64 0)).setCell ⟨gr, 1, none⟩ (.slice none 0 0)).cell? ⟨ge, 0, none⟩ = some ve := by simp [World.cell?, be]
  have z2 : ((w.setCell ⟨gr, 0, none⟩ (.int .u64 0)).setCell ⟨gr, 1, none⟩ (.slice none 0 0)).frozen? ⟨ge, 0, none⟩ = false := by simp [World.frozen?, be]
  refine callsD_of_wpS Try.func43 rfl fun c₀ cs hu => ?_
  apply wpS_seq
  apply wpS_region
  simp [wpOpsS, go_sem, recoverD, hu, Try.ntmps43, Exit.thenS]
  apply wpS_seq
  apply wpS_region
  simp [wpOpsS, go_sem, Exit.thenS]
  refine wpS_cond (t := true) (by simp [Act.eval, Array.replicate]) ?_
  simp only [if_true]
  apply wpS_region
  simp [wpOpsS, go_sem, c0, z0, c1, z1, c2, z2, bodyPostS, results, Try.results43]
theorem dcatch_idle (gr ge : Nat) (w : World) :
    CallsD Try.prog 43 #[.pointer (some ⟨gr, 0, none⟩), .pointer (some ⟨ge, 0, none⟩)] .returning w fun e u' w' => e = .returned (.tuple #[]) ∧ u' = .returning ∧ w' = w := by
  refine callsD_of_wpS Try.func43 rfl fun c₀ cs hu => ?_
  apply wpS_seq
  apply wpS_region
  simp [wpOpsS, go_sem, recoverD, hu, Try.ntmps43, Exit.thenS]
  apply wpS_seq
  apply wpS_region
  simp [wpOpsS, go_sem, Exit.thenS]
  refine wpS_cond (t := false) (by simp [Act.eval, Array.replicate]) ?_
  simp only [Bool.false_eq_true, if_false]
  refine wpS_of_wp (wp_skip ?_)
  cases c₀
  simp_all [bodyPostS, results, Try.results43]
/-- What Decode answers. -/
def DecP (w : World) (r : Option (Nat × List Plc)) (e : Ending) (w' : World) : Prop :=
  Below w.heap.size w w' ∧ ((∃ q ps v, r = some (q, ps) ∧ e = .returned (.tuple #[.agg #[.int .u64 (q : Int), v], .int .u16 0]) ∧ OwnP w' w.heap.size v ps) ∨ (r = none ∧ e = .returned (.tuple #[.agg #[.int .u64 0, .slice none 0 0], .int .u16 141])))
theorem places_q {b : List UInt8} {q : Nat} {sm : List Plc} (h : places b = some (q, sm)) : q < 18446744073709551616 := by
  unfold places at h
  split at h
  · cases h
  · injection h with h
    simp only [Prod.mk.injEq] at h
    rw [← h.1]
    exact un8_lt _
/-- It fails. -/
theorem dec_fail {w W : World} {r : Option (Nat × List Plc)} {g : Nat} {v0 v1 ve : Value} (hb : Below w.heap.size w W) (h0 : W.heap[g + 1]? = some (.cells #[v0, v1] 27 (0, 0))) (h1 : Boxed W (g + 1 + 1) 30 ve) (hg : w.heap.size ≤ g) (hr : r = none) (T : Array Value) (u : TypeId) (pv : Value)
    (h4 : T[4]?.getD undef = .pointer (some ⟨g + 1, 0, none⟩)) (h5 : T[5]?.getD undef = .pointer (some ⟨g + 1 + 1, 0, none⟩)) :
    Leaves Try.prog Try.f17 T (DecP w r) [{ target := .fn (.func 43) #[.pointer (some ⟨g + 1, 0, none⟩), .pointer (some ⟨g + 1 + 1, 0, none⟩)], args := #[] }] (.panicking [{ v := .iface u pv, recovered := false }]) W := by
  subst hr
  refine leaves_cons (f := 43) (args := #[.pointer (some ⟨g + 1, 0, none⟩), .pointer (some ⟨g + 1 + 1, 0, none⟩)]) (by simp) (by simp [go_sem]) ?_
  refine (dcatch_panicking (g + 1) (g + 1 + 1) _ _ _ u pv W h0 h1 (by simp)).mono ?_
  rintro e u' w'' ⟨rfl, rfl, rfl⟩
  have b1 := blk_set h0 0 (.int .u64 0)
  have b2 := blk_set b1 1 (.slice none 0 0)
  have he2 : Boxed ((W.setCell ⟨g + 1, 0, none⟩ (.int .u64 0)).setCell ⟨g + 1, 1, none⟩ (.slice none 0 0)) (g + 1 + 1) 30 ve :=
    (Below.heap_setCell _ ⟨g + 1, 1, none⟩ _ (g + 1 + 1) (by simp)).trans ((Below.heap_setCell _ ⟨g + 1, 0, none⟩ _ (g + 1 + 1) (by simp)).trans h1)
  have hbr : (((W.setCell ⟨g + 1, 0, none⟩ (.int .u64 0)).setCell ⟨g + 1, 1, none⟩ (.slice none 0 0)).setCell ⟨g + 1 + 1, 0, none⟩ (.int .u16 141)).heap[g + 1]? = some (.cells #[.int .u64 0, .slice none 0 0] 27 (0, 0)) := (Below.heap_setCell _ ⟨g + 1 + 1, 0, none⟩ _ (g + 1) (by simp)).trans b2
  have hbe := he2.set (.int .u16 141)
  have hB := ((hb.setCell (p := ⟨g + 1, 0, none⟩) (by show w.heap.size ≤ g + 1; omega) (.int .u64 0)).setCell (p := ⟨g + 1, 1, none⟩) (by show w.heap.size ≤ g + 1; omega) (.slice none 0 0)).setCell (p := ⟨g + 1 + 1, 0, none⟩) (by show w.heap.size ≤ g + 1 + 1; omega) (.int .u16 141)
  clear b1 b2 he2
  generalize ((W.setCell ⟨g + 1, 0, none⟩ (.int .u64 0)).setCell ⟨g + 1, 1, none⟩ (.slice none 0 0)).setCell ⟨g + 1 + 1, 0, none⟩ (.int .u16 141) = W9 at *
  have q0 : W9.cell? ⟨g + 1, 0, none⟩ = some (.int .u64 0) := by simp [World.cell?, hbr]
  have q1 : W9.cell? ⟨g + 1, 1, none⟩ = some (.slice none 0 0) := by simp [World.cell?, hbr]
  have q2 : W9.cell? ⟨g + 1 + 1, 0, none⟩ = some (.int .u16 141) := hbe.cell
  refine ⟨.tuple #[.agg #[.int .u64 0, .slice none 0 0], .int .u16 141], ?_, hB, .inr ⟨rfl, rfl⟩⟩
  simp [results, Try.results17, go_sem, h4, h5, q0, q1, q2]
/-- What holds at a round's head. -/
structure DcR (w W : World) (g : Nat) (z zb b r : Int) (q : Nat) (vo : Value) (ps : List Plc) : Prop where
  bel : Below w.heap.size w W
  shp : W.heap[g]? = some (.cells #[.int .i64 z, .int .i64 zb, .int .i64 b, .int .i64 r] 23 (0, 0))
  st : W.heap[g + 1]? = some (.cells #[.int .u64 (q : Int), vo] 27 (0, 0))
  er : Boxed W (g + 1 + 1) 30 (.int .u16 0)
  row : OwnP W w.heap.size vo ps
section
variable {w W W' : World} {g : Nat} {z zb b r : Int} {q q' : Nat} {vo v1 : Value} {ps ps' : List Plc}
theorem DcR.below (h : DcR w W g z zb b r q vo ps) (hb : Below W.heap.size W W') : DcR w W' g z zb b r q vo ps :=
  ⟨below_go h.bel hb, blk_old hb h.shp, blk_old hb h.st, blk_old hb h.er, Kd.R_below h.row hb⟩
theorem DcR.cells (h : DcR w W g z zb b r q vo ps) : W.cell? ⟨g, 0, none⟩ = some (.int .i64 z) ∧ W.cell? ⟨g, 1, none⟩ = some (.int .i64 zb) ∧ W.cell? ⟨g, 2, none⟩ = some (.int .i64 b) ∧ W.cell? ⟨g, 3, none⟩ = some (.int .i64 r) ∧
    W.cell? ⟨g + 1, 0, none⟩ = some (.int .u64 (q : Int)) ∧ W.cell? ⟨g + 1, 1, none⟩ = some vo ∧ W.frozen? ⟨g + 1, 0, none⟩ = false ∧ W.frozen? ⟨g + 1, 1, none⟩ = false ∧ W.cell? ⟨g + 1 + 1, 0, none⟩ = some (.int .u16 0) ∧ W.frozen? ⟨g + 1 + 1, 0, none⟩ = false := by
  have h1 := h.shp
  have h2 := h.st
  exact ⟨by simp [World.cell?, h1], by simp [World.cell?, h1], by simp [World.cell?, h1], by simp [World.cell?, h1], by simp [World.cell?, h2], by simp [World.cell?, h2], by simp [World.frozen?, h2], by simp [World.frozen?, h2], h.er.cell, h.er.frozen⟩
theorem plE_ne : ∀ q, q ∈ 88 :: plK.E → q ≠ 27 := by intro q hq; rw [List.mem_singleton.1 hq]; decide
/-- The number is laid. -/
theorem DcR.num (h : DcR w W g z zb b r q vo ps) (hg : w.heap.size ≤ g) (q' : Nat) : DcR w (W.setCell ⟨g + 1, 0, none⟩ (.int .u64 (q' : Int))) g z zb b r q' vo ps :=
  ⟨h.bel.setCell (by show w.heap.size ≤ g + 1; omega) _, (Below.heap_setCell _ ⟨g + 1, 0, none⟩ _ g (by simp)).trans h.shp, blk_set h.st 0 _, (Below.heap_setCell _ ⟨g + 1, 0, none⟩ _ (g + 1 + 1) (by simp)).trans h.er, Kd.R_set h.row h.st plE_ne 0 _⟩
theorem plE_ne2 : ∀ q, q ∈ 88 :: plK.E → q ≠ 30 := by intro q hq; rw [List.mem_singleton.1 hq]; decide
theorem DcR.err (h : DcR w W g z zb b r q vo ps) (hg : w.heap.size ≤ g) : DcR w (W.setCell ⟨g + 1 + 1, 0, none⟩ (.int .u16 0)) g z zb b r q vo ps :=
  ⟨h.bel.setCell (by show w.heap.size ≤ g + 1 + 1; omega) _, (Below.heap_setCell _ ⟨g + 1 + 1, 0, none⟩ _ g (by simp; omega)).trans h.shp, (Below.heap_setCell _ ⟨g + 1 + 1, 0, none⟩ _ (g + 1) (by simp)).trans h.st, h.er.set _, Kd.R_set h.row h.er plE_ne2 0 _⟩
theorem DcR.erx (h : DcR w W g z zb b r q vo ps) (hg : w.heap.size ≤ g) (x : Int) : Below w.heap.size w (W.setCell ⟨g + 1 + 1, 0, none⟩ (.int .u16 x)) ∧ (W.setCell ⟨g + 1 + 1, 0, none⟩ (.int .u16 x)).heap[g + 1]? = some (.cells #[.int .u64 (q : Int), vo] 27 (0, 0)) ∧
    Boxed (W.setCell ⟨g + 1 + 1, 0, none⟩ (.int .u16 x)) (g + 1 + 1) 30 (.int .u16 x) :=
  ⟨h.bel.setCell (by show w.heap.size ≤ g + 1 + 1; omega) _, (Below.heap_setCell _ ⟨g + 1 + 1, 0, none⟩ _ (g + 1) (by simp)).trans h.st, h.er.set _⟩
theorem DcR.fin (h : DcR w W g z zb b r q vo ps) (hg : w.heap.size ≤ g) : DcR w (((W.setCell ⟨g + 1, 0, none⟩ (.int .u64 (q : Int))).setCell ⟨g + 1, 1, none⟩ vo).setCell ⟨g + 1 + 1, 0, none⟩ (.int .u16 0)) g z zb b r q vo ps := by
  have h1 := h.num hg q
  have h2 : DcR w ((W.setCell ⟨g + 1, 0, none⟩ (.int .u64 (q : Int))).setCell ⟨g + 1, 1, none⟩ vo) g z zb b r q vo ps :=
    ⟨h1.bel.setCell (by show w.heap.size ≤ g + 1; omega) _, (Below.heap_setCell _ ⟨g + 1, 1, none⟩ _ g (by simp)).trans h1.shp, blk_set h1.st 1 _, (Below.heap_setCell _ ⟨g + 1, 1, none⟩ _ (g + 1 + 1) (by simp)).trans h1.er, Kd.R_set h1.row h1.st plE_ne 1 _⟩
  exact h2.err hg
/-- The places are laid. -/
theorem DcR.pls (h : DcR w W g z zb b r q vo ps) (hg : w.heap.size ≤ g) (hr : OwnP W' w.heap.size v1 ps') (hgr : W.grownBy W' vo.ownBlock) : W'.cell? ⟨g + 1, 1, none⟩ = some vo ∧ W'.frozen? ⟨g + 1, 1, none⟩ = false ∧ DcR w (W'.setCell ⟨g + 1, 1, none⟩ v1) g z zb b r q v1 ps' := by
  have n0 := Kd.R_ne h.row h.shp (by decide)
  have n1 := Kd.R_ne h.row h.st (by decide)
  have n2 := Kd.R_ne h.row (show W.heap[g + 1 + 1]? = _ from h.er) (by decide)
  have b0 : W'.heap[g]? = _ := (hgr.block g (Array.getElem?_eq_some_iff.1 h.shp).1 n0).trans h.shp
  have b1 : W'.heap[g + 1]? = _ := (hgr.block (g + 1) (Array.getElem?_eq_some_iff.1 h.st).1 n1).trans h.st
  have b2 : W'.heap[g + 1 + 1]? = _ := (hgr.block (g + 1 + 1) (Array.getElem?_eq_some_iff.1 h.er).1 n2).trans h.er
  refine ⟨by simp [World.cell?, b1], by simp [World.frozen?, b1], ?_, ?_, ?_, ?_, ?_⟩
  · exact (h.bel.grown hgr h.bel.size (fun k hk => Kd.R_base h.row k hk)).setCell (by show w.heap.size ≤ g + 1; omega) _
  · exact (Below.heap_setCell W' ⟨g + 1, 1, none⟩ v1 g (by simp)).trans b0
  · exact blk_set b1 1 v1
  · exact (Below.heap_setCell W' ⟨g + 1, 1, none⟩ v1 (g + 1 + 1) (by simp)).trans b2
  · exact Kd.R_set hr b1 plE_ne 1 v1
end
section
variable {ops : Array Oper} {rest : List Oper} {o : Oper} {a : Act} {Q : Exit → Act → World → Prop}
/-- append(v, ys...): places. -/
theorem app_plcs {w0 W : World} (base : Nat) (s x : Operand) (hgd : o.guard = none) (ho : o.op = .call { callee := .builtin .append, args := #[s, x], argTypes := #[25, 25] })
    (v : Value) (xs ys : List Plc) (A : Option Addr) (m c : Nat) (hs : a.eval s = v) (hx : a.eval x = .slice A m c)
    (HO : OwnP W base v xs) (HR : plK.C W A m ys) (HB : Below base w0 W) (hbase : base ≤ W.heap.size) (hl : xs.length + m ≤ 100000000)
    (h : ∀ v1 w1, OwnP w1 base v1 (xs ++ ys) → W.grownBy w1 v.ownBlock → wpList Try.prog ops Q rest (a.put o.dst v1) w1) : wpList Try.prog ops Q (o :: rest) a W :=
  Kd.R_append_rows plK (w0 := w0) base hgd s x 25 88 _ 32 ho Try.underlying25 info_plcs (by decide) (by decide) (by decide) v xs ys A m c anyB (fun _ => False) hs hx HO HR (fun x cs hk => hk) (fun _ h => h.elim) (fun _ _ => trivial) HB hbase (by omega)
    (fun v1 w1 h1 _ h3 _ => h v1 w1 h1 h3)
end
set_option maxHeartbeats 4000000 in
theorem decode_calls (z zb b r : Int) (hz : IsI z) (hzb : IsI zb) (hb : IsI b) (hr : IsI r) (A : Option Addr) (n c : Nat) (l : List (List UInt8)) (w : World) (h : Dv.bytesK.C w A n l) (hn : n ≤ 1000) (hlen : ∀ x ∈ l, x.length ≤ 100000) :
    Calls Try.prog 17 #[.agg #[.int .i64 z, .int .i64 zb, .int .i64 b, .int .i64 r], .slice A n c] w (DecP w (decC (decide (Rt z zb b r)) z zb b.toNat l)) := by
  have hmf : ∀ (fn : Fn) (first cap : Array Value) (w : World), (Instr.makeFunc fn first cap).run Try.prog w = .ok (.func fn first cap) w := fun _ _ _ _ => rfl
  obtain ⟨hl, hm⟩ := C_len h
  have HL := Aside0.mk hl
  have HC := Aside0.mk h
  have HLN := Aside0.mk hlen
  have HI := Aside0.mk (And.intro hz (And.intro hzb (And.intro hb hr)))
  have HD0 : Aside0 (DcR w (((w.alloc (.cells #[.int .i64 z, .int .i64 zb, .int .i64 b, .int .i64 r] 23)).alloc (.cells #[.int .u64 0, .slice none 0 0] 27)).alloc (.cells #[.int .u16 0] 30)) w.heap.size z zb b r 0 (.slice none 0 0) []) :=
    ⟨⟨below_alloc (below_alloc (alloc_below _ _) _) _, blk_past (blk_past (blk_here rfl)), blk_past (blk_here (by simp)), blk_here (by simp), Kd.R_nil _ _ _ _ _⟩⟩
  clear h hl hlen hz hzb hb hr
  go_enter_defers Try.func17, Try.ntmps17
  go_wp2
  obtain ⟨g, hg⟩ : ∃ g, w.heap.size = g := ⟨_, rfl⟩
  obtain ⟨W, hW⟩ : ∃ W, (((w.alloc (.cells #[.int .i64 z, .int .i64 zb, .int .i64 b, .int .i64 r] 23)).alloc (.cells #[.int .u64 0, .slice none 0 0] 27)).alloc (.cells #[.int .u16 0] 30)) = W := ⟨_, rfl⟩
  rw [hW] at HD0 ⊢
  have HG := Aside0.mk (Nat.le_of_eq hg)
  rw [hg] at HD0 ⊢
  clear hW hg
  go_loopg [14] n (fun g1 v14 wr => ∃ (i q : Nat) (vo : Value) (ps : List Plc), v14 = .int .i64 (i : Int) ∧ i ≤ n ∧ Aside0 (g1 + i = n) ∧ Aside0 (said (l.take i) (0, []) = some (q, ps)) ∧ Aside0 (16 * ps.length ≤ i * 100000) ∧ Aside0 (q < 18446744073709551616) ∧ Aside0 (DcR w wr g z zb b r q vo ps))
  case atStart => exact ⟨0, 0, _, [], rfl, Nat.zero_le _, ⟨rfl⟩, ⟨rfl⟩, ⟨by simp⟩, ⟨by omega⟩, HD0⟩
  case round =>
    obtain ⟨i, q, vo, ps, rfl, hi, HK, HSD, HPL, HQ, HD⟩ := hrel
    by_cases hlt : i < n
    · have hd0 : decide ((i : Int) < (n : Int)) = true := decide_eq_true (by omega)
      have hd0' : decide (i < n) = true := decide_eq_true hlt
      have hi0 : (0 : Int) ≤ (i : Int) := by omega
      have hi1 : (i : Int) < (n : Int) := by omega
      obtain ⟨pa, A0, c0, rfl, e0, hk0, hC0⟩ := bytes_at (Kd.C_below HC.out HD.out.bel) i hlt
      obtain ⟨x, hx⟩ : ∃ x, l.getD i [] = x := ⟨_, rfl⟩
      rw [hx] at e0 hk0 hC0
      have HX := Aside0.mk hx
      have HC0 := Aside0.mk hC0
      have HK0 := Aside0.mk hk0
      have HXL := Aside0.mk (show x.length ≤ 100000 from HLN.out x (by rw [← hx, List.getD_eq_getElem?_getD, List.getElem?_eq_getElem (by rw [HL.out]; exact hlt)]; exact List.getElem_mem _))
      obtain ⟨nx, hnx⟩ : ∃ nx, x.length = nx := ⟨_, rfl⟩
      rw [hnx] at e0 HC0 HK0 HXL
      have HNX := Aside0.mk hnx
      clear hx hC0 hk0 hnx
      go_wp2_with fail
      refine (places_calls A0 nx c0 x _ HC0.out HK0.out HXL.out).mono ?_
      rintro e w5 ⟨hb5, ⟨q', sm, v', hpl, rfl, hP⟩ | ⟨hno, u, pv, rfl⟩⟩
      case inr =>
        have HD5 := Aside0.mk (HD.out.below hb5)
        have HNone := Aside0.mk (show decC (decide (Rt z zb b r)) z zb b.toNat l = none by
          unfold decC
          rw [said_none (by rw [HL.out]; exact hlt) HX.out HSD.out hno])
        exact dec_fail HD5.out.bel HD5.out.st HD5.out.er HG.out HNone.out _ u pv rfl rfl
      have HD5 := Aside0.mk (HD.out.below hb5)
      have HPLC := Aside0.mk hpl
      obtain ⟨Ap, np, cp, rfl⟩ : ∃ Ap np cp, v' = .slice Ap np cp := by obtain ⟨Ap, cp, hv⟩ := Kd.R_slice hP; exact ⟨Ap, _, cp, hv⟩
      have hpc := (Kd.R_reads' hP)
      have HNP := Aside0.mk hpc.1
      have HPC := Aside0.mk (show plK.C w5 Ap np sm by have := hpc.2.2; rwa [← hpc.1] at this)
      obtain ⟨-, -, -, -, s0, s1, z0, z1, -, -⟩ := HD5.out.cells
      have hpc6 := Kd.R_reads' (Kd.R_set hP HD5.out.st plE_ne 0 (.int .u64 (q' : Int)))
      have HPC6 := Aside0.mk (show plK.C (w5.setCell ⟨g + 1, 0, none⟩ (.int .u64 (q' : Int))) Ap np sm by have := hpc6.2.2; rwa [← hpc6.1] at this)
      clear hpc6
      have HD6 := Aside0.mk (HD5.out.num HG.out q')
      obtain ⟨-, -, -, -, t0, t1, y0, y1, -, -⟩ := HD6.out.cells
      clear hb5 hpl hP hpc e0
      have HQ' := Aside0.mk (show q' < 18446744073709551616 from places_q HPLC.out)
      go_wp2_with (at_builtin; (refine app_plcs (w0 := w) w.heap.size (.tmp 26) (.tmp 27) rfl rfl vo ps sm Ap np cp rfl rfl HD6.out.row HPC6.out HD6.out.bel HD6.out.bel.size (by have h1 := HPL.out; have h2 := places_len HPLC.out; have h3 := HNP.out; have h4 := HXL.out; have h5 := HNX.out; omega) ?_); intro v9 w9 hP9 hg9; (obtain ⟨f1, f2, hD9⟩ := HD6.out.pls HG.out hP9 hg9; have HD9 := Aside0.mk hD9; (obtain ⟨A9, n9, c9, rfl⟩ : ∃ A9 n9 c9, v9 = .slice A9 n9 c9 := by obtain ⟨A9, c9, hv⟩ := Kd.R_slice hP9; exact ⟨A9, _, c9, hv⟩); clear hP9 hg9 hD9))
      go_wp2
      go_roundg (gk - 1)
      case measure => have := HK.out; omega
      case rel =>
        refine ⟨i + 1, q', _, ps ++ sm, by congr 1, by omega, ⟨by have := HK.out; omega⟩, ⟨?_⟩, ⟨?_⟩, HQ', HD9⟩
        · exact said_next (by rw [HL.out]; exact hlt) HX.out HSD.out HPLC.out
        · have h1 := HPL.out
          have h2 := places_len HPLC.out
          have h4 := HXL.out
          have h5 := HNX.out
          rw [List.length_append]
          omega
    · obtain rfl : i = n := by omega
      have hd0 : decide ((i : Int) < (i : Int)) = false := decide_eq_false (by omega)
      have HSA := Aside0.mk (show said l (0, []) = some (q, ps) by have := HSD.out; rwa [List.take_of_length_le (by rw [HL.out]; omega)] at this)
      obtain ⟨c0, c1, c2, c3, s0, s1, -, -, r0, r1⟩ := HD.out.cells
      obtain ⟨Ao, no, co, rfl⟩ : ∃ Ao no co, vo = .slice Ao no co := by obtain ⟨Ap, cp, hv⟩ := Kd.R_slice HD.out.row; exact ⟨Ap, _, cp, hv⟩
      have hpc := Kd.R_reads' HD.out.row
      have HNO := Aside0.mk hpc
      clear hpc
      have HPO := Aside0.mk (show plK.C wr Ao no ps by have := HNO.out.2.2; rwa [← HNO.out.1] at this)
      have hnp : no ≤ 10000000 := by have h1 := HNO.out.1; have h2 := HPL.out; omega
      go_wp2_with fail
      refine (encode_calls z zb b r HI.out.1 HI.out.2.1 HI.out.2.2.1 HI.out.2.2.2 q HQ.out Ao no co ps hnp HNO.out.2.1 _ HPO.out (plc_ok HPO.out)).mono ?_
      rintro e w5 ⟨hb5, ⟨bs, v, hen, rfl, hN⟩ | ⟨er, hen, her, rfl⟩⟩
      · have HD5 := Aside0.mk (HD.out.below hb5)
        have HEN := Aside0.mk hen
        have hgl := (Array.getElem?_eq_some_iff.1 HD.out.er).1
        have HDS := Aside0.mk (show DcR w (w5.setCell ⟨g + 1 + 1, 0, none⟩ (.int .u16 0)) g z zb b r q (.slice Ao no co) ps from HD5.out.err HG.out)
        obtain ⟨Ab, nb, cb, rfl, hcb, hCb⟩ := N_open (Kd.N_far hN (p := ⟨g + 1 + 1, 0, none⟩) (fun k hk e => by have h1 := hk.1; have h2 : k = g + 1 + 1 := e; omega) (.int .u16 0))
        have HCB := Aside0.mk (Dv.T.C_plain hCb)
        have HC5 := Aside0.mk (Kd.C_below HC.out HDS.out.bel)
        obtain ⟨bb, hbb⟩ : ∃ bb, decide (bs = l) = bb := ⟨_, rfl⟩
        have HBB := Aside0.mk hbb
        obtain ⟨-, -, -, -, -, -, -, -, r0, r1⟩ := HD5.out.cells
        clear hb5 hen hN hCb hbb hgl
        go_wp2_with fail
        refine (equals_calls Ab A nb i cb c bs l _ HCB.out HC5.out).mono ?_
        rintro e w6 ⟨rfl, rfl⟩
        rw [HBB.out]
        cases bb with
        | true =>
          obtain ⟨Wx, hWx⟩ : ∃ Wx, w5.setCell ⟨g + 1 + 1, 0, none⟩ (.int .u16 0) = Wx := ⟨_, rfl⟩
          rw [hWx] at HDS ⊢
          clear hWx r0 r1 HCB HC5
          obtain ⟨-, -, -, -, s0, s1, z0, z1, r0, r1⟩ := HDS.out.cells
          have HRES := Aside0.mk (show decC (decide (Rt z zb b r)) z zb b.toNat l = some (q, ps) by
            have h1 := of_decide_eq_true HBB.out
            unfold decC
            rw [HSA.out]
            show (match encC (decide (Rt z zb b r)) z zb b.toNat q ps with | .ok l' => if l' = l then some (q, ps) else none | .error _ => none) = _
            rw [HEN.out]
            exact if_pos h1)
          go_wp2_with fail
          refine (must_yes _).mono ?_
          rintro e w7 ⟨rfl, rfl⟩
          have HFI := Aside0.mk (HDS.out.fin HG.out)
          go_wp2
          refine leaves_cons (f := 43) (args := #[.pointer (some ⟨g + 1, 0, none⟩), .pointer (some ⟨g + 1 + 1, 0, none⟩)]) (by simp) (by simp [go_sem]) ?_
          refine (dcatch_idle (g + 1) (g + 1 + 1) _).mono ?_
          rintro e u' w'' ⟨rfl, rfl, rfl⟩
          have hfi := HFI.out
          clear s0 s1 z0 z1 r0 r1 HFI
          generalize ((Wx.setCell ⟨g + 1, 0, none⟩ (.int .u64 (q : Int))).setCell ⟨g + 1, 1, none⟩ (.slice Ao no co)).setCell ⟨g + 1 + 1, 0, none⟩ (.int .u16 0) = W9 at *
          obtain ⟨-, -, -, -, q0, q1, -, -, q2, -⟩ := hfi.cells
          refine ⟨.tuple #[.agg #[.int .u64 (q : Int), .slice Ao no co], .int .u16 0], ?_, hfi.bel, .inl ⟨q, ps, .slice Ao no co, HRES.out, rfl, hfi.row⟩⟩
          simp [results, Try.results17, go_sem, q0, q1, q2]
        | false =>
          have HRES := Aside0.mk (show decC (decide (Rt z zb b r)) z zb b.toNat l = none by
            have h1 := of_decide_eq_false HBB.out
            unfold decC
            rw [HSA.out]
            show (match encC (decide (Rt z zb b r)) z zb b.toNat q ps with | .ok l' => if l' = l then some (q, ps) else none | .error _ => none) = _
            rw [HEN.out]
            exact if_neg h1)
          go_wp2_with fail
          refine (must_no _).mono ?_
          rintro e w7 ⟨⟨u, pv, rfl⟩, rfl⟩
          exact dec_fail HDS.out.bel HDS.out.st HDS.out.er HG.out HRES.out _ u pv rfl rfl
      · have HD5 := Aside0.mk (HD.out.below hb5)
        have HRES := Aside0.mk (show decC (decide (Rt z zb b r)) z zb b.toNat l = none by
          unfold decC
          rw [HSA.out]
          show (match encC (decide (Rt z zb b r)) z zb b.toNat q ps with | .ok l' => if l' = l then some (q, ps) else none | .error _ => none) = _
          rw [hen])
        have hgl := (Array.getElem?_eq_some_iff.1 HD.out.er).1
        obtain ⟨-, -, -, -, -, -, -, -, r0, r1⟩ := HD5.out.cells
        have he0 : (er == 0) = false := by rw [beq_eq_false_iff_ne]; rcases her with rfl | rfl <;> decide
        have HSE := Aside0.mk (HD5.out.erx HG.out er)
        clear hb5 hen her hgl
        go_wp2_with fail
        refine (must_no _).mono ?_
        rintro e w7 ⟨⟨u, pv, rfl⟩, rfl⟩
        exact dec_fail HSE.out.1 HSE.out.2.1 HSE.out.2.2 HG.out HRES.out _ u pv rfl rfl
end Go.Proofs.Ytkmeipblgdahoaa.Ck
namespace Go.Proofs.Ytkmeipblgdahoaa.Dv
open Go.RowKit Go.Proofs.YtkmeipblgdahoaaW.PrintWords Go.Proofs.YtkmeipblgdahoaaW.PrintMore Go.Proofs.Ytkmeipblgdahoaa.Base Go.Proofs.Ytkmeipblgdahoaa.Shp
set_option maxRecDepth 100000
set_option linter.unusedVariables false
set_option linter.unusedSimpArgs false
set_option maxHeartbeats 1000000 in
theorem shape_calls (xb base : Nat) (ok : Nat → Prop) (z zb b r : Int) (ps : List Prt) (v : Value) (w : World) (h : Dev w xb base ok z zb b r ps v) :
    Calls Try.prog 49 #[.pointer (some ⟨xb, 0, none⟩)] w fun e w' => e = .returned (.agg #[.int .i64 z, .int .i64 zb, .int .i64 b, .int .i64 r]) ∧ Below w.heap.size w w' := by
  obtain ⟨k0, k1, k2, k3, -⟩ := h.cells
  have hx : xb ≠ w.heap.size := by have := (Array.getElem?_eq_some_iff.1 h.blk).1; omega
  have k0 := pw_cell_below (alloc_below w (.cells #[.int .i64 0, .int .i64 0, .int .i64 0, .int .i64 0] 23)) k0
  have k1 := pw_cell_below (alloc_below w (.cells #[.int .i64 0, .int .i64 0, .int .i64 0, .int .i64 0] 23)) k1
  have k2 := pw_cell_below (alloc_below w (.cells #[.int .i64 0, .int .i64 0, .int .i64 0, .int .i64 0] 23)) k2
  have k3 := pw_cell_below (alloc_below w (.cells #[.int .i64 0, .int .i64 0, .int .i64 0, .int .i64 0] 23)) k3
  have HA := Aside0.mk (alloc_below w (.cells #[.int .i64 z, .int .i64 zb, .int .i64 b, .int .i64 r] 23))
  clear h
  go_enter Try.func49, Try.ntmps49
  go_wp2
  refine bodyPost_ret (by simp [results, Try.results49, go_sem, *]; rfl) rfl ?_
  exact ⟨rfl, HA.out⟩
end Go.Proofs.Ytkmeipblgdahoaa.Dv
