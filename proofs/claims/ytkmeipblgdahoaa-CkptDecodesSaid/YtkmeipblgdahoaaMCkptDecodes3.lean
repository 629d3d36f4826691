/- Part 3 of 5 of the proof of CkptDecodes: DevNew, DevApp, DevRead, DevRd, DevOps, DevBlk, DevBlock, DevFlush, DevLose, DevCrash, Known, Heavy, ReadsPure, ReadsMem, Ref, RefNew, RefOps, RefFlush, RefRead, RefApp, RefCrash, EqvPure, Bridge, Chunk, ChunkP, Rooms. -/
import Derived.Test.YtkmeipblgdahoaaMCkptDecodes2
import Derived.Handy
import Derived.Laws.BytesArg
import Derived.Deep.DeepCutAuto
import Derived.Test.YtkmeipblgdahoaaProg
import Derived.RangeFuncNested
import Derived.RangeFuncBound
import Derived.RangeFuncCalls
import Derived.RangeFuncLeaves
import Derived.RangeFuncWrites
import Derived.RegionTactic
import Derived.OrdersIn
import Derived.RangeFuncBox
import Derived.Shelf.Abstract
import Derived.Shelf.RegionOpen
import Derived.OwnWalkIn
import Derived.TacticsInMore
import Derived.LoopNIn
import Derived.LoopIn
/- New of a device. -/
namespace Go.Proofs.Ytkmeipblgdahoaa.Dv
open Go.RowKit Go.Proofs.YtkmeipblgdahoaaW.PrintWords Go.Proofs.YtkmeipblgdahoaaW.PrintMore Go.Proofs.Ytkmeipblgdahoaa.Base Go.Proofs.Ytkmeipblgdahoaa.Shp
set_option maxRecDepth 100000
set_option linter.unusedVariables false
set_option linter.unusedSimpArgs false
theorem pow_rng {b : Int} (h : Shp.Pow b) : 64 ≤ b ∧ b ≤ 4096 := by unfold Shp.Pow at h; omega
theorem info_part : (Try.prog.info? 108).map (fun i => (i.zero, i.size, i.bytes)) = some (some (.agg #[.slice none 0 0, .int .i64 0]), 2, 32) := by kernel_rfl
theorem zero_part (w : World) (base : Nat) : partK.M w base (fun _ => False) ([], 0) (Value.agg #[.slice none 0 0, .int .i64 0]).cells.toList := by
  exact ⟨[.slice none 0 0], [.int .i64 0], rfl, ⟨_, rfl, Kd.R_nil _ _ _ _ _⟩, ⟨rfl, by decide⟩⟩
theorem new_calls (z zb b r : Int) (hz : IsI z) (hzb : IsI zb) (hb : IsI b) (hr : IsI r) (w : World) :
    Calls Try.prog 21 #[.agg #[.int .i64 z, .int .i64 zb, .int .i64 b, .int .i64 r]] w
      fun e w' => ((¬ Rt z zb b r ∧ e = .returned (.pointer none)) ∨ (Rt z zb b r ∧ ∃ xb v, e = .returned (.pointer (some ⟨xb, 0, none⟩)) ∧ Dev w' xb w.heap.size (fun k => w.heap.size ≤ k) z zb b r (List.replicate z.toNat ([], 0)) v ∧ w.heap.size ≤ xb)) ∧ Below w.heap.size w w' := by
  have hA := Aside0.mk (alloc_below w (.cells #[.int .i64 z, .int .i64 zb, .int .i64 b, .int .i64 r] 23))
  go_enter Try.func21, Try.ntmps21
  go_wp2_with fail
  refine (right_calls z zb b r hz hzb hb hr _).mono ?_
  rintro e w1 ⟨rfl, hw1⟩
  have k0 := pw_cell_below hw1 (show (w.alloc (.cells #[.int .i64 z, .int .i64 zb, .int .i64 b, .int .i64 r] 23)).cell? ⟨w.heap.size, 0, none⟩ = some (.int .i64 z) by go_simp)
  have k1 := pw_cell_below hw1 (show (w.alloc (.cells #[.int .i64 z, .int .i64 zb, .int .i64 b, .int .i64 r] 23)).cell? ⟨w.heap.size, 1, none⟩ = some (.int .i64 zb) by go_simp)
  have k2 := pw_cell_below hw1 (show (w.alloc (.cells #[.int .i64 z, .int .i64 zb, .int .i64 b, .int .i64 r] 23)).cell? ⟨w.heap.size, 2, none⟩ = some (.int .i64 b) by go_simp)
  have k3 := pw_cell_below hw1 (show (w.alloc (.cells #[.int .i64 z, .int .i64 zb, .int .i64 b, .int .i64 r] 23)).cell? ⟨w.heap.size, 3, none⟩ = some (.int .i64 r) by go_simp)
  have HB1 := Aside0.mk (below_then hA.out (by simp) hw1)
  obtain ⟨g, hg⟩ : ∃ g, w.heap.size = g := ⟨_, rfl⟩
  rw [hg] at k0 k1 k2 k3 HB1 ⊢
  have HG := Aside0.mk hg
  clear hw1 hA hg
  by_cases hrt : Rt z zb b r
  · rw [decide_eq_true hrt]
    have hz6 : 6 ≤ z ∧ z ≤ 256 := ⟨hrt.1, hrt.2.1⟩
    obtain ⟨p1, p2⟩ := hz6
    have HRT := Aside0.mk hrt
    clear hrt
    go_wp2_with fail
    refine wp_region_held_drew (S := (fun w' => w'.cell? ⟨g, 0, none⟩ = some (.int .i64 z) ∧ w'.cell? ⟨g, 1, none⟩ = some (.int .i64 zb) ∧ w'.cell? ⟨g, 2, none⟩ = some (.int .i64 b) ∧ w'.cell? ⟨g, 3, none⟩ = some (.int .i64 r))) (by kernel_rfl) ⟨k0, k1, k2, k3⟩ (fun hHeld => ?_)
    refine wpAnyH_take (i := 0) (oi := { dst := some 6, op := Op.load 23 (Operand.tmp 1), type := 23, pos := "zone.go:38", after := #[], guard := none }) (v := ?_) rfl (by kernel_rfl) (by kernel_rfl) (by kernel_rfl) (fun _ _ _ h => h) (Or.inl ⟨by rfl, ?_⟩) (by assumption) ?_
    rotate_left
    · (intro w hSw; (try dsimp only at hSw); go_simp; (try with_reducible rfl))
    (try simp only [Act.put, List.setIfInBounds_toArray, List.set_cons_zero, List.set_cons_succ])
    refine wpAnyH_take (i := 1) (oi := { dst := some 7, op := Op.fieldAddr 23 (Operand.tmp 1) 0, type := 0, pos := "zone.go:38", after := #[], guard := none }) (v := ?_) rfl (by kernel_rfl) (by kernel_rfl) (by kernel_rfl) (fun _ _ _ h => h) (Or.inl ⟨by rfl, ?_⟩) (by assumption) ?_
    rotate_left
    · (intro w hSw; (try dsimp only at hSw); go_simp; (try with_reducible rfl))
    (try simp only [Act.put, List.setIfInBounds_toArray, List.set_cons_zero, List.set_cons_succ])
    refine wpAnyH_take (i := 2) (oi := { dst := some 8, op := Op.load 3 (Operand.tmp 7), type := 3, pos := "zone.go:38", after := #[{ on := 1, ground := Ground.data }], guard := none }) (v := ?_) rfl (by kernel_rfl) (by kernel_rfl) (by kernel_rfl) (fun _ _ _ h => h) (Or.inl ⟨by rfl, ?_⟩) (by assumption) ?_
    rotate_left
    · (intro w hSw; (try dsimp only at hSw); go_simp; (try with_reducible rfl))
    (try simp only [Act.put, List.setIfInBounds_toArray, List.set_cons_zero, List.set_cons_succ])
    refine wpAnyH_ready (rs := [3]) (by kernel_rfl) (by simp) ?_
    refine AllReadyH.cons (o := { dst := some 9, op := Op.makeSlice 101 (Operand.tmp 8) (Operand.tmp 8), type := 101, pos := "zone.go:38", after := #[{ on := 2, ground := Ground.data }, { on := 2, ground := Ground.data }], guard := none }) rfl (fun K hK => ?_) AllReadyH.nil
    refine Kd.S_make_step (w0 := w1.drew) partK w1.drew.heap.size 108 (by rfl) (N := 9) rfl 101 (.tmp 8) (.tmp 8) rfl z rfl rfl Try.underlying101 (.agg #[.slice none 0 0, .int .i64 0]) 32 info_part rfl (by decide) (by decide) ([], 0) (ok := fun k => w1.drew.heap.size ≤ k) (okp := fun _ => False) (zero_part _ _) (fun _ h => h.elim) (Nat.le_refl _) (by omega) (by omega) (Below.refl _ _) (Nat.le_refl _) ?_
    intro v1 w2 hS hb2 _ _
    have HS := Aside0.mk hS
    obtain ⟨A, c, rfl⟩ := Kd.R_slice (Kd.S_R hS)
    have HB2 := Aside0.mk hb2
    clear hS hb2
    refine hK.out _ _ ?_ (fun hHeld => ?_)
    · exact ⟨pw_cell_below HB2.out k0, pw_cell_below HB2.out k1, pw_cell_below HB2.out k2, pw_cell_below HB2.out k3⟩
    clear hK K
    (try simp only [Act.put, List.setIfInBounds_toArray, List.set_cons_zero, List.set_cons_succ])
    refine wpAnyH_take (i := 4) (oi := { dst := some 10, op := Op.build 103 #[(0, Operand.tmp 6), (1, Operand.tmp 9)], type := 103, pos := "zone.go:38", after := #[{ on := 0, ground := Ground.data }, { on := 3, ground := Ground.data }], guard := none }) (v := ?_) rfl (by kernel_rfl) (by kernel_rfl) (by kernel_rfl) (fun _ _ _ h => h) (Or.inl ⟨by rfl, ?_⟩) (by assumption) ?_
    rotate_left
    · (intro w hSw; (try dsimp only at hSw); go_simp; (try with_reducible rfl))
    (try simp only [Act.put, List.setIfInBounds_toArray, List.set_cons_zero, List.set_cons_succ])
    refine wpAnyH_ready (rs := [5]) (by kernel_rfl) (by simp) ?_
    refine AllReadyH.cons (o := { dst := some 11, op := Op.box 103 (Operand.tmp 10), type := 50, pos := "zone.go:38", after := #[{ on := 4, ground := Ground.data }], guard := none }) rfl (fun K hK => ?_) AllReadyH.nil
    go_simp
    refine hK.out _ _ ?_ (fun hHeld => ?_)
    · exact ⟨pw_cell_below (alloc_below _ _) hHeld.1, pw_cell_below (alloc_below _ _) hHeld.2.1, pw_cell_below (alloc_below _ _) hHeld.2.2.1, pw_cell_below (alloc_below _ _) hHeld.2.2.2⟩
    clear hK K
    (try simp only [Act.put, List.setIfInBounds_toArray, List.set_cons_zero, List.set_cons_succ])
    refine wpAnyH_take (i := 6) (oi := { dst := some 2, op := Op.assign (Operand.tmp 11), type := 50, pos := "zone.go:38", after := #[{ on := 5, ground := Ground.data }, { on := 0, ground := Ground.phase }, { on := 1, ground := Ground.phase }, { on := 2, ground := Ground.phase }, { on := 3, ground := Ground.phase }, { on := 4, ground := Ground.phase }, { on := 5, ground := Ground.phase }], guard := none }) (v := ?_) rfl (by kernel_rfl) (by kernel_rfl) (by kernel_rfl) (fun _ _ _ h => h) (Or.inl ⟨by rfl, ?_⟩) (by assumption) ?_
    rotate_left
    · (intro w hSw; (try dsimp only at hSw); go_simp; (try with_reducible rfl))
    (try simp only [Act.put, List.setIfInBounds_toArray, List.set_cons_zero, List.set_cons_succ])
    refine wpAnyH_done (by kernel_rfl) ?_ _
    go_wp2
    go_ret
    have hsz := HB1.out.size
    have hsz2 := HB2.out.size
    have hgs := HG.out
    have HS' := HS.out
    rw [List.length_replicate] at HS'
    refine ⟨.inr ⟨HRT.out, w2.heap.size, _, rfl, ⟨blk_here rfl, ?_⟩, ?_⟩, ?_⟩
    · exact Kd.S_mono (Kd.S_lower (Kd.S_alloc HS' _) (show w.heap.size ≤ w1.drew.heap.size from hsz)) (fun k hk => Nat.le_trans hsz hk)
    · exact Nat.le_trans hsz hsz2
    · exact (show Below w.heap.size w w1 from by rw [hgs]; exact HB1.out).trans (below_go (Below.refl _ _) (below_go (below_drew (Below.refl _ _)) (below_go HB2.out (alloc_below _ _))) |>.mono hsz)
  · rw [decide_eq_false hrt]
    have HRT := Aside0.mk hrt
    clear hrt
    go_wp2
    go_ret
    exact ⟨.inl ⟨HRT.out, rfl⟩, by rw [HG.out]; exact HB1.out⟩
end Go.Proofs.Ytkmeipblgdahoaa.Dv

/- Append to a device. -/
namespace Go.Proofs.Ytkmeipblgdahoaa.Dv
open Go.RowKit Go.Proofs.YtkmeipblgdahoaaW.PrintWords Go.Proofs.YtkmeipblgdahoaaW.PrintMore Go.Proofs.Ytkmeipblgdahoaa.Base Go.Proofs.Ytkmeipblgdahoaa.Shp
set_option maxRecDepth 100000
set_option linter.unusedVariables false
set_option linter.unusedSimpArgs false

/-- append(v, ys...) to bytes of the device's own. -/
theorem app_dev {ops : Array Oper} {rest : List Oper} {o : Oper} {a : Act} {Q : Exit → Act → World → Prop} {W : World} (base : Nat) (ok : Nat → Prop) (s x : Operand) (hgd : o.guard = none) (ho : o.op = .call { callee := .builtin .append, args := #[s, x], argTypes := #[39, 39] })
    (v : Value) (xs ys : List UInt8) (A : Option Addr) (m c : Nat) (hs : a.eval s = v) (hx : a.eval x = .slice A m c)
    (HO : byte.R 5 W base ok v xs) (hfresh : ∀ k, W.heap.size ≤ k → ok k) (HR : byte.C W A m ys) (hbase : base ≤ W.heap.size) (hl : xs.length + m ≤ 140737488355328)
    (h : ∀ v1 w1, byte.R 5 w1 base ok v1 (xs ++ ys) → W.grownBy w1 v.ownBlock → wpList Try.prog ops Q rest (a.put o.dst v1) w1) : wpList Try.prog ops Q (o :: rest) a W :=
  Kd.R_append_row (w0 := W) _ (0 : UInt8) base hgd s x 39 5 (.int .u8 0) 1 ho Try.underlying39 info_u8 rfl (by decide) v xs ys A m c ok hs hx hfresh HO HR (Below.refl _ _) hbase (by omega)
    (fun v1 w1 h1 h2 h3 _ => h v1 w1 h1 h3)

def addrV (z b : Int) (e : Int) : Ending := .returned (.tuple #[.agg #[.int .i64 z, .int .i64 b], .int .u16 e])
/-- What Append answers, and the parts behind it. -/
def AppR (zb b : Int) (ps : List Prt) (i : Int) (xs : List UInt8) (e : Ending) (ps' : List Prt) : Prop :=
  ((hasB ps.length i = false ∨ (xs.length : Int) ≠ b) ∧ e = addrV 0 0 100 ∧ ps' = ps) ∨
  (hasB ps.length i = true ∧ (xs.length : Int) = b ∧ zb ≤ ((ps.getD i.toNat ([], 0)).1.length : Int) / b ∧ e = addrV 0 0 101 ∧ ps' = ps) ∨
  (hasB ps.length i = true ∧ (xs.length : Int) = b ∧ ((ps.getD i.toNat ([], 0)).1.length : Int) / b < zb ∧ e = addrV i (((ps.getD i.toNat ([], 0)).1.length : Int) / b) 0 ∧ ps' = ps.set i.toNat ((ps.getD i.toNat ([], 0)).1 ++ xs, (ps.getD i.toNat ([], 0)).2))

theorem not_addr : ∀ q, q ∈ 108 :: partK.E → q ≠ 59 := by decide
/-- The result's cells. -/
theorem res_cells {w : World} {g : Nat} {x y : Int} (h : w.heap[g]? = some (.cells #[.int .i64 x, .int .i64 y] 59 (0, 0))) :
    w.cell? ⟨g, 0, none⟩ = some (.int .i64 x) ∧ w.cell? ⟨g, 1, none⟩ = some (.int .i64 y) ∧ w.frozen? ⟨g, 0, none⟩ = false ∧ w.frozen? ⟨g, 1, none⟩ = false :=
  ⟨by simp [World.cell?, h], by simp [World.cell?, h], by simp [World.frozen?, h], by simp [World.frozen?, h]⟩
theorem Dev.res {w : World} {xb base : Nat} {ok : Nat → Prop} {z zb b r : Int} {ps : List Prt} {v : Value} (h : Dev w xb base ok z zb b r ps v) {g : Nat} {cells : Array Value} (hb : w.heap[g]? = some (.cells cells 59 (0, 0))) (hx : xb ≠ g) (u u' : Value) :
    Dev ((w.setCell ⟨g, 0, none⟩ u).setCell ⟨g, 1, none⟩ u') xb base ok z zb b r ps v :=
  (h.set hb not_addr hx 0 u).set (blk_set hb 0 u) not_addr hx 1 u'
set_option maxHeartbeats 4000000 in
theorem append_calls (xb base : Nat) (ok : Nat → Prop) (z zb b r : Int) (hrt : Rt z zb b r) (ps : List Prt) (v : Value) (i : Int) (hi : IsI i) (A : Option Addr) (n cap : Nat) (xs : List UInt8) (w : World) (h : Dev w xb base ok z zb b r ps v)
    (hok : ∀ k, w.heap.size ≤ k → ok k) (hC : byte.C w A n xs) (hsz : ∀ p ∈ ps, p.1.length ≤ 100000000) :
    Calls Try.prog 25 #[.pointer (some ⟨xb, 0, none⟩), .int .i64 i, .slice A n cap] w
      fun e w' => ∃ ps', AppR zb b ps i xs e ps' ∧ Dev w' xb base ok z zb b r ps' v ∧ Chg w w' ok := by
  obtain ⟨hlen, hmax⟩ := C_len hC
  have HL := Aside0.mk hlen
  have HC := Aside0.mk hC
  have hxg : xb ≠ w.heap.size := by have := (Array.getElem?_eq_some_iff.1 h.blk).1; omega
  have hA := alloc_below w (.cells #[.int .i64 0, .int .i64 0] 59)
  have HD := Aside0.mk (h.below hA)
  have HA := Aside0.mk hA
  have HOK := Aside0.mk hok
  have HSZ := Aside0.mk hsz
  obtain ⟨hb1, hb2⟩ := pow_rng hrt.2.2.2.2.1
  have HRT := Aside0.mk hrt
  obtain ⟨k0, k1, k2, k3, k4⟩ := HD.out.cells
  obtain ⟨hi1, hi2⟩ := hi
  clear hlen hC hA h hok hsz hrt k0 k3
  by_cases hh : 0 ≤ i ∧ i < (ps.length : Int)
  · have HH := Aside0.mk (hasB_true hh.1 hh.2)
    by_cases hnb : (n : Int) = b
    · have hnb2 : ((n : Int) != b) = false := by rw [bne_eq_false_iff_eq]; exact hnb
      have hnb3 : ((n : Int) == b) = true := by rw [beq_iff_eq]; exact hnb
      obtain ⟨j, rfl⟩ : ∃ j : Nat, i = (j : Int) := ⟨i.toNat, by omega⟩
      obtain ⟨p, hp⟩ : ∃ p, ps.getD j ([], 0) = p := ⟨_, rfl⟩
      obtain ⟨ad, cp, B, k, oki, rfl, c0, c1, hk, hI, hB, -, -, -, -, -, -, -, -, -⟩ := HD.out.part (by omega) hp
      have hpm : p.1.length ≤ 100000000 := HSZ.out p (by rw [← hp, List.getD_eq_getElem?_getD, List.getElem?_eq_getElem (by omega)]; exact List.getElem_mem _)
      have HP := Aside0.mk hp
      obtain ⟨m, hm⟩ : ∃ m, ps.length = m := ⟨_, rfl⟩
      have HM := Aside0.mk hm
      obtain ⟨hh0, hh1⟩ := hh
      rw [hm] at hh1 k4
      have hmm : m ≤ 9223372036854775807 := by
        obtain ⟨_, _, _, _, e2, _, _, e3⟩ := HD.out.form
        omega
      clear hp hm hB hI
      go_enter Try.func25, Try.ntmps25
      go_wp2_with fail
      refine (has_calls xb base ok z zb b r ps _ (j : Int) ⟨by omega, by omega⟩ _ HD.out).mono ?_
      rintro e w2 ⟨rfl, rfl⟩
      rw [HH.out]
      go_wp2_with fail
      refine (count_calls xb base ok z zb b r (by omega) (by omega) ps _ B p.1.length k (by omega) p.2 _ HD.out).mono ?_
      rintro e w3 ⟨rfl, hw3⟩
      have HD3 := Aside0.mk (HD.out.below hw3)
      have HC3 := Aside0.mk (Kd.C_below HC.out (below_go HA.out hw3))
      have HG := Aside0.mk (show w3.heap[w.heap.size]? = some (.cells #[.int .i64 0, .int .i64 0] 59 (0, 0)) from (hw3.block _ (by simp)).trans (blk_here rfl))
      have HB3 := Aside0.mk (below_go HA.out hw3)
      have HXG := Aside0.mk (show xb ≠ w.heap.size from hxg)
      have HCH := Aside0.mk (show Chg w w3 ok from Chg.of_below HB3.out _)
      have HFR := Aside0.mk (show ∀ k, w3.heap.size ≤ k → ok k from fun k hk => HOK.out k (Nat.le_trans HB3.out.size hk))
      have HGE := Aside0.mk (show w.heap.size ≤ w.heap.size from Nat.le_refl _)
      clear k1 k2 k4 c0 c1 hw3 HC HA HD hxg
      obtain ⟨g, hg⟩ : ∃ g, w.heap.size = g := ⟨_, rfl⟩
      rw [hg] at HG HXG ⊢
      have HGG := Aside0.mk hg
      clear hg HGE
      obtain ⟨-, k1, k2, -, k4⟩ := HD3.out.cells
      obtain ⟨g0, g1, f0, f1⟩ := res_cells HG.out
      obtain ⟨q, hq⟩ : ∃ q, (p.1.length : Int) / b = q := ⟨_, rfl⟩
      have HQ := Aside0.mk hq
      rw [hq]
      clear hq
      by_cases hcnt : zb ≤ q
      · go_wp2
        refine bodyPost_ret (by simp [results, Try.results25, go_sem, *]; rfl) rfl ?_
        refine ⟨ps, .inr (.inl ⟨HH.out, by rw [HL.out]; exact hnb, ?_, rfl, rfl⟩), HD3.out.res HG.out HXG.out _ _, (HCH.out.set (.inr (Nat.le_of_eq HGG.out)) _).set (.inr (Nat.le_of_eq HGG.out)) _⟩
        rw [Int.toNat_natCast, HP.out, HQ.out]; exact hcnt
      · obtain ⟨ad', cp', B', k', oki, hv, c0, c1, hk', hI', hB', hf0, hf1, hokg, hgx, hgl, hR, hoki, happ, -⟩ := HD3.out.part (by rw [HM.out]; omega) HP.out
        obtain ⟨rfl, rfl⟩ : ad = ad' ∧ cp = cp' := by simp only [Value.slice.injEq, Option.some.injEq] at hv; exact ⟨hv.1, hv.2.2⟩
        have HR := Aside0.mk hR
        have HAP := Aside0.mk happ
        have HOKI := Aside0.mk hoki
        have HBS := Aside0.mk (show base ≤ w3.heap.size from Nat.le_trans (Kd.S_base HD3.out.row ad.block (by obtain ⟨g', hg'⟩ := Kd.R_head (Kd.S_R HD3.out.row); rw [hg']; rfl)) (Nat.le_of_lt hgl))
        have HGL := Aside0.mk (Array.getElem?_eq_some_iff.1 HG.out).1
        have HNO := Aside0.mk (show some g ≠ (Value.slice B' p.1.length k').ownBlock from by
          intro e
          obtain ⟨cells, hc⟩ := Kd.R_typed hR g e.symm
          rw [HG.out] at hc
          simp at hc)
        have hga : ad.block ≠ g := by
          intro e
          obtain ⟨g', hg'⟩ := Kd.R_head (Kd.S_R HD3.out.row)
          obtain ⟨cells, hc⟩ := Kd.S_typed HD3.out.row ad.block (by rw [hg']; rfl)
          rw [e, HG.out] at hc
          simp at hc
        have hn0 : ad.add (j * 2) ≠ ⟨g, 0, none⟩ := fun e => hga (by have := congrArg Addr.block e; simpa [add_block] using this)
        have hn1 : ad.add (j * 2) ≠ ⟨g, 1, none⟩ := fun e => hga (by have := congrArg Addr.block e; simpa [add_block] using this)
        have hn2 := hn0.symm
        have hn3 := hn1.symm
        have HGA := Aside0.mk hga
        clear hv hB' hf0 hf1 hR hoki happ hga
        go_wp2_with (at_builtin; go_loud (refine app_dev base (fun k => oki k ∨ w3.heap.size ≤ k) (.tmp 48) (.tmp 49) rfl rfl _ p.1 xs A n cap rfl rfl (Kd.R_mono HR.out (fun k hk => .inl hk)) (fun k hk => .inr hk) HC3.out HBS.out (by omega) ?_); go_loud (intro v4 w4 hR4 hg4; obtain ⟨A4, c4, rfl, _, _⟩ := Kd.R_reads hR4; obtain ⟨hS4, hgr4, fr4, cl4⟩ := HAP.out w4 _ _ hg4 hR4 HFR.out; simp only [List.length_append] at hS4 hgr4; have HS4 := Aside0.mk hS4; have HGR4 := Aside0.mk hgr4; have HG4 := Aside0.mk hg4; have HRS := Aside0.mk (show w4.heap[g]? = some (.cells #[.int .i64 0, .int .i64 0] 59 (0, 0)) from (hg4.block g HGL.out HNO.out).trans HG.out); obtain ⟨q0, q1, q2, q3⟩ := res_cells HRS.out; clear hS4 hgr4 hg4 hR4))
        refine bodyPost_ret (by simp [results, Try.results25, go_sem, *]; rfl) rfl ?_
        have hab : (ad.add (j * 2)).block = ad.block := add_block _ _
        have hxl := (Array.getElem?_eq_some_iff.1 HD3.out.blk).1
        have hxo : some xb ≠ (Value.slice B' p.1.length k').ownBlock := by
          intro e
          obtain ⟨cells, hc⟩ := Kd.R_typed HR.out xb e.symm
          rw [HD3.out.blk] at hc
          simp at hc
        have dev5 : Dev (w4.setCell (ad.add (j * 2)) (.slice A4 (p.1.length + xs.length) c4)) xb base ok z zb b r (ps.set j (p.1 ++ xs, p.2)) (.slice (some ad) ps.length cp) :=
          ⟨blk_far ((HG4.out.block xb hxl hxo).trans HD3.out.blk) (by rw [hab]; exact hgx.symm) _, HS4.out⟩
        refine ⟨ps.set j (p.1 ++ xs, p.2), .inr (.inr ⟨HH.out, by rw [HL.out]; exact hnb, ?_, ?_, ?_⟩), dev5.res (blk_far HRS.out (by rw [hab]; exact HGA.out.symm) _) HXG.out _ _, ?_⟩
        · rw [Int.toNat_natCast, HP.out, HQ.out]; omega
        · rw [Int.toNat_natCast, HP.out, HQ.out]; rfl
        · rw [Int.toNat_natCast, HP.out]
        · exact (((HCH.out.grown HG4.out (fun k hk => .inl (HOKI.out k (HR.out.1 k hk)).1)).set (.inl (by rw [hab]; exact hokg)) _).set (.inr (Nat.le_of_eq HGG.out)) _).set (.inr (Nat.le_of_eq HGG.out)) _
    · have hnb2 : ((n : Int) != b) = true := by rw [bne_iff_ne]; exact hnb
      have hnb3 : ((n : Int) == b) = false := by rw [beq_eq_false_iff_ne]; exact hnb
      have HNB := Aside0.mk hnb
      clear hnb hh
      go_enter Try.func25, Try.ntmps25
      go_wp2_with fail
      refine (has_calls xb base ok z zb b r ps v i ⟨hi1, hi2⟩ _ HD.out).mono ?_
      rintro e w2 ⟨rfl, rfl⟩
      rw [HH.out]
      go_wp2
      go_returns
      exact ⟨ps, .inl ⟨.inr (by rw [HL.out]; exact HNB.out), rfl, rfl⟩, HD.out, Chg.of_below HA.out _⟩
  · have HH := Aside0.mk (hasB_false hh)
    clear hh
    go_enter Try.func25, Try.ntmps25
    go_wp2_with fail
    refine (has_calls xb base ok z zb b r ps v i ⟨hi1, hi2⟩ _ HD.out).mono ?_
    rintro e w2 ⟨rfl, rfl⟩
    rw [HH.out]
    go_wp2
    go_returns
    exact ⟨ps, .inl ⟨.inl HH.out, rfl, rfl⟩, HD.out, Chg.of_below HA.out _⟩
end Go.Proofs.Ytkmeipblgdahoaa.Dv

/- Clone, Block, SameBytes, Small; Read of a device. -/
namespace Go.Proofs.Ytkmeipblgdahoaa.Dv
open Go.RowKit Go.Proofs.YtkmeipblgdahoaaW.PrintWords Go.Proofs.YtkmeipblgdahoaaW.PrintMore Go.Proofs.Ytkmeipblgdahoaa.Base Go.Proofs.Ytkmeipblgdahoaa.Shp
set_option maxRecDepth 100000
set_option linter.unusedVariables false
set_option linter.unusedSimpArgs false

theorem own_empty (w : World) (base : Nat) (hb : base ≤ w.heap.size) : Base.Own (w.alloc (.cells #[] 5)) base (.slice (some ⟨w.heap.size, 0, none⟩) 0 0) [] :=
  ⟨fun _ _ => trivial, [], ⟨rfl, .inr ⟨w.heap.size, 0, #[], rfl, hb, heap_alloc_new w _, Nat.le_refl _, Nat.zero_le _, rfl, rfl⟩⟩, rfl, fun j p hj => by simp at hj⟩
set_option maxRecDepth 100000 in
theorem clone_calls (A : Option Addr) (n cap : Nat) (xs : List UInt8) (hn : n ≤ 140737488355328) (w : World) (h : byte.C w A n xs) :
    Calls Try.prog 64 #[.slice A n cap] w fun e w' => ∃ v, e = .returned v ∧ Base.Own w' w.heap.size v xs ∧ Below w.heap.size w w' := by
  have H := Aside0.mk h
  have hnil : ∀ (c : Nat) (W : World), (binOp .eql 39 (.slice none 0 c) (.slice none 0 0)).run Try.prog W = .ok (.bool true) W := fun _ _ => by kernel_rfl
  have hnot : ∀ (a : Addr) (m c : Nat) (W : World), (binOp .eql 39 (.slice (some a) m c) (.slice none 0 0)).run Try.prog W = .ok (.bool false) W := fun _ _ _ _ => by kernel_rfl
  cases A with
  | none =>
    have hn0 : n = 0 := by
      rcases Nat.eq_zero_or_pos n with h0 | h0
      · exact h0
      · obtain ⟨ad, he, _⟩ := h.2.2 h0
        cases he
    subst hn0
    have hx : xs = [] := List.eq_nil_of_length_eq_zero h.1
    subst hx
    clear h
    go_enter Try.func64, Try.ntmps64
    go_wp2
    go_ret
    exact ⟨_, rfl, Base.Own.nil _ _, Below.refl _ _⟩
  | some ad =>
    have HC := Aside0.mk (Kd.C_below h (alloc_below w (.cells #[] 5)))
    have HO := Aside0.mk (own_empty w w.heap.size (Nat.le_refl _))
    have HB := Aside0.mk (alloc_below w (.cells #[] 5))
    clear h
    go_enter Try.func64, Try.ntmps64
    go_wp2_with (at_builtin; go_loud (refine app_row (w0 := w) w.heap.size (.tmp 5) (.tmp 6) rfl rfl _ [] xs (some ad) n cap rfl rfl HO.out HC.out HB.out (by simp) (by simp; omega) ?_); intro v1 w1 hO hB _; have HO1 := Aside0.mk hO; have HB1 := Aside0.mk hB; clear hO hB)
    go_ret
    exact ⟨_, rfl, HO1.out, HB1.out⟩
theorem small_calls (z zb b r : Int) (hz : IsI z) (hzb : IsI zb) (hb : IsI b) (hr : IsI r) (w : World) :
    Calls Try.prog 20 #[.agg #[.int .i64 z, .int .i64 zb, .int .i64 b, .int .i64 r]] w
      fun e w' => e = .returned (.bool (decide (z ≤ 12) && decide (zb ≤ 16) && decide (b ≤ 128))) ∧ Below w.heap.size w w' := by
  have hA := Aside0.mk (alloc_below w (.cells #[.int .i64 z, .int .i64 zb, .int .i64 b, .int .i64 r] 23))
  cases h1 : decide (z ≤ 12) <;> cases h2 : decide (zb ≤ 16) <;> cases h3 : decide (b ≤ 128)
  all_goals
    go_enter Try.func20, Try.ntmps20
    go_wp2
    go_ret
    exact ⟨rfl, hA.out⟩
end Go.Proofs.Ytkmeipblgdahoaa.Dv

/- Read of a device. -/
namespace Go.Proofs.Ytkmeipblgdahoaa.Dv
open Go.RowKit Go.Proofs.YtkmeipblgdahoaaW.PrintWords Go.Proofs.YtkmeipblgdahoaaW.PrintMore Go.Proofs.Ytkmeipblgdahoaa.Base Go.Proofs.Ytkmeipblgdahoaa.Shp
set_option maxRecDepth 100000
set_option linter.unusedVariables false
set_option linter.unusedSimpArgs false

def ReadR (b : Int) (ps : List Prt) (zi bi : Int) (er : Int) (bs : List UInt8) : Prop :=
  (hasB ps.length zi = false ∧ er = 100 ∧ bs = []) ∨
  (hasB ps.length zi = true ∧ ¬ (0 ≤ bi ∧ bi < ((ps.getD zi.toNat ([], 0)).1.length : Int) / b) ∧ er = 102 ∧ bs = []) ∨
  (hasB ps.length zi = true ∧ (0 ≤ bi ∧ bi < ((ps.getD zi.toNat ([], 0)).1.length : Int) / b) ∧ er = 0 ∧ bs = ((ps.getD zi.toNat ([], 0)).1.drop (bi * b).toNat).take b.toNat)

/-- What Read answers: new bytes. -/
def ReadP (w w' : World) (b : Int) (ps : List Prt) (zi bi : Int) (e : Ending) : Prop := ∃ u er bs, e = .returned (.tuple #[u, .int .u16 er]) ∧ ReadR b ps zi bi er bs ∧ Base.Own w' w.heap.size u bs
set_option maxHeartbeats 4000000 in
theorem read_calls (xb base : Nat) (ok : Nat → Prop) (z zb b r : Int) (hrt : Rt z zb b r) (ps : List Prt) (v : Value) (zi bi : Int) (hzi : IsI zi) (hbi : IsI bi) (w : World) (h : Dev w xb base ok z zb b r ps v)
    (hsz : ∀ p ∈ ps, p.1.length ≤ 100000000) :
    Calls Try.prog 76 #[.pointer (some ⟨xb, 0, none⟩), .agg #[.int .i64 zi, .int .i64 bi]] w
      fun e w' => ReadP w w' b ps zi bi e ∧ Below w.heap.size w w' := by
  have hA := alloc_below w (.cells #[.int .i64 zi, .int .i64 bi] 59)
  have HD := Aside0.mk (h.below hA)
  have HA := Aside0.mk hA
  have HSZ := Aside0.mk hsz
  obtain ⟨hb1, hb2⟩ := pow_rng hrt.2.2.2.2.1
  have HRT := Aside0.mk hrt
  obtain ⟨hzi1, hzi2⟩ := hzi
  obtain ⟨hbi1, hbi2⟩ := hbi
  clear hA h hsz hrt
  by_cases hh : 0 ≤ zi ∧ zi < (ps.length : Int)
  · have HH := Aside0.mk (hasB_true hh.1 hh.2)
    obtain ⟨j, rfl⟩ : ∃ j : Nat, zi = (j : Int) := ⟨zi.toNat, by omega⟩
    obtain ⟨p, hp⟩ : ∃ p, ps.getD j ([], 0) = p := ⟨_, rfl⟩
    obtain ⟨ad, cp, B, k, oki, rfl, c0, c1, hk, hI, hB, -, -, -, -, -, -, -, -, -⟩ := HD.out.part (by omega) hp
    have hpm : p.1.length ≤ 100000000 := HSZ.out p (by rw [← hp, List.getD_eq_getElem?_getD, List.getElem?_eq_getElem (by omega)]; exact List.getElem_mem _)
    have HP := Aside0.mk hp
    obtain ⟨m, hm⟩ : ∃ m, ps.length = m := ⟨_, rfl⟩
    have HM := Aside0.mk hm
    obtain ⟨hh0, hh1⟩ := hh
    obtain ⟨-, -, k2, -, k4⟩ := HD.out.cells
    rw [hm] at hh1 k4
    have hmm : m ≤ 9223372036854775807 := by
      obtain ⟨_, _, _, _, e2, _, _, e3⟩ := HD.out.form
      omega
    have HBY := Aside0.mk hB
    have d0 : (w.alloc (.cells #[.int .i64 (j : Int), .int .i64 bi] 59)).cell? ⟨w.heap.size, 0, none⟩ = some (.int .i64 (j : Int)) := by go_simp
    have d1 : (w.alloc (.cells #[.int .i64 (j : Int), .int .i64 bi] 59)).cell? ⟨w.heap.size, 1, none⟩ = some (.int .i64 bi) := by go_simp
    clear hp hm hB hI
    go_enter Try.func76, Try.ntmps76
    go_wp2_with fail
    refine (has_calls xb base ok z zb b r ps _ (j : Int) ⟨by omega, by omega⟩ _ HD.out).mono ?_
    rintro e w2 ⟨rfl, rfl⟩
    rw [HH.out]
    obtain ⟨W, hW⟩ : ∃ W, w.alloc (.cells #[.int .i64 (j : Int), .int .i64 bi] 59) = W := ⟨_, rfl⟩
    obtain ⟨g, hg⟩ : ∃ g, w.heap.size = g := ⟨_, rfl⟩
    rw [hW] at HD HA c0 c1 k2 k4 d0 d1 HBY ⊢
    rw [hg] at HA d0 d1 ⊢
    have HG := Aside0.mk hg
    clear hW hg
    go_wp2
    go_region_held3 (fun w' => w'.cell? ⟨xb, 4, none⟩ = some (.slice (some ad) m cp) ∧ w'.cell? ⟨g, 0, none⟩ = some (.int .i64 (j : Int)) ∧ w'.cell? (ad.add (j * 2)) = some (.slice B p.1.length k) ∧ w'.cell? ⟨(ad.add (j * 2)).block, (ad.add (j * 2)).off + 1, none⟩ = some (.int .i64 p.2) ∧ Below W.heap.size W w')
      (first | exact ⟨k4, d0, c0, c1, below_drew (Below.refl _ _)⟩ | exact ⟨pw_cell_below (alloc_below _ _) k4, pw_cell_below (alloc_below _ _) d0, pw_cell_below (alloc_below _ _) c0, pw_cell_below (alloc_below _ _) c1, below_go (below_drew (Below.refl _ _)) (alloc_below _ _)⟩)
      (fail)
    go_split_ands
    have hbw := ‹Below W.heap.size W _›
    have HB2 := Aside0.mk hbw
    have HD2 := Aside0.mk (HD.out.below hbw)
    have HBY2 := Aside0.mk (Kd.C_below HBY.out hbw)
    have HW2 := Aside0.mk (below_then HA.out (by have h1 := HA.out.size; have h2 := HG.out; omega) hbw)
    have e0 : (W.alloc (.cells #[.slice B p.1.length k, .int .i64 p.2] 108)).drew.cell? ⟨W.heap.size, 0, none⟩ = some (.slice B p.1.length k) := by go_simp
    have e1 : (W.alloc (.cells #[.slice B p.1.length k, .int .i64 p.2] 108)).drew.cell? ⟨W.heap.size, 1, none⟩ = some (.int .i64 p.2) := by go_simp
    have d0 := pw_cell_below hbw d0
    have d1 := pw_cell_below hbw d1
    have k2 := pw_cell_below hbw k2
    clear hbw HB2 c0 c1 k4
    generalize (W.alloc (.cells #[.slice B p.1.length k, .int .i64 p.2] 108)).drew = W2 at *
    generalize W.heap.size = g2 at *
    obtain ⟨q, hq⟩ : ∃ q, (p.1.length : Int) / b = q := ⟨_, rfl⟩
    have HQ := Aside0.mk hq
    by_cases hn : bi < 0
    · go_wp2
      go_quiet (fail)
      have HW3 := Aside0.mk (pw_below_drewN HW2.out nq)
      go_wp2
      go_ret2
      exact ⟨⟨_, 102, [], rfl, .inr (.inl ⟨HH.out, fun h => by omega, rfl, rfl⟩), Base.Own.nil _ _⟩, by rw [HG.out]; exact HW3.out⟩
    · go_wp2
      have hnd : decide (bi < 0) = false := decide_eq_false (by omega)
      go_region_held3 (fun w' => w'.cell? ⟨g, 1, none⟩ = some (.int .i64 bi) ∧ w'.cell? ⟨g2, 0, none⟩ = some (.slice B p.1.length k) ∧ w'.cell? ⟨g2, 1, none⟩ = some (.int .i64 p.2) ∧ Below W2.heap.size W2 w')
        (first | exact ⟨d1, e0, e1, below_drew (Below.refl _ _)⟩ | exact ⟨pw_cell_below hw8 (by assumption), pw_cell_below hw8 (by assumption), pw_cell_below hw8 (by assumption), below_go (below_drew (Below.refl _ _)) hw8⟩ | (go_split_ands; exact ⟨pw_cell_below hw8 (by assumption), pw_cell_below hw8 (by assumption), pw_cell_below hw8 (by assumption), below_go (by assumption) hw8⟩))
        (first | (go_at_call 53; (with_reducible refine (count_calls xb base ok z zb b r (by omega) (by omega) ps _ B p.1.length k (by omega) p.2 _ (HD2.out.below (below_drew (Below.refl _ _)))).mono ?_); rintro e w8 ⟨rfl, hw8⟩))
      go_split_ands
      have hbw := ‹Below W2.heap.size W2 _›
      have k2 := pw_cell_below hbw k2
      have HW8 := Aside0.mk (below_then HW2.out (by have h1 := HW2.out.size; have h2 := HG.out; omega) hbw)
      have HBY8 := Aside0.mk (Kd.C_below HBY2.out hbw)
      clear hbw hw8 hnd d0 d1 e0 e1 HBY2 HD2 HBY HD
      by_cases hlt : bi < q
      · have hd : ¬ q ≤ bi := by omega
        have hmul1 : q * b ≤ (p.1.length : Int) := by rw [← hq]; exact Int.ediv_mul_le _ (by omega)
        have hmul2 : (bi + 1) * b ≤ q * b := Int.mul_le_mul_of_nonneg_right (by omega) (by omega)
        have hmul3 : (bi + 1) * b = bi * b + b := by rw [Int.add_mul, Int.one_mul]
        have hmul4 : 0 ≤ bi * b := Int.mul_nonneg (by omega) (by omega)
        obtain ⟨t, ht⟩ : ∃ t : Nat, bi * b = (t : Int) := ⟨(bi * b).toNat, by omega⟩
        obtain ⟨bn, hbn⟩ : ∃ bn : Nat, b = (bn : Int) := ⟨b.toNat, by omega⟩
        have htl : t + bn ≤ p.1.length := by omega
        have ew : wrap64 (bi * (bn : Int)) = (t : Int) := by rw [← hbn, ht]; exact IntWalk.wrap64_in _ (by omega)
        obtain ⟨i0, hi0, hzz⟩ := Option.map_eq_some_iff.1 info_u8
        simp only [Prod.mk.injEq] at hzz
        have hcut := cut_mid (P := Try.prog) 39 5 .i64 .i64 Try.underlying39 hi0 1 hzz.2.1 B p.1.length k (t : Int) ((t : Int) + (bn : Int)) (by omega) (by omega) (by omega) hk
        rw [Int.toNat_natCast, show ((t : Int) + (bn : Int)).toNat - t = bn by omega] at hcut
        obtain ⟨B1, hB1⟩ : ∃ B1, (if k = t then B else B.map (·.add (t * 1))) = B1 := ⟨_, rfl⟩
        rw [hB1] at hcut
        have HCC := Aside0.mk (show byte.C _ B1 bn ((p.1.drop t).take bn) from by
          have h1 := C_drop HBY8.out hk t (by omega)
          rw [← hB1]
          exact C_take h1 bn (by omega))
        have HT := Aside0.mk ht
        have HBN := Aside0.mk hbn
        clear hmul1 hmul2 hmul3 hmul4 ht hB1 hzz hi0
        go_wp2
        go_quiet (fail)
        have HW9 := Aside0.mk (pw_below_drewN HW8.out nq)
        have HC9 := Aside0.mk (Kd.C_below HCC.out (pw_below_drewN (Below.refl _ _) nq))
        have k2 := pw_cell_below (pw_below_drewN (Below.refl w8.heap.size w8) nq) k2
        have e8 := pw_cell_below (pw_below_drewN (Below.refl w8.heap.size w8) nq) ‹w8.cell? ⟨g2, 0, none⟩ = some (.slice B p.1.length k)›
        rw [ew]
        generalize w8.drewN nq = w10 at *
        rw [hbn] at k2
        have ew2 : IntKind.i64.wrap ((t : Int) + (bn : Int)) = (t : Int) + (bn : Int) := IntWalk.i64_in _ (by omega)
        have HBI := Aside0.mk (show 0 ≤ bi ∧ bi < q from ⟨by omega, hlt⟩)
        clear ew hbn hd hlt hn
        go_wp2
        go_region_held3 (fun w' => w'.cell? ⟨xb, 2, none⟩ = some (.int .i64 (bn : Int)) ∧ w'.cell? ⟨g2, 0, none⟩ = some (.slice B p.1.length k))
          (first | exact ⟨k2, e8⟩ | exact ⟨pw_cell_below hw11 k2, pw_cell_below hw11 e8⟩)
          (first | (go_at_call 64; (with_reducible refine (clone_calls B1 bn (k - t) _ (by omega) _ (Kd.C_below HC9.out (below_drew (Below.refl _ _)))).mono ?_); rintro e w11 ⟨v11, rfl, hO11, hw11⟩))
        go_wp2
        go_ret2
        have hsz11 := HW9.out.size
        have hOw : Base.Own w11 w.heap.size v11 ((p.1.drop t).take bn) := Kd.R_lower hO11 (show w.heap.size ≤ w10.drew.heap.size from hsz11)
        have hbi := HBI.out
        have hBel : Below w.heap.size w w11 := by
          have h1 := HW9.out
          rw [← HG.out] at h1
          exact h1.trans (below_go (below_drew (Below.refl _ _)) hw11 |>.mono hsz11)
        refine ⟨⟨v11, 0, (p.1.drop t).take bn, rfl, .inr (.inr ⟨HH.out, ?_, rfl, ?_⟩), hOw⟩, hBel⟩
        · rw [Int.toNat_natCast, HP.out, HQ.out]; exact hbi
        · rw [Int.toNat_natCast, HP.out, HT.out, Int.toNat_natCast, HBN.out, Int.toNat_natCast]
      · have hd : q ≤ bi := by omega
        go_wp2
        go_ret2
        exact ⟨⟨_, 102, [], rfl, .inr (.inl ⟨HH.out, fun h => by rw [Int.toNat_natCast, HP.out, HQ.out] at h; omega, rfl, rfl⟩), Base.Own.nil _ _⟩, by rw [HG.out]; exact HW8.out⟩
  · have HH := Aside0.mk (hasB_false hh)
    clear hh
    go_enter Try.func76, Try.ntmps76
    go_wp2_with fail
    refine (has_calls xb base ok z zb b r ps v zi ⟨hzi1, hzi2⟩ _ HD.out).mono ?_
    rintro e w2 ⟨rfl, rfl⟩
    rw [HH.out]
    go_wp2
    go_ret2
    exact ⟨⟨_, 100, [], rfl, .inl ⟨HH.out, rfl, rfl⟩, Base.Own.nil _ _⟩, HA.out⟩
end Go.Proofs.Ytkmeipblgdahoaa.Dv

/- Reset, At, Flush of a device. -/
namespace Go.Proofs.Ytkmeipblgdahoaa.Dv
open Go.RowKit Go.Proofs.YtkmeipblgdahoaaW.PrintWords Go.Proofs.YtkmeipblgdahoaaW.PrintMore Go.Proofs.Ytkmeipblgdahoaa.Base Go.Proofs.Ytkmeipblgdahoaa.Shp
set_option maxRecDepth 100000
set_option linter.unusedVariables false
set_option linter.unusedSimpArgs false
/-- A part is made empty. -/
theorem Dev.wiped {w : World} {xb base : Nat} {ok : Nat → Prop} {z zb b r : Int} {ps : List Prt} {ad : Addr} {cap : Nat} (h : Dev w xb base ok z zb b r ps (.slice (some ad) ps.length cap)) {j : Nat} (hj : j < ps.length) :
    Kd.S partK 108 ((w.setCell (ad.add (j * 2)) (.slice none 0 0)).setCell ⟨(ad.add (j * 2)).block, (ad.add (j * 2)).off + 1, none⟩ (.int .i64 0)) base ok (.slice (some ad) ps.length cap) (ps.set j ([], 0)) := by
  obtain ⟨g, rfl⟩ := Kd.R_head (Kd.S_R h.row)
  obtain ⟨oki, c, hcl, hM, hcc, hfr, hoki, hH⟩ := Kd.S_elem h.row ([], 0) (j : Int) (by omega) (by omega)
  have hs : partK.sz = 2 := rfl
  have ea : (⟨g, 0, none⟩ : Addr).add (j * 2) = ⟨g, j * 2, none⟩ := by rw [add_plain]
  obtain ⟨H2, hg2⟩ := Kd.H_seg hH (by omega) (by omega) (seg := [.slice none 0 0, .int .i64 0]) (j := 0) (by rw [hs]; exact Nat.le_refl 2) (fun q hq => by simp at hq; rcases hq with rfl | rfl <;> rfl)
  rw [Int.toNat_natCast, hs] at H2 hg2
  rw [ea]
  have es : w.setCells g (j * 2 + 0) [.slice none 0 0, .int .i64 0] = (w.setCell ⟨g, j * 2, none⟩ (.slice none 0 0)).setCell ⟨g, j * 2 + 1, none⟩ (.int .i64 0) := rfl
  rw [es] at H2
  have hd : c.drop (0 + [Value.slice none 0 0, Value.int .i64 0].length) = [] := List.drop_eq_nil_of_le (by rw [hcl, hs]; exact Nat.le_refl 2)
  rw [hd] at H2
  have := Kd.H_back H2 (x' := ([], 0)) (okp := fun _ => False) ⟨[.slice none 0 0], [.int .i64 0], rfl, ⟨_, rfl, Kd.R_nil _ _ _ _ _⟩, ⟨rfl, by decide⟩⟩ (fun k hk => hk.elim)
  rwa [Int.toNat_natCast] at this

def ResR (ps : List Prt) (i : Int) (e : Ending) (ps' : List Prt) : Prop := (hasB ps.length i = false ∧ e = .returned (.int .u16 100) ∧ ps' = ps) ∨ (hasB ps.length i = true ∧ e = .returned (.int .u16 0) ∧ ps' = ps.set i.toNat ([], 0))
theorem reset_calls (xb base : Nat) (ok : Nat → Prop) (z zb b r : Int) (ps : List Prt) (v : Value) (i : Int) (hi : IsI i) (w : World) (h : Dev w xb base ok z zb b r ps v) :
    Calls Try.prog 24 #[.pointer (some ⟨xb, 0, none⟩), .int .i64 i] w fun e w' => ∃ ps', ResR ps i e ps' ∧ Dev w' xb base ok z zb b r ps' v ∧ Chg w w' ok := by
  have HD := Aside0.mk h
  obtain ⟨hi1, hi2⟩ := hi
  obtain ⟨-, -, -, -, k4⟩ := h.cells
  clear h
  by_cases hh : 0 ≤ i ∧ i < (ps.length : Int)
  · have HH := Aside0.mk (hasB_true hh.1 hh.2)
    obtain ⟨j, rfl⟩ : ∃ j : Nat, i = (j : Int) := ⟨i.toNat, by omega⟩
    obtain ⟨p, hp⟩ : ∃ p, ps.getD j ([], 0) = p := ⟨_, rfl⟩
    obtain ⟨ad, cp, B, k, oki, rfl, c0, c1, hk, hI, hB, f0, f1, hoa, hax, hal, -, -, -, -⟩ := HD.out.part (by omega) hp
    have HS := Aside0.mk (HD.out.wiped (j := j) (by omega))
    have HO := Aside0.mk hoa
    have HX := Aside0.mk hax
    obtain ⟨m, hm⟩ : ∃ m, ps.length = m := ⟨_, rfl⟩
    obtain ⟨hh0, hh1⟩ := hh
    rw [hm] at hh1 k4
    have hmm : m ≤ 9223372036854775807 := by
      obtain ⟨_, _, _, _, e2, _, _, e3⟩ := HD.out.form
      omega
    have hn1 : ad.add (j * 2) ≠ ⟨(ad.add (j * 2)).block, (ad.add (j * 2)).off + 1, none⟩ := fun e => by have := congrArg Addr.off e; simp at this
    have hn2 := hn1.symm
    clear hp hm hB hI hoa hax hal hk
    go_enter Try.func24, Try.ntmps24
    go_wp2_with fail
    refine (has_calls xb base ok z zb b r ps _ (j : Int) ⟨by omega, by omega⟩ _ HD.out).mono ?_
    rintro e w2 ⟨rfl, rfl⟩
    rw [HH.out]
    go_wp2
    go_ret
    have hab : (ad.add (j * 2)).block = ad.block := add_block _ _
    refine ⟨ps.set j ([], 0), .inr ⟨HH.out, rfl, by rw [Int.toNat_natCast]⟩, ⟨blk_far (blk_far HD.out.blk (by rw [hab]; exact HX.out.symm) _) (by show xb ≠ (ad.add (j * 2)).block; rw [hab]; exact HX.out.symm) _, HS.out⟩, ((Chg.refl _ _).set (.inl (by rw [hab]; exact HO.out)) _).set (.inl (by show ok (ad.add (j * 2)).block; rw [hab]; exact HO.out)) _⟩
  · have HH := Aside0.mk (hasB_false hh)
    clear hh
    go_enter Try.func24, Try.ntmps24
    go_wp2_with fail
    refine (has_calls xb base ok z zb b r ps v i ⟨hi1, hi2⟩ _ HD.out).mono ?_
    rintro e w2 ⟨rfl, rfl⟩
    rw [HH.out]
    go_wp2
    go_ret
    exact ⟨ps, .inl ⟨HH.out, rfl, rfl⟩, HD.out, Chg.refl _ _⟩

def AtR (b : Int) (ps : List Prt) (i : Int) (e : Ending) : Prop := (hasB ps.length i = false ∧ e = .returned (.tuple #[.int .i64 0, .int .i64 0])) ∨ (hasB ps.length i = true ∧ e = .returned (.tuple #[.int .i64 (((ps.getD i.toNat ([], 0)).1.length : Int) / b), .int .i64 (ps.getD i.toNat ([], 0)).2]))
theorem at_calls (xb base : Nat) (ok : Nat → Prop) (z zb b r : Int) (hb1 : 0 < b) (hb2 : b ≤ 9223372036854775807) (ps : List Prt) (v : Value) (i : Int) (hi : IsI i) (w : World) (h : Dev w xb base ok z zb b r ps v) :
    Calls Try.prog 75 #[.pointer (some ⟨xb, 0, none⟩), .int .i64 i] w fun e w' => AtR b ps i e ∧ Below w.heap.size w w' := by
  have HD := Aside0.mk h
  obtain ⟨hi1, hi2⟩ := hi
  obtain ⟨-, -, -, -, k4⟩ := h.cells
  clear h
  by_cases hh : 0 ≤ i ∧ i < (ps.length : Int)
  · have HH := Aside0.mk (hasB_true hh.1 hh.2)
    obtain ⟨j, rfl⟩ : ∃ j : Nat, i = (j : Int) := ⟨i.toNat, by omega⟩
    obtain ⟨p, hp⟩ : ∃ p, ps.getD j ([], 0) = p := ⟨_, rfl⟩
    obtain ⟨ad, cp, B, k, oki, rfl, c0, c1, hk, hI, hB, -, -, -, -, -, -, -, -, -⟩ := HD.out.part (by omega) hp
    have HP := Aside0.mk hp
    have hpm := (C_len hB).2
    obtain ⟨m, hm⟩ : ∃ m, ps.length = m := ⟨_, rfl⟩
    obtain ⟨hh0, hh1⟩ := hh
    rw [hm] at hh1 k4
    have hmm : m ≤ 9223372036854775807 := by
      obtain ⟨_, _, _, _, e2, _, _, e3⟩ := HD.out.form
      omega
    clear hp hm hB hI
    go_enter Try.func75, Try.ntmps75
    go_wp2_with fail
    refine (has_calls xb base ok z zb b r ps _ (j : Int) ⟨by omega, by omega⟩ _ HD.out).mono ?_
    rintro e w2 ⟨rfl, rfl⟩
    rw [HH.out]
    go_wp2
    go_region_held3 (fun w' => w'.cell? ⟨xb, 4, none⟩ = some (.slice (some ad) m cp) ∧ w'.cell? (ad.add (j * 2)) = some (.slice B p.1.length k) ∧ w'.cell? ⟨(ad.add (j * 2)).block, (ad.add (j * 2)).off + 1, none⟩ = some (.int .i64 p.2))
      (first | exact ⟨k4, c0, c1⟩ | exact ⟨pw_cell_below hw8 k4, pw_cell_below hw8 c0, pw_cell_below hw8 c1⟩)
      (first | (go_at_call 53; (with_reducible refine (count_calls xb base ok z zb b r hb1 hb2 ps _ B p.1.length k hpm p.2 _ (HD.out.below (below_drew (Below.refl _ _)))).mono ?_); rintro e w8 ⟨rfl, hw8⟩))
    have HB8 := Aside0.mk (below_go (below_drew (Below.refl _ _)) hw8)
    go_wp2
    go_ret2
    exact ⟨.inr ⟨HH.out, by rw [Int.toNat_natCast, HP.out]; rfl⟩, HB8.out⟩
  · have HH := Aside0.mk (hasB_false hh)
    clear hh
    go_enter Try.func75, Try.ntmps75
    go_wp2_with fail
    refine (has_calls xb base ok z zb b r ps v i ⟨hi1, hi2⟩ _ HD.out).mono ?_
    rintro e w2 ⟨rfl, rfl⟩
    rw [HH.out]
    go_wp2
    go_ret2
    exact ⟨.inl ⟨HH.out, rfl⟩, Below.refl _ _⟩
end Go.Proofs.Ytkmeipblgdahoaa.Dv

/- SameBytes; Block: so many bytes, with a front. -/
namespace Go.Proofs.Ytkmeipblgdahoaa.Dv
open Go.RowKit Go.Proofs.YtkmeipblgdahoaaW.PrintWords Go.Proofs.YtkmeipblgdahoaaW.PrintMore Go.Proofs.Ytkmeipblgdahoaa.Base Go.Proofs.Ytkmeipblgdahoaa.Shp
set_option maxRecDepth 100000
set_option linter.unusedVariables false
set_option linter.unusedSimpArgs false
theorem conv_bytes (w : World) (A : Option Addr) (n c : Nat) (xs : List UInt8) (h : byte.C w A n xs) : (convert 39 9 (.slice A n c)).run Try.prog w = .ok (.string ⟨xs.toArray⟩) w := by
  obtain ⟨hl, hm⟩ := C_len h
  cases A with
  | none =>
    have hx : xs = [] := by
      rcases Nat.eq_zero_or_pos n with h0 | h0
      · exact List.eq_nil_of_length_eq_zero (by omega)
      · obtain ⟨ad, he, _⟩ := h.2.2 h0
        cases he
    subst hx
    exact run_convert_bytes_nil w _ _ Try.underlying39 Try.underlying5 n c _ Try.underlying9
  | some ad =>
    have hld : (loadCells ad n).run Try.prog w = .ok ((xs.map fun b => (b.toNat : Int)).map (Value.int .u8)).toArray w := by
      have := run_loadCells_list (P := Try.prog) w ad ((xs.map fun b => (b.toNat : Int)).map (Value.int .u8)) (fun j v hj => by
        have hjl : j < xs.length := by have := (List.getElem?_eq_some_iff.1 hj).1; simpa using this
        obtain ⟨ad', e, hc⟩ := byte_at h j (by omega)
        injection e with e
        subst e
        rw [hc]
        simp [List.getElem?_eq_getElem hjl] at hj
        subst hj
        simp [List.getD, List.getElem?_eq_getElem hjl])
      simpa [hl] using this
    rw [run_convert_bytes_string w _ _ _ _ n c Try.underlying39 Try.underlying5 Try.underlying9, run_bytesToString w _ n c _ hld, foldl_push_bytes]
    simp [ByteArray.empty, ByteArray.emptyWithCapacity]
    have : ((fun n : Int => UInt8.ofNat n.toNat) ∘ fun b : UInt8 => (b.toNat : Int)) = id := by funext b; simp
    rw [this]
    simp
    rfl
end Go.Proofs.Ytkmeipblgdahoaa.Dv

/- Block: so many bytes, with a front. -/
namespace Go.Proofs.Ytkmeipblgdahoaa.Dv
open Go.RowKit Go.Proofs.YtkmeipblgdahoaaW.PrintWords Go.Proofs.YtkmeipblgdahoaaW.PrintMore Go.Proofs.Ytkmeipblgdahoaa.Base Go.Proofs.Ytkmeipblgdahoaa.Shp
set_option maxRecDepth 100000
set_option linter.unusedVariables false
set_option linter.unusedSimpArgs false
/-- The front of f, then noughts: i bytes of f so far. -/
def front (n i : Nat) (f : List UInt8) : List UInt8 := f.take i ++ List.replicate (n - i) 0
theorem front_len {n i : Nat} {f : List UInt8} (h1 : i ≤ n) (h2 : i ≤ f.length) : (front n i f).length = n := by unfold front; rw [List.length_append, List.length_take, List.length_replicate]; omega
theorem front_set {n i : Nat} {f : List UInt8} (h1 : i < n) (h2 : i < f.length) : (front n i f).set i (f.getD i 0) = front n (i + 1) f := by
  unfold front
  have hl : (f.take i).length = i := by rw [List.length_take]; omega
  rw [List.set_append_right _ _ (by omega), hl, Nat.sub_self, List.take_succ_eq_append_getElem h2, List.append_assoc]
  congr 1
  obtain ⟨k, hk⟩ : ∃ k, n - i = k + 1 := ⟨n - i - 1, by omega⟩
  rw [hk, show n - (i + 1) = k by omega, List.replicate_succ, List.set_cons_zero, List.getD_eq_getElem?_getD, List.getElem?_eq_getElem h2]
  rfl
end Go.Proofs.Ytkmeipblgdahoaa.Dv

/- Flush of a device. -/
namespace Go.Proofs.Ytkmeipblgdahoaa.Dv
open Go.RowKit Go.Proofs.YtkmeipblgdahoaaW.PrintWords Go.Proofs.YtkmeipblgdahoaaW.PrintMore Go.Proofs.Ytkmeipblgdahoaa.Base Go.Proofs.Ytkmeipblgdahoaa.Shp
set_option maxRecDepth 100000
set_option linter.unusedVariables false
set_option linter.unusedSimpArgs false
/-- The first i parts turned by F. -/
def upto (F : Nat → Prt → Prt) (i : Nat) (ps : List Prt) : List Prt := (ps.take i).mapIdx F ++ ps.drop i
theorem upto_len (F : Nat → Prt → Prt) (i : Nat) (ps : List Prt) : (upto F i ps).length = ps.length := by
  unfold upto; rw [List.length_append, List.length_mapIdx, List.length_take, List.length_drop]; omega
theorem upto_zero (F : Nat → Prt → Prt) (ps : List Prt) : upto F 0 ps = ps := rfl
theorem upto_all (F : Nat → Prt → Prt) (ps : List Prt) : upto F ps.length ps = ps.mapIdx F := by
  unfold upto; rw [List.take_length, List.drop_length, List.append_nil]
theorem upto_getD (F : Nat → Prt → Prt) {i : Nat} {ps : List Prt} (d : Prt) : (upto F i ps).getD i d = ps.getD i d := by
  unfold upto
  rcases Nat.lt_or_ge i ps.length with h | h
  · rw [List.getD_eq_getElem?_getD, List.getD_eq_getElem?_getD, List.getElem?_append_right (by rw [List.length_mapIdx, List.length_take]; omega), List.getElem?_drop]
    congr 2
    rw [List.length_mapIdx, List.length_take]; omega
  · rw [List.getD_eq_getElem?_getD, List.getD_eq_getElem?_getD, List.getElem?_eq_none (by have := upto_len F i ps; unfold upto at this; omega), List.getElem?_eq_none h]
theorem upto_set (F : Nat → Prt → Prt) {i : Nat} {ps : List Prt} (h : i < ps.length) (d : Prt) : (upto F i ps).set i (F i (ps.getD i d)) = upto F (i + 1) ps := by
  unfold upto
  have hl : ((ps.take i).mapIdx F).length = i := by rw [List.length_mapIdx, List.length_take]; omega
  rw [List.set_append_right _ _ (by omega), hl, Nat.sub_self, List.take_succ_eq_append_getElem h, List.mapIdx_append, List.append_assoc, List.drop_eq_getElem_cons h, List.set_cons_zero, List.length_take, show min i ps.length = i by omega, List.getD_eq_getElem?_getD, List.getElem?_eq_getElem h]
  simp
/-- All is there for good. -/
def fluF (b : Int) (_ : Nat) (p : Prt) : Prt := (p.1, (p.1.length : Int) / b)
theorem pw_frozen_below {w w' : World} (h : Below w.heap.size w w') {p : Addr} (hp : p.block < w.heap.size) {x : Bool} (hc : w.frozen? p = x) : w'.frozen? p = x := by rw [h.frozen hp]; exact hc
/-- How many are durable is written. -/
theorem Dev.lasts {w : World} {xb base : Nat} {ok : Nat → Prop} {z zb b r : Int} {ps : List Prt} {ad : Addr} {n cp : Nat} (h : Dev w xb base ok z zb b r ps (.slice (some ad) n cp)) {j : Nat} (hj : j < ps.length) {p : Prt} (hp : ps.getD j ([], 0) = p) {d : Int} (hd : IsI d) :
    Dev (w.setCell ⟨(ad.add (j * 2)).block, (ad.add (j * 2)).off + 1, none⟩ (.int .i64 d)) xb base ok z zb b r (ps.set j (p.1, d)) (.slice (some ad) n cp) := by
  obtain ⟨ad', cp', B, k, oki, hv, c0, c1, hk, hI, hB, f0, f1, hoa, hax, hal, hR, hoki, -, hdu⟩ := h.part (j := j) hj hp
  obtain ⟨rfl, rfl, rfl⟩ : ad = ad' ∧ n = ps.length ∧ cp = cp' := by simp only [Value.slice.injEq, Option.some.injEq] at hv; exact hv
  exact ⟨blk_far h.blk (by show xb ≠ (ad.add (j * 2)).block; rw [add_block]; exact hax.symm) _, (hdu d hd).1⟩
set_option maxHeartbeats 4000000 in
theorem flush_calls (xb base : Nat) (ok : Nat → Prop) (z zb b r : Int) (hb1 : 0 < b) (hb2 : b ≤ 9223372036854775807) (ps : List Prt) (v : Value) (w : World) (h : Dev w xb base ok z zb b r ps v) :
    Calls Try.prog 50 #[.pointer (some ⟨xb, 0, none⟩)] w fun e w' => e = .returned (.tuple #[]) ∧ Dev w' xb base ok z zb b r (ps.mapIdx (fluF b)) v ∧ Chg w w' ok := by
  have HD := Aside0.mk h
  obtain ⟨-, -, -, -, k4⟩ := h.cells
  obtain ⟨A, m, cp, rfl, hm, hmc, -, hmm⟩ := h.form
  have HM := Aside0.mk hm
  clear h hm
  go_enter Try.func50, Try.ntmps50
  go_wp2
  clear k4
  go_loopg [2, 8] m (fun g v2 v8 wr => ∃ i : Nat, v8 = .int .i64 (i : Int) ∧ i ≤ m ∧ Aside0 (g + i = m) ∧ Aside0 (Dev wr xb base ok z zb b r (upto (fluF b) i ps) (.slice A m cp) ∧ Chg w wr ok))
  case atStart => exact ⟨0, rfl, by omega, ⟨rfl⟩, ⟨by rw [upto_zero]; exact HD.out, Chg.refl _ _⟩⟩
  case round =>
    obtain ⟨i, rfl, hi, HK, HS⟩ := hrel
    by_cases hlt : i < m
    · obtain ⟨p, hp⟩ : ∃ p, ps.getD i ([], 0) = p := ⟨_, rfl⟩
      have HD1 := Aside0.mk HS.out.1
      obtain ⟨-, -, -, -, k4⟩ := HD1.out.cells
      obtain ⟨ad, cp', B, k, oki, hv, c0, c1, hk, hI, hB, f0, f1, hoa, hax, hal, hR, hoki, -, hdu⟩ := HD1.out.part (j := i) (by rw [upto_len, ← HM.out]; exact hlt) ((upto_getD _ _).trans hp)
      obtain ⟨rfl, rfl⟩ : A = some ad ∧ cp = cp' := by simp only [Value.slice.injEq] at hv; exact ⟨hv.1, hv.2.2⟩
      have hpm := (C_len hB).2
      have hab : (ad.add (i * 2)).block = ad.block := add_block _ _
      have hfl : (⟨(ad.add (i * 2)).block, (ad.add (i * 2)).off + 1, none⟩ : Addr).block < wr.heap.size := by show (ad.add (i * 2)).block < _; rw [hab]; exact hal
      have HFL := Aside0.mk hfl
      have HP := Aside0.mk hp
      have HAB := Aside0.mk hab
      have HO := Aside0.mk hoa
      have HX := Aside0.mk hax
      clear hp hv hB hI hR hoki hdu hab hoa hax hal hfl f0 hk
      go_wp2
      go_region_with (go_at_call 53; go_loud (refine (count_calls xb base ok z zb b r hb1 hb2 _ _ B p.1.length k hpm p.2 _ (HD1.out.below (below_drew (Below.refl _ _)))).mono ?_; rintro e w8 ⟨rfl, hw8⟩); go_loud (have k4' := pw_cell_below hw8 k4; have c1' := pw_cell_below hw8 c1; have f1' := pw_frozen_below (w := wr.drew) (p := ⟨(ad.add (i * 2)).block, (ad.add (i * 2)).off + 1, none⟩) hw8 HFL.out f1))
      all_goals
        have HD8 := Aside0.mk (HD1.out.below (Below.trans (below_drew (Below.refl _ _)) hw8))
        have HC8 := Aside0.mk (HS.out.2.below (Below.trans (below_drew (Below.refl _ _)) hw8))
        have HLE := Aside0.mk (show wr.heap.size ≤ w8.heap.size from hw8.size)
        clear k4 c0 c1 f1 k4' c1' f1' hw8
        go_wp2
        go_roundg (gk - 1)
        case measure => have := HK.out; omega
        case rel =>
          refine ⟨i + 1, by congr 1, by omega, ⟨by have := HK.out; omega⟩, ⟨?_, HC8.out.set (.inl (by show ok (ad.add (i * 2)).block; rw [HAB.out]; exact HO.out)) _⟩⟩
          have := HD8.out.lasts (j := i) (by rw [upto_len, ← HM.out]; exact hlt) ((upto_getD _ _).trans HP.out) (d := (p.1.length : Int) / b) ⟨by have := Int.ediv_nonneg (show 0 ≤ (p.1.length : Int) by omega) (show 0 ≤ b by omega); omega, by have := Int.ediv_le_self b (show 0 ≤ (p.1.length : Int) by omega); omega⟩
          rw [show ((p.1, (p.1.length : Int) / b) : Prt) = fluF b i (ps.getD i ([], 0)) by rw [HP.out]; rfl, upto_set _ (by rw [← HM.out]; exact hlt)] at this
          exact this
    · obtain rfl : i = m := by omega
      go_wp2
      go_returns
      exact ⟨rfl, by rw [← upto_all, ← HM.out]; exact HS.out.1, HS.out.2⟩
end Go.Proofs.Ytkmeipblgdahoaa.Dv

/- What a crash leaves of a part. -/
namespace Go.Proofs.Ytkmeipblgdahoaa.Dv
open Go.RowKit Go.Proofs.YtkmeipblgdahoaaW.PrintWords Go.Proofs.YtkmeipblgdahoaaW.PrintMore Go.Proofs.Ytkmeipblgdahoaa.Base Go.Proofs.Ytkmeipblgdahoaa.Shp
set_option maxRecDepth 100000
set_option linter.unusedVariables false
set_option linter.unusedSimpArgs false
attribute [local go_sem] max2_mx min2_mn max_two min_two
/-- How many blocks stay whole. -/
def stayF (q du keep : Int) : Int := du + mn (mx keep 0) (q - du)
theorem stay_rng {q du keep : Int} (h0 : 0 ≤ du) (h1 : du ≤ q) : du ≤ stayF q du keep ∧ stayF q du keep ≤ q := by
  unfold stayF mn mx; split <;> split <;> omega
/-- What is left. -/
def lostB (b : Nat) (bs : List UInt8) (du keep torn : Int) : List UInt8 :=
  bs.take ((stayF ((bs.length / b : Nat) : Int) du keep).toNat * b) ++
    if 0 < torn ∧ stayF ((bs.length / b : Nat) : Int) du keep < ((bs.length / b : Nat) : Int) then front b (mn torn b).toNat (bs.drop ((stayF ((bs.length / b : Nat) : Int) du keep).toNat * b)) else []
structure LCells (w : World) (xb g : Nat) (b : Int) (B : Option Addr) (n k : Nat) (du keep torn : Int) (bs : List UInt8) : Prop where
  c2 : w.cell? ⟨xb, 2, none⟩ = some (.int .i64 b)
  p0 : w.cell? ⟨g, 0, none⟩ = some (.slice B n k)
  p1 : w.cell? ⟨g, 1, none⟩ = some (.int .i64 du)
  x0 : w.cell? ⟨g + 1, 0, none⟩ = some (.int .i64 keep)
  x1 : w.cell? ⟨g + 1, 1, none⟩ = some (.int .i64 torn)
  r : w.heap[g + 2]? = some (.cells #[.slice none 0 0, .int .i64 0] 108 (0, 0))
  C : byte.C w B n bs
theorem LCells.below {w w1 : World} {xb g : Nat} {b : Int} {B : Option Addr} {n k : Nat} {du keep torn : Int} {bs : List UInt8} (h : LCells w xb g b B n k du keep torn bs) (hb : Below w.heap.size w w1) : LCells w1 xb g b B n k du keep torn bs :=
  ⟨pw_cell_below hb h.c2, pw_cell_below hb h.p0, pw_cell_below hb h.p1, pw_cell_below hb h.x0, pw_cell_below hb h.x1, by rw [hb.block _ (Array.getElem?_eq_some_iff.1 h.r).1]; exact h.r, Kd.C_below h.C hb⟩
/-- What lose answers: new bytes. -/
def LosP (w w' : World) (b : Nat) (bs : List UInt8) (du keep torn : Int) (e : Ending) : Prop := ∃ v, e = .returned (.agg #[v, .int .i64 (((lostB b bs du keep torn).length / b : Nat) : Int)]) ∧ Base.Own w' w.heap.size v (lostB b bs du keep torn)
theorem part_cells {w : World} {g : Nat} {x : Value} {y : Int} (hx : x.oneCell' = true) (h : w.heap[g]? = some (.cells #[x, .int .i64 y] 108 (0, 0))) :
    w.cell? ⟨g, 0, none⟩ = some x ∧ w.cell? ⟨g, 1, none⟩ = some (.int .i64 y) ∧ w.frozen? ⟨g, 0, none⟩ = false ∧ w.frozen? ⟨g, 1, none⟩ = false :=
  ⟨by simp [World.cell?, h], by simp [World.cell?, h], by simp [World.frozen?, h], by simp [World.frozen?, h]⟩
theorem own_set {w : World} {base : Nat} {v : Value} {xs : List UInt8} (h : Base.Own w base v xs) {g t : Nat} {cells : Array Value} (hb : w.heap[g]? = some (.cells cells t (0, 0))) (ht : 5 ≠ t) (j : Nat) (u : Value) : Base.Own (w.setCell ⟨g, j, none⟩ u) base v xs :=
  Kd.R_set h hb (fun q hq => by rcases List.mem_cons.1 hq with rfl | hq
                                · exact ht
                                · cases hq) j u
theorem los_end {w w9 : World} {g : Nat} (hg : w.heap.size = g) {v : Value} {xs bs : List UInt8} {b : Nat} {du keep torn : Int} {cs : Array Value} (hO : Base.Own w9 g v xs) (hr : w9.heap[g + 2]? = some (.cells cs 108 (0, 0))) (hB : Below w.heap.size w w9) (hx : xs = lostB b bs du keep torn)
    {i : Int} (hi : i = ((xs.length / b : Nat) : Int)) (u u' : Value) :
    LosP w ((w9.setCell ⟨g + 1 + 1, 0, none⟩ u).setCell ⟨g + 1 + 1, 1, none⟩ u') b bs du keep torn (.returned (.agg #[v, .int .i64 i])) ∧ Below w.heap.size w ((w9.setCell ⟨g + 1 + 1, 0, none⟩ u).setCell ⟨g + 1 + 1, 1, none⟩ u') := by
  subst hg hx
  exact ⟨⟨v, by rw [hi], own_set (own_set hO hr (by decide) 0 u) (blk_set hr 0 u) (by decide) 1 u'⟩, (hB.setCell (p := ⟨w.heap.size + 1 + 1, 0, none⟩) (by show w.heap.size ≤ w.heap.size + 1 + 1; omega) u).setCell (p := ⟨w.heap.size + 1 + 1, 1, none⟩) (by show w.heap.size ≤ w.heap.size + 1 + 1; omega) u'⟩
theorem own_not_part {w : World} {base g : Nat} {v : Value} {xs : List UInt8} {cs : Array Value} (h : Base.Own w base v xs) (hr : w.heap[g]? = some (.cells cs 108 (0, 0))) : some g ≠ v.ownBlock := by
  intro e
  obtain ⟨cells, hc⟩ := Kd.R_typed h g e.symm
  rw [hr] at hc
  simp at hc
theorem own_lt {w : World} {base : Nat} {v : Value} {xs : List UInt8} (h : Base.Own w base v xs) : ∀ k, v.ownBlock = some k → k < w.heap.size := Kd.R_lt h
theorem info_u8' : (Try.prog.info? 5).map (·.size) = some 1 := by kernel_rfl
theorem front_copy {b m : Nat} {ys : List UInt8} (hm : m ≤ b) (hl : m ≤ ys.length) : (ys.take m).take (min m (List.replicate b (0 : UInt8)).length) ++ (List.replicate b (0 : UInt8)).drop (min m (List.replicate b (0 : UInt8)).length) = front b m ys := by
  unfold front
  rw [List.length_replicate, show min m b = m by omega, List.take_take, Nat.min_self, List.drop_replicate]
theorem los_row {w10 w11 w12 : World} {g base : Nat} {v9 v1 : Value} {xs : List UInt8} {o : Obj} (hr : w11.heap[g]? = some o) (hO : Base.Own w11 base v9 xs) (h9 : Base.Own w10 base v9 xs) (hg : g < w10.heap.size) (hX : ∃ b, v1.ownBlock = some b ∧ w10.heap.size ≤ b) (hG : w11.grownBy w12 v1.ownBlock) :
    Base.Own w12 base v9 xs ∧ w12.heap[g]? = some o := by
  obtain ⟨b, hb, hle⟩ := hX
  refine ⟨Kd.R_grown1 hO rfl hG (fun e => ?_), ?_⟩
  · have := own_lt h9 b (by rw [← e, hb])
    omega
  · rw [hG.block g (Array.getElem?_eq_some_iff.1 hr).1 (by rw [hb]; intro e; injection e with e; omega)]
    exact hr
set_option maxRecDepth 100000 in
set_option maxHeartbeats 4000000 in
theorem lose_calls (xb base : Nat) (ok : Nat → Prop) (z zb r : Int) (bn : Nat) (hb1 : 0 < bn) (hb2 : bn ≤ 4096) (ps : List Prt) (v : Value) (B : Option Addr) (n k : Nat) (hnk : n ≤ k) (hnm : n ≤ 100000000) (du keep torn : Int) (hdu0 : 0 ≤ du) (hdu1 : du ≤ ((n / bn : Nat) : Int))
    (hkp : IsI keep) (htn : IsI torn) (bs : List UInt8) (w : World) (h : Dev w xb base ok z zb bn r ps v) (hC : byte.C w B n bs) :
    Calls Try.prog 54 #[.pointer (some ⟨xb, 0, none⟩), .agg #[.slice B n k, .int .i64 du], .agg #[.int .i64 keep, .int .i64 torn]] w
      fun e w' => LosP w w' bn bs du keep torn e ∧ Below w.heap.size w w' := by
  obtain ⟨hlen, -⟩ := C_len hC
  have hA : Below w.heap.size w (((w.alloc (.cells #[.slice B n k, .int .i64 du] 108)).alloc (.cells #[.int .i64 keep, .int .i64 torn] 112)).alloc (.cells #[.slice none 0 0, .int .i64 0] 108)) :=
    ((((Below.refl _ _).alloc (Nat.le_refl _) _).alloc (by simp) _).alloc (by simp; omega) _)
  have HL : Aside0 (LCells (((w.alloc (.cells #[.slice B n k, .int .i64 du] 108)).alloc (.cells #[.int .i64 keep, .int .i64 torn] 112)).alloc (.cells #[.slice none 0 0, .int .i64 0] 108)) xb w.heap.size bn B n k du keep torn bs) := by
    obtain ⟨-, -, c2, -, -⟩ := h.cells
    refine ⟨⟨pw_cell_below hA c2, by go_simp, by go_simp, by go_simp, by go_simp, ?_, Kd.C_below hC hA⟩⟩
    exact blk_here (by simp)
  have HD := Aside0.mk (h.below hA)
  have HA := Aside0.mk hA
  have HLN := Aside0.mk hlen
  obtain ⟨q, hq⟩ : ∃ q, n / bn = q := ⟨_, rfl⟩
  have HQ := Aside0.mk hq
  have HQI := Aside0.mk (show (n : Int) / (bn : Int) = (q : Int) by rw [← hq]; exact (Int.natCast_ediv n bn).symm)
  rw [hq] at hdu1
  have hqb : q * bn ≤ n := by rw [← hq]; exact Nat.div_mul_le_self n bn
  have hqn : q ≤ n := by rw [← hq]; exact Nat.div_le_self n bn
  obtain ⟨hs1, hs2⟩ := stay_rng (keep := keep) hdu0 hdu1
  obtain ⟨s, hs⟩ : ∃ s : Nat, stayF (q : Int) du keep = (s : Int) := ⟨(stayF (q : Int) du keep).toNat, by omega⟩
  have hsb : s * bn ≤ q * bn := Nat.mul_le_mul_right _ (by omega)
  have HS := Aside0.mk hs
  obtain ⟨hk1, hk2⟩ := hkp
  obtain ⟨ht1, ht2⟩ := htn
  obtain ⟨m0, m1⟩ := mx0 keep hk2
  have n0 : 0 ≤ mn (mx keep 0) ((q : Int) - du) := by unfold mn; split <;> omega
  have n1 : mn (mx keep 0) ((q : Int) - du) ≤ (q : Int) - du := by unfold mn; split <;> omega
  have c2 := HL.out.c2
  have HGE := Aside0.mk (show w.heap.size + 3 = (((w.alloc (.cells #[.slice B n k, .int .i64 du] 108)).alloc (.cells #[.int .i64 keep, .int .i64 torn] 112)).alloc (.cells #[.slice none 0 0, .int .i64 0] 108)).heap.size by simp)
  clear hq hlen hA h hC hs hs1 hs2
  go_enter Try.func54, Try.ntmps54
  go_wp2_with fail
  generalize (((w.alloc (.cells #[.slice B n k, .int .i64 du] 108)).alloc (.cells #[.int .i64 keep, .int .i64 torn] 112)).alloc (.cells #[.slice none 0 0, .int .i64 0] 108)) = W at *
  obtain ⟨g, hg⟩ : ∃ g, w.heap.size = g := ⟨_, rfl⟩
  rw [hg] at HL HGE ⊢
  have HG := Aside0.mk hg
  clear c2 hg
  obtain ⟨p0, p1⟩ := And.intro HL.out.p0 HL.out.p1
  go_region_held3 (fun w' => w'.cell? ⟨g, 0, none⟩ = some (.slice B n k) ∧ w'.cell? ⟨g, 1, none⟩ = some (.int .i64 du))
    (first | exact ⟨p0, p1⟩ | exact ⟨pw_cell_below hw8 p0, pw_cell_below hw8 p1⟩)
    (first | (go_at_call 53; (with_reducible refine (count_calls xb base ok z zb bn r (by omega) (by omega) ps _ B n k (by omega) du _ (HD.out.below (below_drew (Below.refl _ _)))).mono ?_); rw [HQI.out]; rintro e w8 ⟨rfl, hw8⟩))
  have HL8 := Aside0.mk (HL.out.below (Below.trans (below_drew (Below.refl _ _)) hw8))
  have HD8 := Aside0.mk (HD.out.below (Below.trans (below_drew (Below.refl _ _)) hw8))
  have HA8 := Aside0.mk (below_go HA.out (Below.trans (below_drew (Below.refl _ _)) hw8))
  clear p0 p1 hw8 HL HD HA
  obtain ⟨t, ht⟩ : ∃ t : Nat, s * bn = t := ⟨_, rfl⟩
  have htn : t ≤ n := by omega
  have ew : IntKind.i64.wrap ((du + mn (mx keep 0) ((q : Int) - du)) * (bn : Int)) = (t : Int) := by
    have h1 : du + mn (mx keep 0) ((q : Int) - du) = (s : Int) := HS.out
    have h2 : (s : Int) * (bn : Int) = (t : Int) := by rw [← ht]; exact (Int.natCast_mul s bn).symm
    rw [h1, h2]
    exact IntWalk.i64_in _ (by omega)
  have HT := Aside0.mk ht
  obtain ⟨i0, hi0, hzz⟩ := Option.map_eq_some_iff.1 info_u8
  simp only [Prod.mk.injEq] at hzz
  have hcut := cut_to (P := Try.prog) 39 5 .i64 Try.underlying39 hi0 B n k (t : Int) (by omega) (by omega) hnk
  rw [Int.toNat_natCast] at hcut
  have HCT := Aside0.mk (C_take HL8.out.C t htn)
  obtain ⟨p0, p1, x0⟩ := And.intro HL8.out.p0 (And.intro HL8.out.p1 HL8.out.x0)
  clear ht hzz hi0 hsb
  go_wp2_with fail
  refine (clone_calls B t k _ (by omega) _ HCT.out).mono ?_
  rintro e w9 ⟨v9, rfl, hO9, hw9⟩
  have HL9 := Aside0.mk (HL8.out.below hw9)
  have HD9 := Aside0.mk (HD8.out.below hw9)
  have HA9 := Aside0.mk (below_go HA8.out hw9)
  have HO9 := Aside0.mk (show Base.Own w9 g v9 (bs.take t) from Kd.R_lower hO9 (by rw [← HG.out]; exact HA8.out.size))
  obtain ⟨A9, n9, c9, rfl, hc9, hC9⟩ := HO9.out.reads
  rw [show du + mn (mx keep 0) ((q : Int) - du) = (s : Int) from HS.out]
  have hn9 : t = n9 := by rw [← (C_len hC9).1, List.length_take, HLN.out]; omega
  subst hn9
  have HGL := Aside0.mk (show g + 2 < w9.heap.size from (Array.getElem?_eq_some_iff.1 HL9.out.r).1)
  obtain ⟨q0, q1, q2, q3⟩ := part_cells rfl HL9.out.r
  have x1 := HL9.out.x1
  have HST := Aside0.mk (show t / bn = s by rw [← HT.out]; exact Nat.mul_div_cancel _ hb1)
  have hb0 : (bn : Int) ≠ 0 := by omega
  clear p0 p1 x0 hO9 hw9 hC9 hcut ew m0 m1 n0 n1 HL8 HD8 HA8
  by_cases htp : 0 < torn
  · have htd : decide (0 < torn) = true := decide_eq_true htp
    obtain ⟨p0, p1⟩ := And.intro HL9.out.p0 HL9.out.p1
    go_wp2_with fail
    refine (count_calls xb base ok z zb bn r (by omega) (by omega) ps _ B n k (by omega) du _ HD9.out).mono ?_
    rw [HQI.out]
    rintro e w10 ⟨rfl, hw10⟩
    have HL10 := Aside0.mk (HL9.out.below hw10)
    have HA10 := Aside0.mk (below_go HA9.out hw10)
    have HO10 := Aside0.mk (HO9.out.below hw10)
    have HGL10 := Aside0.mk (show g + 2 < w10.heap.size from (Array.getElem?_eq_some_iff.1 HL10.out.r).1)
    obtain ⟨q0, q1, q2, q3⟩ := part_cells rfl HL10.out.r
    have x1 := HL10.out.x1
    have p0 := HL10.out.p0
    clear hw10 HL9 HA9 HO9 HD9 p1
    by_cases hsq : s < q
    · have hsd : decide ((s : Int) < (q : Int)) = true := decide_eq_true (by omega)
      have HSQ := Aside0.mk hsq
      obtain ⟨m, hm⟩ : ∃ m : Nat, mn torn (bn : Int) = (m : Int) := ⟨(mn torn (bn : Int)).toNat, by unfold mn; split <;> omega⟩
      have hmb : m ≤ bn := by have : mn torn (bn : Int) ≤ (bn : Int) := by unfold mn; split <;> omega
                              omega
      have HM := Aside0.mk hm
      have htb : t + bn ≤ n := by
        have h1 : (s + 1) * bn ≤ q * bn := Nat.mul_le_mul_right _ hsq
        rw [Nat.succ_mul, HT.out] at h1
        omega
      have ew : IntKind.i64.wrap ((s : Int) * (bn : Int)) = (t : Int) := by
        have h2 : (s : Int) * (bn : Int) = (t : Int) := by rw [← HT.out]; exact (Int.natCast_mul s bn).symm
        rw [h2]
        exact IntWalk.i64_in _ (by omega)
      obtain ⟨i0, hi0, hzz⟩ := Option.map_eq_some_iff.1 info_u8
      simp only [Prod.mk.injEq] at hzz
      have hcut := cut_mid (P := Try.prog) 39 5 .i64 .i64 Try.underlying39 hi0 1 hzz.2.1 B n k (t : Int) ((t : Int) + (m : Int)) (by omega) (by omega) (by omega) hnk
      rw [Int.toNat_natCast, show ((t : Int) + (m : Int)).toNat - t = m by omega] at hcut
      obtain ⟨B1, hB1⟩ : ∃ B1, (if k = t then B else B.map (·.add (t * 1))) = B1 := ⟨_, rfl⟩
      rw [hB1] at hcut
      have HCC := Aside0.mk (show byte.C w10 B1 m ((bs.drop t).take m) from by
        have h1 := C_drop HL10.out.C hnk t (by omega)
        rw [← hB1]
        exact C_take h1 m (by omega))
      clear hzz hi0 hB1
      go_wp2_with (first | (at_builtin; go_loud (refine app_row (w0 := w) g (.tmp 66) (.tmp 67) rfl rfl _ (bs.take t) (front bn m (bs.drop t)) A1 bn c1 rfl rfl HX12.out.1 HC12.out (by rw [← HG.out]; exact HA12.out) (by have := HA12.out.size; have := HG.out; omega) (by rw [List.length_take]; omega) ?_); intro v13 w13 hO13 hB13 hG13; have HR13 := Aside0.mk (show w13.heap[g + 2]? = _ from (hG13.block _ (Array.getElem?_eq_some_iff.1 HX12.out.2).1 (own_not_part HX12.out.1 HX12.out.2)).trans HX12.out.2); rw [← HG.out] at hB13; have HA13 := Aside0.mk hB13; have HO13 := Aside0.mk hO13; obtain ⟨A13, n13, c13, rfl, hc13, hC13⟩ := Base.Own.reads hO13; have HN13 := Aside0.mk (show t + bn = n13 from (by rw [← (C_len hC13).1, List.length_append, List.length_take, front_len hmb (by rw [List.length_drop, HLN.out]; omega), HLN.out]; omega)); have hn13 : n13 ≤ 100000000 := (by have := HN13.out; omega); obtain ⟨q0, q1, q2, q3⟩ := part_cells rfl HR13.out; have hq1 : 0 ≤ (n13 : Int) / (bn : Int) := Int.ediv_nonneg (by omega) (by omega); have hq2 : (n13 : Int) / (bn : Int) ≤ (n13 : Int) := Int.ediv_le_self _ (by omega); have htd2 : (n13 : Int).tdiv (bn : Int) = (n13 : Int) / (bn : Int) := Int.tdiv_eq_ediv_of_nonneg (by omega); clear hB13 hG13 hO13 hC13) | (at_make; go_loud (refine Kd.R_make byte (w0 := w) g 5 rfl rfl 39 (.tmp 48) (.tmp 48) rfl (bn : Int) rfl rfl Try.underlying39 (.int .u8 0) 1 info_u8 rfl (by decide) (by decide) (0 : UInt8) (ok := anyB) (okp := fun _ => False) rfl (fun _ h => h.elim) trivial (by omega) (by simp; omega) (by rw [← HG.out]; exact HA10.out) (by have := HGL10.out; omega) ?_); intro v1 w11 hR hB hG hX; rw [Int.toNat_natCast] at hR; have HL11 := Aside0.mk (HL10.out.below (below_of_grown hG)); have HO11 := Aside0.mk (HO10.out.below (below_of_grown hG)); have HA11 := Aside0.mk (below_go HA10.out (below_of_grown hG)); have HC11 := Aside0.mk (Kd.C_below HCC.out (below_of_grown hG)); have HR := Aside0.mk hR; have p0 := HL11.out.p0; have x1 := HL11.out.x1; have HX := Aside0.mk hX; clear hR hB hG hX) | (refine Kd.R_copy (enc := fun b : UInt8 => .int .u8 (b.toNat : Int)) (h1 := fun _ => rfl) (0 : UInt8) (w0 := w) g rfl (.tmp 50) (.tmp 64) 39 39 5 rfl Try.underlying39 info_u8' v1 _ ((bs.drop t).take m) B1 m (k - t) anyB rfl rfl HR.out HC11.out (by rw [← HG.out]; exact HA11.out) (by have := HGL10.out; have := HA11.out.size; have := HG.out; omega) ?_; intro w12 hR12 hB12 hG12; rw [front_copy hmb (by rw [List.length_drop, HLN.out]; omega)] at hR12; have HX12 := Aside0.mk (los_row HL11.out.r HO11.out HO10.out HGL10.out HX.out hG12); rw [← HG.out] at hB12; have HA12 := Aside0.mk hB12; obtain ⟨A1, n1, c1, rfl, hc1, hC1⟩ := Base.Own.reads hR12; obtain rfl : bn = n1 := (by rw [← (C_len hC1).1, front_len hmb (by rw [List.length_drop, HLN.out]; omega)]); have HC12 := Aside0.mk hC1; clear hR12 hB12 hG12 hC1))
      refine bodyPost_ret (by simp [results, Try.results54, go_sem, *]; rfl) rfl ?_
      refine los_end HG.out HO13.out HR13.out HA13.out ?_ ?_ _ _
      · unfold lostB
        rw [HLN.out, HQ.out, HS.out, if_pos ⟨by omega, by have := HSQ.out; omega⟩, Int.toNat_natCast, HT.out, HM.out, Int.toNat_natCast]
      · rw [List.length_append, List.length_take, front_len hmb (by rw [List.length_drop, HLN.out]; omega), HLN.out, show min t n + bn = n13 by have := HN13.out; omega]
        exact (Int.natCast_ediv n13 bn).symm
    · have hsd : decide ((s : Int) < (q : Int)) = false := decide_eq_false (by omega)
      have HSQ := Aside0.mk hsq
      have hq1 : 0 ≤ (t : Int) / (bn : Int) := Int.ediv_nonneg (by omega) (by omega)
      have hq2 : (t : Int) / (bn : Int) ≤ (t : Int) := Int.ediv_le_self _ (by omega)
      have htd2 : (t : Int).tdiv (bn : Int) = (t : Int) / (bn : Int) := Int.tdiv_eq_ediv_of_nonneg (by omega)
      go_wp2
      refine bodyPost_ret (by simp [results, Try.results54, go_sem, *]; rfl) rfl ?_
      refine los_end HG.out HO10.out HL10.out.r HA10.out ?_ ?_ _ _
      · unfold lostB
        rw [HLN.out, HQ.out, HS.out, if_neg (by have := HSQ.out; omega), Int.toNat_natCast, HT.out, List.append_nil]
      · rw [List.length_take, HLN.out, show min t n = t by omega]; exact (Int.natCast_ediv t bn).symm
  · have htd : decide (0 < torn) = false := decide_eq_false htp
    have HTP := Aside0.mk htp
    clear htp
    have hq1 : 0 ≤ (t : Int) / (bn : Int) := Int.ediv_nonneg (by omega) (by omega)
    have hq2 : (t : Int) / (bn : Int) ≤ (t : Int) := Int.ediv_le_self _ (by omega)
    have htd2 : (t : Int).tdiv (bn : Int) = (t : Int) / (bn : Int) := Int.tdiv_eq_ediv_of_nonneg (by omega)
    go_wp2
    refine bodyPost_ret (by simp [results, Try.results54, go_sem, *]; rfl) rfl ?_
    refine los_end HG.out HO9.out HL9.out.r HA9.out ?_ ?_ _ _
    · unfold lostB
      rw [HLN.out, HQ.out, HS.out, if_neg (by have := HTP.out; omega), Int.toNat_natCast, HT.out, List.append_nil]
    · rw [List.length_take, HLN.out, show min t n = t by omega]; exact (Int.natCast_ediv t bn).symm
end Go.Proofs.Ytkmeipblgdahoaa.Dv

/- Crash of a device. -/
namespace Go.Proofs.Ytkmeipblgdahoaa.Dv
open Go.RowKit Go.Proofs.YtkmeipblgdahoaaW.PrintWords Go.Proofs.YtkmeipblgdahoaaW.PrintMore Go.Proofs.Ytkmeipblgdahoaa.Base Go.Proofs.Ytkmeipblgdahoaa.Shp
set_option maxRecDepth 100000
set_option linter.unusedVariables false
set_option linter.unusedSimpArgs false
/-- A part is written anew, with bytes of the call's own. -/
theorem Dev.put {W w1 : World} {xb base : Nat} {ok : Nat → Prop} {z zb b r : Int} {ps : List Prt} {ad : Addr} {n cp : Nat} (h : Dev W xb base ok z zb b r ps (.slice (some ad) n cp)) {j : Nat} (hj : j < ps.length) (hb : Below W.heap.size W w1) {v1 : Value} {bs : List UInt8} (hR : Base.Own w1 W.heap.size v1 bs)
    (hok : ∀ k, W.heap.size ≤ k → ok k) {d : Int} (hd : IsI d) :
    Dev ((w1.setCell (ad.add (j * 2)) v1).setCell ⟨(ad.add (j * 2)).block, (ad.add (j * 2)).off + 1, none⟩ (.int .i64 d)) xb base ok z zb b r (ps.set j (bs, d)) (.slice (some ad) n cp) := by
  obtain ⟨ad', cp', B, k, oki, hv, c0, c1, hk, hI, hB, f0, f1, hoa, hax, hal, -, -, -, -⟩ := h.part (j := j) hj rfl
  obtain ⟨rfl, rfl, rfl⟩ : ad = ad' ∧ n = ps.length ∧ cp = cp' := by simp only [Value.slice.injEq, Option.some.injEq] at hv; exact hv
  have hab : (ad.add (j * 2)).block = ad.block := add_block _ _
  refine ⟨blk_far (blk_far (h.below hb).blk (by rw [hab]; exact hax.symm) _) (by show xb ≠ (ad.add (j * 2)).block; rw [hab]; exact hax.symm) _, ?_⟩
  obtain ⟨g, rfl⟩ := Kd.R_head (Kd.S_R h.row)
  obtain ⟨oki, c, hcl, hM, hcc, hfr, hoki, hH⟩ := Kd.S_elem h.row ([], 0) (j : Int) (by omega) (by omega)
  have hs : partK.sz = 2 := rfl
  have ea : (⟨g, 0, none⟩ : Addr).add (j * 2) = ⟨g, j * 2, none⟩ := by rw [add_plain]
  have hbase : base ≤ W.heap.size := Nat.le_trans (Kd.S_base h.row g rfl) (Nat.le_of_lt hal)
  obtain ⟨H2, hg2⟩ := Kd.H_seg (Kd.H_below (Kd.H_widen hH) hb) (by omega) (by omega) (seg := [v1, .int .i64 d]) (j := 0) (by rw [hs]; exact Nat.le_refl 2) (fun q hq => by simp at hq; rcases hq with rfl | rfl; exact (Kd.R_val hR).2; rfl)
  rw [Int.toNat_natCast, hs] at H2 hg2
  rw [ea]
  have es : w1.setCells g (j * 2 + 0) [v1, .int .i64 d] = (w1.setCell ⟨g, j * 2, none⟩ v1).setCell ⟨g, j * 2 + 1, none⟩ (.int .i64 d) := rfl
  rw [es] at H2
  have hdr : c.drop (0 + [v1, Value.int .i64 d].length) = [] := List.drop_eq_nil_of_le (by rw [hcl, hs]; exact Nat.le_refl 2)
  rw [hdr] at H2
  have e1 : (Lit.int .i64 d).wf = true := by
    obtain ⟨d1, d2⟩ := hd
    simp [Lit.wf, IntKind.min, IntKind.max, IntKind.bits, IntKind.signed]
    omega
  have hgk : ∀ k, v1.ownBlock = some k → W.heap.size ≤ k := Kd.R_base hR
  have hne : ∀ k, some k = v1.ownBlock → k ≠ g := fun k hk e => by have := hgk k hk.symm; have : g < W.heap.size := hal; omega
  have := Kd.H_back H2 (x' := (bs, d)) (okp := fun k => some k = v1.ownBlock) ⟨[v1], [.int .i64 d], rfl, ⟨v1, rfl, Kd.R_far (Kd.R_far (Kd.R_lower (Kd.R_tight rfl hR) hbase) hne _) hne _⟩, ⟨rfl, e1⟩⟩ (fun k hk => .inr ⟨hok k (hgk k hk.symm), hgk k hk.symm⟩)
  rwa [Int.toNat_natCast] at this
def lossK : Kd (Int × Int) := Kd.pair (num .i64) (num .i64)
theorem loss_at {w : World} {A : Option Addr} {n : Nat} {xs : List (Int × Int)} (h : lossK.C w A n xs) (i : Nat) (hi : i < n) :
    ∃ ad, A = some ad ∧ w.cell? (ad.add (i * 2)) = some (.int .i64 (xs.getD i (0, 0)).1) ∧ w.cell? ⟨(ad.add (i * 2)).block, (ad.add (i * 2)).off + 1, none⟩ = some (.int .i64 (xs.getD i (0, 0)).2) ∧ IsI (xs.getD i (0, 0)).1 ∧ IsI (xs.getD i (0, 0)).2 := by
  obtain ⟨ad, c, e, _, hK, hc⟩ := ReadsRow.get_ h (0, 0) (i : Int) (by omega) (by omega)
  obtain ⟨c0, c1, rfl, ⟨rfl, h0⟩, ⟨rfl, h1⟩⟩ := hK
  rw [Int.toNat_natCast] at hc h0 h1
  refine ⟨ad, e, ?_, ?_, wf_i64 h0, wf_i64 h1⟩
  · exact hc 0 _ rfl
  · exact cell_fld (hc 1 _ rfl) (by omega)
/-- What a crash makes of part i. -/
def crashF (b : Nat) (ls : List (Int × Int)) (i : Nat) (p : Prt) : Prt :=
  (lostB b p.1 p.2 (ls.getD i (0, 0)).1 (ls.getD i (0, 0)).2, (((lostB b p.1 p.2 (ls.getD i (0, 0)).1 (ls.getD i (0, 0)).2).length / b : Nat) : Int))
/-- How parts are: durable blocks are there; no part is great. -/
def Fit (b : Nat) (ps : List Prt) : Prop := ∀ p ∈ ps, 0 ≤ p.2 ∧ p.2 ≤ ((p.1.length / b : Nat) : Int) ∧ p.1.length ≤ 100000000
theorem Fit.get {b : Nat} {ps : List Prt} (h : Fit b ps) {i : Nat} (hi : i < ps.length) {p : Prt} (hp : ps.getD i ([], 0) = p) : 0 ≤ p.2 ∧ p.2 ≤ ((p.1.length / b : Nat) : Int) ∧ p.1.length ≤ 100000000 :=
  h p (by rw [← hp, List.getD_eq_getElem?_getD, List.getElem?_eq_getElem hi]; exact List.getElem_mem _)
theorem lost_len {b : Nat} (bs : List UInt8) (du keep torn : Int) (hb : bs.length ≤ 100000000) (hb2 : b ≤ 4096) : (lostB b bs du keep torn).length ≤ 100004096 := by
  unfold lostB front
  rw [List.length_append, List.length_take]
  split
  · rw [List.length_append, List.length_take, List.length_replicate]
    have : (mn torn (b : Int)).toNat ≤ b := by unfold mn; split <;> omega
    omega
  · rw [List.length_nil]; omega
set_option maxHeartbeats 4000000 in
theorem crash_calls (xb base : Nat) (ok : Nat → Prop) (z zb r : Int) (bn : Nat) (hb1 : 0 < bn) (hb2 : bn ≤ 4096) (ps : List Prt) (hfit : Fit bn ps) (v : Value) (A : Option Addr) (nl kl : Nat) (ls : List (Int × Int)) (w : World) (h : Dev w xb base ok z zb bn r ps v) (hok : ∀ k, w.heap.size ≤ k → ok k) (hCk : ∀ w1, Chg w w1 ok → lossK.C w1 A nl ls) :
    Calls Try.prog 26 #[.pointer (some ⟨xb, 0, none⟩), .slice A nl kl] w fun e w' => e = .returned (.tuple #[]) ∧ Dev w' xb base ok z zb bn r (ps.mapIdx (crashF bn ls)) v ∧ Chg w w' ok := by
  have HD := Aside0.mk h
  obtain ⟨-, -, -, -, k4⟩ := h.cells
  obtain ⟨A0, m, cp, rfl, hm, hmc, -, hmm⟩ := h.form
  obtain ⟨hnl, hnm⟩ := C_len (hCk w (Chg.refl _ _))
  have HNL := Aside0.mk hnl
  have HM := Aside0.mk hm
  have HCK := Aside0.mk hCk
  have HOK := Aside0.mk hok
  have HFIT := Aside0.mk hfit
  clear h hm hok hCk hfit hnl
  go_enter Try.func26, Try.ntmps26
  go_wp2
  clear k4
  go_loopg [4, 5, 6, 12] m (fun g v4 v5 v6 v12 wr => ∃ i : Nat, v12 = .int .i64 (i : Int) ∧ i ≤ m ∧ Aside0 (g + i = m) ∧ Aside0 (Dev wr xb base ok z zb bn r (upto (crashF bn ls) i ps) (.slice A0 m cp) ∧ Chg w wr ok))
  case atStart => exact ⟨0, rfl, by omega, ⟨rfl⟩, ⟨by rw [upto_zero]; exact HD.out, Chg.refl _ _⟩⟩
  case round =>
    obtain ⟨i, rfl, hi, HK, HS⟩ := hrel
    by_cases hlt : i < m
    · obtain ⟨p, hp⟩ : ∃ p, ps.getD i ([], 0) = p := ⟨_, rfl⟩
      have HD1 := Aside0.mk HS.out.1
      obtain ⟨-, -, -, -, k4⟩ := HD1.out.cells
      obtain ⟨ad, cp', B, k, oki, hv, c0, c1, hk, hI, hB, f0, f1, hoa, hax, hal, hR, hoki, -, -⟩ := HD1.out.part (j := i) (by rw [upto_len, ← HM.out]; exact hlt) ((upto_getD _ _).trans hp)
      obtain ⟨rfl, rfl⟩ : A0 = some ad ∧ cp = cp' := by simp only [Value.slice.injEq] at hv; exact ⟨hv.1, hv.2.2⟩
      obtain ⟨hft1, hft2, hft3⟩ := HFIT.out.get (by rw [← HM.out]; exact hlt) hp
      have hab : (ad.add (i * 2)).block = ad.block := add_block _ _
      have HP := Aside0.mk hp
      have HAB := Aside0.mk hab
      have HO := Aside0.mk hoa
      have HX := Aside0.mk hax
      have HAL := Aside0.mk hal
      have HBY0 := Aside0.mk hB
      have HLC := Aside0.mk (HCK.out wr HS.out.2)
      clear hp hv hB hI hR hoki hab hoa hax hal
      obtain ⟨keep, hkeep⟩ : ∃ keep, (ls.getD i (0, 0)).1 = keep := ⟨_, rfl⟩
      obtain ⟨torn, htorn⟩ : ∃ torn, (ls.getD i (0, 0)).2 = torn := ⟨_, rfl⟩
      have HBW : Aside0 (Below wr.heap.size wr ((wr.alloc (.cells #[.slice B p.1.length k, .int .i64 p.2] 108)).alloc (.cells #[.int .i64 keep, .int .i64 torn] 112))) := ⟨((Below.refl _ _).alloc (Nat.le_refl _) _).alloc (by simp) _⟩
      have HCELL : Aside0 (((wr.alloc (.cells #[.slice B p.1.length k, .int .i64 p.2] 108)).alloc (.cells #[.int .i64 keep, .int .i64 torn] 112)).cell? ⟨wr.heap.size, 0, none⟩ = some (.slice B p.1.length k) ∧ ((wr.alloc (.cells #[.slice B p.1.length k, .int .i64 p.2] 108)).alloc (.cells #[.int .i64 keep, .int .i64 torn] 112)).cell? ⟨wr.heap.size, 1, none⟩ = some (.int .i64 p.2) ∧ ((wr.alloc (.cells #[.slice B p.1.length k, .int .i64 p.2] 108)).alloc (.cells #[.int .i64 keep, .int .i64 torn] 112)).cell? ⟨wr.heap.size + 1, 0, none⟩ = some (.int .i64 keep) ∧ ((wr.alloc (.cells #[.slice B p.1.length k, .int .i64 p.2] 108)).alloc (.cells #[.int .i64 keep, .int .i64 torn] 112)).cell? ⟨wr.heap.size + 1, 1, none⟩ = some (.int .i64 torn)) := ⟨by go_simp, by go_simp, by go_simp, by go_simp⟩
      by_cases hil : i < nl
      · obtain ⟨la, rfl, l0, l1, hkp, htn⟩ := loss_at HLC.out i hil
        rw [hkeep] at l0 hkp
        rw [htorn] at l1 htn
        have hA0 : Below wr.heap.size wr ((wr.alloc (.cells #[.slice B p.1.length k, .int .i64 p.2] 108)).alloc (.cells #[.int .i64 0, .int .i64 0] 112)) := ((Below.refl _ _).alloc (Nat.le_refl _) _).alloc (by simp) _
        have l0 := pw_cell_below hA0 l0
        have l1 := pw_cell_below hA0 l1
        have HKP := Aside0.mk hkp
        have HTN := Aside0.mk htn
        have HKE := Aside0.mk hkeep
        have HTO := Aside0.mk htorn
        clear hkeep htorn hkp htn hA0
        go_wp2
        obtain ⟨W, hW⟩ : ∃ W, ((wr.alloc (.cells #[.slice B p.1.length k, .int .i64 p.2] 108)).alloc (.cells #[.int .i64 keep, .int .i64 torn] 112)) = W := ⟨_, rfl⟩
        obtain ⟨p0, p1, x0, x1⟩ := HCELL.out
        have hBW := HBW.out
        rw [hW] at p0 p1 x0 x1 hBW ⊢
        have HBW := Aside0.mk hBW
        clear HCELL hW
        obtain ⟨gw, hgw⟩ : ∃ gw, wr.heap.size = gw := ⟨_, rfl⟩
        rw [hgw] at p0 p1 x0 x1 ⊢
        have HDW := Aside0.mk (HD1.out.below hBW)
        have HBYW := Aside0.mk (Kd.C_below HBY0.out hBW)
        have f0 := pw_frozen_below (p := ad.add (i * 2)) hBW (by show (ad.add (i * 2)).block < _; rw [HAB.out]; exact HAL.out) f0
        have f1 := pw_frozen_below (p := ⟨(ad.add (i * 2)).block, (ad.add (i * 2)).off + 1, none⟩) hBW (by show (ad.add (i * 2)).block < _; rw [HAB.out]; exact HAL.out) f1
        have c0 := pw_cell_below hBW c0
        have c1 := pw_cell_below hBW c1
        have k4 := pw_cell_below hBW k4
        have HALW := Aside0.mk (Nat.lt_of_lt_of_le HAL.out hBW.size)
        have hn1 : ad.add (i * 2) ≠ ⟨(ad.add (i * 2)).block, (ad.add (i * 2)).off + 1, none⟩ := fun e => by have := congrArg Addr.off e; simp at this
        have hn2 := hn1.symm
        clear hgw hBW
        go_region_with (go_at_call 54; go_loud (refine (lose_calls xb base ok z zb r bn hb1 hb2 _ _ B p.1.length k hk hft3 p.2 keep torn hft1 hft2 HKP.out HTN.out p.1 _ (HDW.out.below (below_drew (Below.refl _ _))) (Kd.C_below HBYW.out (below_drew (Below.refl _ _)))).mono ?_; rintro e w8 ⟨⟨v8, rfl, hO8⟩, hw8⟩; obtain ⟨A8, n8, c8, rfl, -, -⟩ := Base.Own.reads hO8; obtain ⟨q8, hq8⟩ : ∃ q8, (lostB bn p.1 p.2 keep torn).length / bn = q8 := ⟨_, rfl⟩; rw [hq8]; have HQ8 := Aside0.mk hq8; clear hq8); go_loud (have k4 := pw_cell_below (w := W.drew) hw8 k4; have c0 := pw_cell_below (w := W.drew) hw8 c0; have c1 := pw_cell_below (w := W.drew) hw8 c1; have f0 := pw_frozen_below (w := W.drew) (p := ad.add (i * 2)) hw8 (by show (ad.add (i * 2)).block < _; rw [HAB.out]; exact HALW.out) f0; have f1 := pw_frozen_below (w := W.drew) (p := ⟨(ad.add (i * 2)).block, (ad.add (i * 2)).off + 1, none⟩) hw8 (by show (ad.add (i * 2)).block < _; rw [HAB.out]; exact HALW.out) f1))
        all_goals
          have HO8 := Aside0.mk hO8
          have HW8 := Aside0.mk hw8
          clear p0 p1 x0 x1 k4 c0 c1 f0 f1 hO8 hw8 hn1 hn2
          go_wp2
          go_roundg (gk - 1)
          case measure => have := HK.out; omega
          case rel =>
            have hll := lost_len (b := bn) p.1 p.2 keep torn hft3 hb2
            have hdl : q8 ≤ (lostB bn p.1 p.2 keep torn).length := by rw [← HQ8.out]; exact Nat.div_le_self _ _
            have hsz := HBW.out.size
            refine ⟨i + 1, by congr 1, by omega, ⟨by have := HK.out; omega⟩, ⟨?_, (((HS.out.2.below HBW.out).below (Below.trans (below_drew (Below.refl _ _)) HW8.out)).set (.inl (by rw [HAB.out]; exact HO.out)) _).set (.inl (by show ok (ad.add (i * 2)).block; rw [HAB.out]; exact HO.out)) _⟩⟩
            have := (HDW.out.below (below_drew (Below.refl _ _))).put (j := i) (by rw [upto_len, ← HM.out]; exact hlt) HW8.out HO8.out (fun k hk => HOK.out k (Nat.le_trans (Nat.le_trans HS.out.2.kept.1 hsz) hk)) (d := (q8 : Int)) ⟨by omega, by omega⟩
            rw [show ((lostB bn p.1 p.2 keep torn, (q8 : Int)) : Prt) = crashF bn ls i (ps.getD i ([], 0)) by rw [HP.out]; unfold crashF; rw [HKE.out, HTO.out, HQ8.out], upto_set _ (by rw [← HM.out]; exact hlt)] at this
            exact this
      · obtain rfl : keep = 0 := by rw [← hkeep, List.getD_eq_getElem?_getD, List.getElem?_eq_none (by rw [HNL.out]; omega)]; rfl
        obtain rfl : torn = 0 := by rw [← htorn, List.getD_eq_getElem?_getD, List.getElem?_eq_none (by rw [HNL.out]; omega)]; rfl
        have HKE := Aside0.mk hkeep
        have HTO := Aside0.mk htorn
        clear hkeep htorn
        go_wp2
        have HKP := Aside0.mk (show IsI 0 from ⟨by omega, by omega⟩)
        have HTN := HKP
        obtain ⟨W, hW⟩ : ∃ W, ((wr.alloc (.cells #[.slice B p.1.length k, .int .i64 p.2] 108)).alloc (.cells #[.int .i64 0, .int .i64 0] 112)) = W := ⟨_, rfl⟩
        obtain ⟨p0, p1, x0, x1⟩ := HCELL.out
        have hBW := HBW.out
        rw [hW] at p0 p1 x0 x1 hBW ⊢
        have HBW := Aside0.mk hBW
        clear HCELL hW
        obtain ⟨gw, hgw⟩ : ∃ gw, wr.heap.size = gw := ⟨_, rfl⟩
        rw [hgw] at p0 p1 x0 x1 ⊢
        have HDW := Aside0.mk (HD1.out.below hBW)
        have HBYW := Aside0.mk (Kd.C_below HBY0.out hBW)
        have f0 := pw_frozen_below (p := ad.add (i * 2)) hBW (by show (ad.add (i * 2)).block < _; rw [HAB.out]; exact HAL.out) f0
        have f1 := pw_frozen_below (p := ⟨(ad.add (i * 2)).block, (ad.add (i * 2)).off + 1, none⟩) hBW (by show (ad.add (i * 2)).block < _; rw [HAB.out]; exact HAL.out) f1
        have c0 := pw_cell_below hBW c0
        have c1 := pw_cell_below hBW c1
        have k4 := pw_cell_below hBW k4
        have HALW := Aside0.mk (Nat.lt_of_lt_of_le HAL.out hBW.size)
        have hn1 : ad.add (i * 2) ≠ ⟨(ad.add (i * 2)).block, (ad.add (i * 2)).off + 1, none⟩ := fun e => by have := congrArg Addr.off e; simp at this
        have hn2 := hn1.symm
        clear hgw hBW
        go_region_with (go_at_call 54; go_loud (refine (lose_calls xb base ok z zb r bn hb1 hb2 _ _ B p.1.length k hk hft3 p.2 0 0 hft1 hft2 HKP.out HTN.out p.1 _ (HDW.out.below (below_drew (Below.refl _ _))) (Kd.C_below HBYW.out (below_drew (Below.refl _ _)))).mono ?_; rintro e w8 ⟨⟨v8, rfl, hO8⟩, hw8⟩; obtain ⟨A8, n8, c8, rfl, -, -⟩ := Base.Own.reads hO8; obtain ⟨q8, hq8⟩ : ∃ q8, (lostB bn p.1 p.2 0 0).length / bn = q8 := ⟨_, rfl⟩; rw [hq8]; have HQ8 := Aside0.mk hq8; clear hq8); go_loud (have k4 := pw_cell_below (w := W.drew) hw8 k4; have c0 := pw_cell_below (w := W.drew) hw8 c0; have c1 := pw_cell_below (w := W.drew) hw8 c1; have f0 := pw_frozen_below (w := W.drew) (p := ad.add (i * 2)) hw8 (by show (ad.add (i * 2)).block < _; rw [HAB.out]; exact HALW.out) f0; have f1 := pw_frozen_below (w := W.drew) (p := ⟨(ad.add (i * 2)).block, (ad.add (i * 2)).off + 1, none⟩) hw8 (by show (ad.add (i * 2)).block < _; rw [HAB.out]; exact HALW.out) f1))
        all_goals
          have HO8 := Aside0.mk hO8
          have HW8 := Aside0.mk hw8
          clear p0 p1 x0 x1 k4 c0 c1 f0 f1 hO8 hw8 hn1 hn2
          go_wp2
          go_roundg (gk - 1)
          case measure => have := HK.out; omega
          case rel =>
            have hll := lost_len (b := bn) p.1 p.2 0 0 hft3 hb2
            have hdl : q8 ≤ (lostB bn p.1 p.2 0 0).length := by rw [← HQ8.out]; exact Nat.div_le_self _ _
            have hsz := HBW.out.size
            refine ⟨i + 1, by congr 1, by omega, ⟨by have := HK.out; omega⟩, ⟨?_, (((HS.out.2.below HBW.out).below (Below.trans (below_drew (Below.refl _ _)) HW8.out)).set (.inl (by rw [HAB.out]; exact HO.out)) _).set (.inl (by show ok (ad.add (i * 2)).block; rw [HAB.out]; exact HO.out)) _⟩⟩
            have := (HDW.out.below (below_drew (Below.refl _ _))).put (j := i) (by rw [upto_len, ← HM.out]; exact hlt) HW8.out HO8.out (fun k hk => HOK.out k (Nat.le_trans (Nat.le_trans HS.out.2.kept.1 hsz) hk)) (d := (q8 : Int)) ⟨by omega, by omega⟩
            rw [show ((lostB bn p.1 p.2 0 0, (q8 : Int)) : Prt) = crashF bn ls i (ps.getD i ([], 0)) by rw [HP.out]; unfold crashF; rw [HKE.out, HTO.out, HQ8.out], upto_set _ (by rw [← HM.out]; exact hlt)] at this
            exact this
    · obtain rfl : i = m := by omega
      go_wp2
      go_returns
      exact ⟨rfl, by rw [← upto_all, ← HM.out]; exact HS.out.1, HS.out.2⟩
end Go.Proofs.Ytkmeipblgdahoaa.Dv

/- known: the chapter's example holds. -/
namespace Go.Proofs.Ytkmeipblgdahoaa.Dv
open Go.RowKit Go.Proofs.YtkmeipblgdahoaaW.PrintWords Go.Proofs.YtkmeipblgdahoaaW.PrintMore Go.Proofs.Ytkmeipblgdahoaa.Base Go.Proofs.Ytkmeipblgdahoaa.Shp
set_option maxRecDepth 100000
set_option linter.unusedVariables false
set_option linter.unusedSimpArgs false
/-- Block i of the example. -/
def kblk (i : Nat) : List UInt8 := front 64 4 (List.replicate 4 (UInt8.ofNat i))
def kapp (i : Nat) (ps : List Prt) : List Prt := ps.set 3 ((ps.getD 3 ([], 0)).1 ++ kblk i, (ps.getD 3 ([], 0)).2)
def kps : Nat → List Prt
  | 0 => List.replicate 6 ([], 0)
  | 1 => (kapp 1 (List.replicate 6 ([], 0))).mapIdx (fluF 64)
  | i + 2 => kapp (i + 2) (kps (i + 1))
theorem kps_facts (i : Nat) (h : i < 4) : (kps i).length = 6 ∧ ((kps i).getD 3 ([], 0)).1.length = 64 * i := by
  obtain rfl | rfl | rfl | rfl : i = 0 ∨ i = 1 ∨ i = 2 ∨ i = 3 := by omega
  all_goals decide +kernel
def kls : List (Int × Int) := [(0, 0), (0, 0), (0, 0), (0, 3)]
theorem kps_fit : Fit 64 (kps 3) := by
  have h : (kps 3).all (fun p => decide (0 ≤ p.2) && decide (p.2 ≤ ((p.1.length / 64 : Nat) : Int)) && decide (p.1.length ≤ 1000)) = true := by decide +kernel
  intro p hp
  have := List.all_eq_true.1 h p hp
  simp only [Bool.and_eq_true, decide_eq_true_eq] at this
  exact ⟨this.1.1, this.1.2, by omega⟩
theorem kps_end : ((kps 3).mapIdx (crashF 64 kls)).length = 6 ∧ ((((kps 3).mapIdx (crashF 64 kls)).getD 3 ([], 0)).1.length = 128) ∧ ((((kps 3).mapIdx (crashF 64 kls)).getD 3 ([], 0)).2 = 2) ∧
    (((((kps 3).mapIdx (crashF 64 kls)).getD 3 ([], 0)).1.drop 64).take 64).getD 2 0 = 2 ∧ (((((kps 3).mapIdx (crashF 64 kls)).getD 3 ([], 0)).1.drop 64).take 64).getD 3 0 = 0 ∧ (((((kps 3).mapIdx (crashF 64 kls)).getD 3 ([], 0)).1.drop 64).take 64).length = 64 := by decide +kernel
theorem kps_end_small : ∀ p ∈ (kps 3).mapIdx (crashF 64 kls), p.1.length ≤ 100000000 := by
  have h : ((kps 3).mapIdx (crashF 64 kls)).all (fun p => decide (p.1.length ≤ 1000)) = true := by decide +kernel
  intro p hp
  have := List.all_eq_true.1 h p hp
  simp only [decide_eq_true_eq] at this
  omega
theorem kps_small (i : Nat) (h : i < 4) : ∀ p ∈ kps i, p.1.length ≤ 100000000 := by
  have h : (kps i).all (fun p => decide (p.1.length ≤ 1000)) = true := by
    obtain rfl | rfl | rfl | rfl : i = 0 ∨ i = 1 ∨ i = 2 ∨ i = 3 := by omega
    all_goals decide +kernel
  intro p hp
  have := List.all_eq_true.1 h p hp
  simp only [decide_eq_true_eq] at this
  omega
theorem kblk_C (w : World) (i b : Nat) (hi : i < 256) (hb : b = w.heap.size) : byte.C (w.alloc (.cells #[.int .u8 (i : Int), .int .u8 (i : Int), .int .u8 (i : Int), .int .u8 (i : Int)] 5)) (some ⟨b, 0, none⟩) 4 (List.replicate 4 (UInt8.ofNat i)) := by
  have hk : byte.K w (UInt8.ofNat i) [.int .u8 (i : Int)] := by
    show [Value.int .u8 (i : Int)] = [.int .u8 ((UInt8.ofNat i).toNat : Int)]
    rw [UInt8.toNat_ofNat', show i % 2 ^ 8 = i by omega]
  have hE : Each byte w (List.replicate 4 (UInt8.ofNat i)) (#[.int .u8 (i : Int), .int .u8 (i : Int), .int .u8 (i : Int), .int .u8 (i : Int)] : Array Value).toList := ⟨hk, hk, hk, hk, trivial⟩
  exact C_lit (d := byte) rfl hE hb rfl (by simp)
theorem app_only {ps ps' : List Prt} {xs : List UInt8} {e : Ending} (hl : ps.length = 6) (hx : xs.length = 64) {c : Nat} (hc : c < 4) (hp : (ps.getD 3 ([], 0)).1.length = 64 * c) (h : AppR 8 64 ps 3 xs e ps') :
    e = addrV 3 (c : Int) 0 ∧ ps' = ps.set 3 ((ps.getD 3 ([], 0)).1 ++ xs, (ps.getD 3 ([], 0)).2) := by
  have hh : hasB ps.length 3 = true := by rw [hl]; decide
  have e3 : (3 : Int).toNat = 3 := rfl
  rcases h with ⟨h1, _⟩ | ⟨_, _, h1, _⟩ | ⟨_, _, _, he, hp'⟩
  · rcases h1 with h1 | h1
    · rw [hh] at h1; cases h1
    · rw [hx] at h1; exact absurd rfl h1
  · rw [e3, hp] at h1; omega
  · rw [e3, hp, show ((64 * c : Nat) : Int) / 64 = (c : Int) by omega] at he
    exact ⟨he, hp'⟩
theorem Dev.tight {w : World} {xb base : Nat} {ok ok' : Nat → Prop} {z zb b r : Int} {ps : List Prt} {v : Value} (h : Dev w xb base ok z zb b r ps v) (hk : ∀ k, ok k → base ≤ k → k < w.heap.size → ok' k) : Dev w xb base ok' z zb b r ps v :=
  ⟨h.blk, Kd.S_mono (Kd.S_bound h.row) (fun k hh => hk k hh.1 hh.2.1 hh.2.2.1)⟩
theorem kls_C {w : World} {b : Nat} (h : w.heap[b]? = some (.cells #[.int .i64 0, .int .i64 0, .int .i64 0, .int .i64 0, .int .i64 0, .int .i64 0, .int .i64 0, .int .i64 3] 112 (0, 0))) : lossK.C w (some ⟨b, 0, none⟩) 4 kls := by
  refine C_of_blockN (d := lossK) (xs := kls) h rfl ?_ (by decide)
  intro j x hj
  have k0 : lossK.K w (0, 0) [.int .i64 0, .int .i64 0] := ⟨[_], [_], rfl, ⟨rfl, by decide⟩, ⟨rfl, by decide⟩⟩
  have k3 : lossK.K w (0, 3) [.int .i64 0, .int .i64 3] := ⟨[_], [_], rfl, ⟨rfl, by decide⟩, ⟨rfl, by decide⟩⟩
  have hj4 : j < 4 := (List.getElem?_eq_some_iff.1 hj).1
  obtain rfl | rfl | rfl | rfl : j = 0 ∨ j = 1 ∨ j = 2 ∨ j = 3 := by omega
  · injection hj with hj; subst hj; exact k0
  · injection hj with hj; subst hj; exact k0
  · injection hj with hj; subst hj; exact k0
  · injection hj with hj; subst hj; exact k3
end Go.Proofs.Ytkmeipblgdahoaa.Dv

/- Calls, as a kind; heavy. -/
namespace Go.Proofs.Ytkmeipblgdahoaa.Dv
open Go.RowKit Go.Proofs.YtkmeipblgdahoaaW.PrintWords Go.Proofs.YtkmeipblgdahoaaW.PrintMore Go.Proofs.Ytkmeipblgdahoaa.Base Go.Proofs.Ytkmeipblgdahoaa.Shp
set_option maxRecDepth 100000
set_option linter.unusedVariables false
set_option linter.unusedSimpArgs false
end Go.Proofs.Ytkmeipblgdahoaa.Dv

/- What is told of blocks that were appended: plain lists. -/
namespace Go.Proofs.Ytkmeipblgdahoaa.Dv
set_option maxRecDepth 100000
set_option linter.unusedVariables false
abbrev Pl := (Int × Int) × List UInt8
abbrev pt (ps : List Prt) (i : Int) : Prt := ps.getD i.toNat ([], 0)
def Good (b : Nat) (ps : List Prt) (q : Pl) : Prop :=
  (0 ≤ q.1.1 ∧ q.1.1 < (ps.length : Int)) ∧ (0 ≤ q.1.2 ∧ q.1.2 < ((pt ps q.1.1).1.length : Int) / (b : Int)) ∧ q.2 = ((pt ps q.1.1).1.drop (q.1.2 * (b : Int)).toNat).take b
/-- Zones hold whole blocks, not too many. -/
def Whole (b zb : Nat) (ps : List Prt) : Prop := ∀ p ∈ ps, ∃ c : Nat, c ≤ zb ∧ p.1.length = c * b
theorem Whole.get {b zb : Nat} {ps : List Prt} (h : Whole b zb ps) {i : Nat} (hi : i < ps.length) : ∃ c : Nat, c ≤ zb ∧ (ps.getD i ([], 0)).1.length = c * b := by
  rw [List.getD_eq_getElem?_getD, List.getElem?_eq_getElem hi]; exact h _ (List.getElem_mem _)
theorem Whole.set {b zb : Nat} {ps : List Prt} (h : Whole b zb ps) (i : Nat) {p : Prt} (hp : ∃ c : Nat, c ≤ zb ∧ p.1.length = c * b) : Whole b zb (ps.set i p) := by
  intro q hq
  rcases List.mem_or_eq_of_mem_set hq with hq | rfl
  · exact h q hq
  · exact hp
theorem Whole.small {b zb : Nat} {ps : List Prt} (h : Whole b zb ps) (hb : b ≤ 4096) (hz : zb ≤ 4096) : ∀ p ∈ ps, p.1.length ≤ 100000000 := by
  intro p hp
  obtain ⟨c, hc, hl⟩ := h p hp
  have : c * b ≤ 4096 * 4096 := Nat.mul_le_mul (by omega) hb
  omega
theorem set_get {ps : List Prt} {i : Nat} (hi : i < ps.length) (p : Prt) : (ps.set i p).getD i ([], 0) = p := by
  rw [List.getD_eq_getElem?_getD, List.getElem?_set_self hi]; rfl
theorem set_far {ps : List Prt} {i j : Nat} (h : i ≠ j) (p : Prt) : (ps.set i p).getD j ([], 0) = ps.getD j ([], 0) := by
  rw [List.getD_eq_getElem?_getD, List.getElem?_set_ne h, ← List.getD_eq_getElem?_getD]
theorem Good.room {b : Nat} {ps : List Prt} {q : Pl} (hb : 0 < b) (h : Good b ps q) : (q.1.2 * (b : Int)).toNat + b ≤ (pt ps q.1.1).1.length := by
  obtain ⟨_, ⟨h1, h2⟩, _⟩ := h
  have h3 : (q.1.2 + 1) * (b : Int) ≤ ((pt ps q.1.1).1.length : Int) := by
    have h4 : (q.1.2 + 1) * (b : Int) ≤ (((pt ps q.1.1).1.length : Int) / (b : Int)) * (b : Int) := Int.mul_le_mul_of_nonneg_right (by omega) (by omega)
    have h5 := Int.ediv_mul_le ((pt ps q.1.1).1.length : Int) (show (b : Int) ≠ 0 by omega)
    omega
  rw [Int.add_mul, Int.one_mul] at h3
  have h6 : 0 ≤ q.1.2 * (b : Int) := Int.mul_nonneg h1 (by omega)
  omega
theorem good_app {b : Nat} (hb : 0 < b) {ps : List Prt} {i : Int} {xs : List UInt8} {d : Int} {q : Pl} (h : Good b ps q) (hi : 0 ≤ i ∧ i < (ps.length : Int)) : Good b (ps.set i.toNat ((pt ps i).1 ++ xs, d)) q := by
  have hr := h.room hb
  obtain ⟨⟨a1, a2⟩, ⟨b1, b2⟩, h3⟩ := h
  refine ⟨⟨a1, by rw [List.length_set]; exact a2⟩, ?_⟩
  by_cases he : i.toNat = q.1.1.toNat
  · have hie : i = q.1.1 := by omega
    subst hie
    unfold pt at hr b2 h3 ⊢
    rw [set_get (by omega)]
    refine ⟨⟨b1, ?_⟩, ?_⟩
    · dsimp only
      have : (((ps.getD q.1.1.toNat ([], 0)).1.length : Int)) / (b : Int) ≤ ((((ps.getD q.1.1.toNat ([], 0)).1 ++ xs).length : Int)) / (b : Int) := Int.ediv_le_ediv (by omega) (by rw [List.length_append]; omega)
      omega
    · rw [h3]
      dsimp only
      rw [List.drop_append_of_le_length (by omega), List.take_append_of_le_length (by rw [List.length_drop]; omega)]
  · unfold pt at b2 h3 ⊢
    rw [set_far he]
    exact ⟨⟨b1, b2⟩, h3⟩
theorem good_new {b c : Nat} (hb : 0 < b) {ps : List Prt} {i : Int} {xs : List UInt8} {d : Int} (hi : 0 ≤ i ∧ i < (ps.length : Int)) (hl : (pt ps i).1.length = c * b) (hx : xs.length = b) : Good b (ps.set i.toNat ((pt ps i).1 ++ xs, d)) ((i, (c : Int)), xs) := by
  refine ⟨⟨hi.1, by rw [List.length_set]; exact hi.2⟩, ?_⟩
  unfold pt at hl ⊢
  rw [set_get (by omega)]
  dsimp only
  have e1 : ((c : Int) * (b : Int)).toNat = c * b := by rw [← Int.natCast_mul, Int.toNat_natCast]
  refine ⟨⟨by omega, ?_⟩, ?_⟩
  · rw [List.length_append, hl, hx, show ((c * b + b : Nat) : Int) = ((c + 1 : Nat) : Int) * (b : Int) by rw [← Int.natCast_mul, Nat.succ_mul], Int.mul_ediv_cancel _ (by omega)]
    omega
  · rw [e1, ← hl, List.drop_left, ← hx, List.take_length]
theorem good_reset {b : Nat} {ps : List Prt} {i : Int} {p : Prt} {q : Pl} (h : Good b ps q) (hi : 0 ≤ i) (hne : q.1.1 ≠ i) : Good b (ps.set i.toNat p) q := by
  obtain ⟨⟨a1, a2⟩, h2⟩ := h
  refine ⟨⟨a1, by rw [List.length_set]; exact a2⟩, ?_⟩
  unfold pt at h2 ⊢
  rw [set_far (by omega)]
  exact h2
open Go.Proofs.Ytkmeipblgdahoaa.Base Go.Proofs.Ytkmeipblgdahoaa.Shp in
theorem hasB_mem {n : Nat} {i : Int} (h : hasB n i = true) : 0 ≤ i ∧ i < (n : Int) := by
  unfold hasB at h
  exact of_decide_eq_true h
open Go.Proofs.Ytkmeipblgdahoaa.Base Go.Proofs.Ytkmeipblgdahoaa.Shp in
/-- What Append does to zones of whole blocks. -/
theorem app_cases {zb b : Nat} (hb : 0 < b) {ps ps' : List Prt} {i : Int} {xs : List UInt8} {e : Ending} (hw : Whole b zb ps) (hx : xs.length = b) (h : AppR (zb : Int) (b : Int) ps i xs e ps') :
    (∃ er : Int, (er = 100 ∨ er = 101) ∧ e = addrV 0 0 er ∧ ps' = ps) ∨
    (∃ c : Nat, c < zb ∧ (0 ≤ i ∧ i < (ps.length : Int)) ∧ (pt ps i).1.length = c * b ∧ e = addrV i (c : Int) 0 ∧ ps' = ps.set i.toNat ((pt ps i).1 ++ xs, (pt ps i).2)) := by
  rcases h with ⟨_, he, hp⟩ | ⟨_, _, _, he, hp⟩ | ⟨hh, _, hc, he, hp⟩
  · exact .inl ⟨100, .inl rfl, he, hp⟩
  · exact .inl ⟨101, .inr rfl, he, hp⟩
  · obtain ⟨h0, h1⟩ := hasB_mem hh
    obtain ⟨c, _, hl⟩ := hw.get (i := i.toNat) (by omega)
    have e1 : (((ps.getD i.toNat ([], 0)).1.length : Nat) : Int) / (b : Int) = (c : Int) := by rw [hl, Int.natCast_mul, Int.mul_ediv_cancel _ (by omega)]
    rw [e1] at hc he
    exact .inr ⟨c, by omega, ⟨h0, h1⟩, hl, he, hp⟩
theorem whole_app {zb b c : Nat} {ps : List Prt} {i : Int} {xs : List UInt8} {d : Int} (hw : Whole b zb ps) (hx : xs.length = b) (hc : c < zb) (hl : (pt ps i).1.length = c * b) : Whole b zb (ps.set i.toNat ((pt ps i).1 ++ xs, d)) :=
  hw.set _ ⟨c + 1, hc, by rw [List.length_append, hl, hx, Nat.succ_mul]⟩
end Go.Proofs.Ytkmeipblgdahoaa.Dv

/- A device, a row of places and a row of blocks, apart from each other. -/
namespace Go.Proofs.Ytkmeipblgdahoaa.Dv
open Go.RowKit Go.Proofs.YtkmeipblgdahoaaW.PrintWords Go.Proofs.YtkmeipblgdahoaaW.PrintMore Go.Proofs.Ytkmeipblgdahoaa.Base Go.Proofs.Ytkmeipblgdahoaa.Shp
set_option maxRecDepth 100000
set_option linter.unusedVariables false
set_option linter.unusedSimpArgs false
def addrK : Kd (Int × Int) := Kd.pair (num .i64) (num .i64)
def bytesK : Kd (List UInt8) := Kd.slice 5 byte
theorem heap_addr : Kd.Heap addrK := Kd.heap_pair (heap_num _) (heap_num _)
theorem heap_bytes : Kd.Heap bytesK := Kd.heap_slice _ heap_byte
theorem info_addr : (Try.prog.info? 59).map (fun i => (i.zero, i.size, i.bytes)) = some (some (.agg #[.int .i64 0, .int .i64 0]), 2, 16) := by kernel_rfl
theorem info_bytes : (Try.prog.info? 39).map (fun i => (i.zero, i.size, i.bytes)) = some (some (.slice none 0 0), 1, 24) := by kernel_rfl
theorem addr_K {w : World} {z b : Int} (hz : IsI z) (hb : IsI b) : addrK.K w (z, b) [.int .i64 z, .int .i64 b] := by
  obtain ⟨z1, z2⟩ := hz
  obtain ⟨b1, b2⟩ := hb
  refine ⟨[_], [_], rfl, ⟨rfl, ?_⟩, ⟨rfl, ?_⟩⟩
  · simp [Lit.wf, IntKind.min, IntKind.max, IntKind.bits, IntKind.signed]; omega
  · simp [Lit.wf, IntKind.min, IntKind.max, IntKind.bits, IntKind.signed]; omega
section
variable {ops : Array Oper} {rest : List Oper} {o : Oper} {a : Act} {Q : Exit → Act → World → Prop}
/-- append(v, x): a block. -/
theorem app_blk {W : World} (base : Nat) (E O : Nat → Prop) (s x : Operand) (hgd : o.guard = none) (ho : o.op = .call { callee := .builtin .append, args := #[s, x], argTypes := #[28, 28] })
    (v : Value) (xs : List (List UInt8)) (ys : List UInt8) (A : Option Addr) (n c : Nat) (hp : Kd.FK bytesK W O ys [.slice A n c]) (hO : ∀ k, O k → some k ≠ v.ownBlock) (hs : a.eval s = v) (hx : a.eval x = .slice (some ⟨W.heap.size, 0, none⟩) 1 1)
    (HO : Kd.N bytesK 39 W base E v xs) (hbase : base ≤ W.heap.size) (hl : xs.length ≤ 100000)
    (h : ∀ v1 w1, Kd.N bytesK 39 w1 base (fun k => E k ∨ O k ∨ W.heap.size ≤ k) v1 (xs ++ [ys]) → W.grownBy w1 v.ownBlock → wpList Try.prog ops Q rest (a.put o.dst v1) w1) :
    wpList Try.prog ops Q (o :: rest) a (W.alloc (.cells #[.slice A n c] 39)) :=
  Kd.N_append bytesK (w0 := W) base hgd s x 28 39 _ 24 ho Try.underlying28 info_bytes rfl (by decide) (by decide) v xs ys [.slice A n c] (fun k => E k ∨ O k ∨ W.heap.size ≤ k) O hs hx
    hp (fun k hk => ⟨.inr (.inl hk), hO k hk⟩) (fun k hk => .inr (.inr hk)) (Kd.N_mono HO (fun k hk => .inl hk)) (Below.refl _ _) hbase (by omega) (fun v1 w1 h1 h2 h3 _ => h v1 w1 h1 h3)
end
/-- A device, places, blocks: no two share what is written. -/
structure RdM (w : World) (xb base : Nat) (z zb b r : Int) (ps : List Prt) (v vp vb : Value) (pa : List (Int × Int)) (ba : List (List UInt8)) (D P E : Nat → Prop) : Prop where
  dev : Dev w xb base D z zb b r ps v
  pls : Kd.N addrK 59 w base P vp pa
  bls : Kd.N bytesK 39 w base E vb ba
  dp : ∀ k, D k → ¬ P k
  de : ∀ k, D k → ¬ E k
  pe : ∀ k, P k → ¬ E k
  dl : ∀ k, D k → base ≤ k ∧ k < w.heap.size
  pl : ∀ k, P k → base ≤ k ∧ k < w.heap.size
  el : ∀ k, E k → base ≤ k ∧ k < w.heap.size
  xp : ¬ P xb
  xe : ¬ E xb
section
variable {w w1 : World} {xb base : Nat} {z zb b r : Int} {ps ps' : List Prt} {v vp vb vp1 vb1 : Value} {pa pa1 : List (Int × Int)} {ba ba1 : List (List UInt8)} {D P E P1 E1 : Nat → Prop}
theorem RdM.below (h : RdM w xb base z zb b r ps v vp vb pa ba D P E) (hb : Below w.heap.size w w1) : RdM w1 xb base z zb b r ps v vp vb pa ba D P E :=
  ⟨h.dev.below hb, Kd.N_below h.pls hb, Kd.N_below h.bls hb, h.dp, h.de, h.pe, fun k hk => ⟨(h.dl k hk).1, Nat.lt_of_lt_of_le (h.dl k hk).2 hb.size⟩, fun k hk => ⟨(h.pl k hk).1, Nat.lt_of_lt_of_le (h.pl k hk).2 hb.size⟩,
    fun k hk => ⟨(h.el k hk).1, Nat.lt_of_lt_of_le (h.el k hk).2 hb.size⟩, h.xp, h.xe⟩
theorem RdM.xlt (h : RdM w xb base z zb b r ps v vp vb pa ba D P E) : xb < w.heap.size := (Array.getElem?_eq_some_iff.1 h.dev.blk).1
/-- The device was written. -/
theorem RdM.devop (h : RdM w xb base z zb b r ps v vp vb pa ba D P E) (hbase : base ≤ w.heap.size) (hD : Dev w1 xb base (fun k => D k ∨ w.heap.size ≤ k) z zb b r ps' v) (hc : Chg w w1 (fun k => D k ∨ w.heap.size ≤ k)) :
    RdM w1 xb base z zb b r ps' v vp vb pa ba (fun k => (D k ∨ w.heap.size ≤ k) ∧ base ≤ k ∧ k < w1.heap.size) P E := by
  have hsz := hc.kept.1
  refine ⟨hD.tight (fun k hk h1 h2 => ⟨hk, h1, h2⟩), Kd.N_kept h.pls hc.kept (fun k hk hs => ?_), Kd.N_kept h.bls hc.kept (fun k hk hs => ?_), fun k hk hp => ?_, fun k hk he => ?_, h.pe, fun k hk => hk.2, fun k hk => ⟨(h.pl k hk).1, Nat.lt_of_lt_of_le (h.pl k hk).2 hsz⟩,
    fun k hk => ⟨(h.el k hk).1, Nat.lt_of_lt_of_le (h.el k hk).2 hsz⟩, h.xp, h.xe⟩
  · exact hs.elim (fun h1 => h.dp k h1 hk) (fun h1 => by have := (h.pl k hk).2; omega)
  · exact hs.elim (fun h1 => h.de k h1 hk) (fun h1 => by have := (h.el k hk).2; omega)
  · exact hk.1.elim (fun h1 => h.dp k h1 hp) (fun h1 => by have := (h.pl k hp).2; omega)
  · exact hk.1.elim (fun h1 => h.de k h1 he) (fun h1 => by have := (h.el k he).2; omega)
/-- The row of places is another one. -/
theorem RdM.addp (h : RdM w xb base z zb b r ps v vp vb pa ba D P E) (hN : Kd.N addrK 59 w1 base P1 vp1 pa1) {row : Option Nat} (hg : w.grownBy w1 row) (hr : ∀ k, row = some k → P k) (hP : ∀ k, P1 k → base ≤ k ∧ k < w1.heap.size ∧ (k < w.heap.size → ¬ D k ∧ ¬ E k ∧ k ≠ xb)) :
    RdM w1 xb base z zb b r ps v vp1 vb pa1 ba D P1 E := by
  have hsz := hg.size
  have hxl := h.xlt
  refine ⟨h.dev.chg (Chg.of_grown (S := fun k => row = some k) hg (fun k hk => hk)) (fun hx => h.xp (hr _ hx)) (fun k hk hx => h.dp k hk (hr k hx)), hN, Kd.N_grown h.bls hg (fun k hk e => h.pe k (hr k e.symm) hk), fun k hk hp => ?_, h.de, fun k hk he => ?_,
    fun k hk => ⟨(h.dl k hk).1, Nat.lt_of_lt_of_le (h.dl k hk).2 hsz⟩, fun k hk => ⟨(hP k hk).1, (hP k hk).2.1⟩, fun k hk => ⟨(h.el k hk).1, Nat.lt_of_lt_of_le (h.el k hk).2 hsz⟩, fun hx => ((hP xb hx).2.2 hxl).2.2 rfl, h.xe⟩
  · exact ((hP k hp).2.2 (h.dl k hk).2).1 hk
  · exact ((hP k hk).2.2 (h.el k he).2).2.1 he
/-- The row of blocks is another one. -/
theorem RdM.addb (h : RdM w xb base z zb b r ps v vp vb pa ba D P E) (hN : Kd.N bytesK 39 w1 base E1 vb1 ba1) {row : Option Nat} (hg : w.grownBy w1 row) (hr : ∀ k, row = some k → E k) (hE : ∀ k, E1 k → base ≤ k ∧ k < w1.heap.size ∧ (k < w.heap.size → ¬ D k ∧ ¬ P k ∧ k ≠ xb)) :
    RdM w1 xb base z zb b r ps v vp vb1 pa ba1 D P E1 := by
  have hsz := hg.size
  have hxl := h.xlt
  refine ⟨h.dev.chg (Chg.of_grown (S := fun k => row = some k) hg (fun k hk => hk)) (fun hx => h.xe (hr _ hx)) (fun k hk hx => h.de k hk (hr k hx)), Kd.N_grown h.pls hg (fun k hk e => h.pe k hk (hr k e.symm)), hN, h.dp, fun k hk he => ?_, fun k hk he => ?_,
    fun k hk => ⟨(h.dl k hk).1, Nat.lt_of_lt_of_le (h.dl k hk).2 hsz⟩, fun k hk => ⟨(h.pl k hk).1, Nat.lt_of_lt_of_le (h.pl k hk).2 hsz⟩, fun k hk => ⟨(hE k hk).1, (hE k hk).2.1⟩, h.xp, fun hx => ((hE xb hx).2.2 hxl).2.2 rfl⟩
  · exact ((hE k he).2.2 (h.dl k hk).2).1 hk
  · exact ((hE k he).2.2 (h.pl k hk).2).2.1 hk
end
theorem own_FK {w : World} {base : Nat} {A : Option Addr} {n c : Nat} {xs : List UInt8} (h : Base.Own w base (.slice A n c) xs) : Kd.FK bytesK w (fun k => some k = (Value.slice A n c).ownBlock) xs [.slice A n c] := by
  have hN := Kd.R_N (Kd.R_tight rfl h)
  obtain ⟨hn, hc, _⟩ := Kd.N_reads' hN
  subst hn
  exact Kd.FK_slice_mk hc (Kd.N_F hN)
section
variable {w w1 : World} {xb base : Nat} {z zb b r : Int} {ps ps' : List Prt} {v vp vb vp1 vb1 : Value} {pa pa1 : List (Int × Int)} {ba ba1 : List (List UInt8)} {D P E O : Nat → Prop}
theorem RdM.addp' (h : RdM w xb base z zb b r ps v vp vb pa ba D P E) (hbase : base ≤ w.heap.size) (hN : Kd.N addrK 59 w1 base (fun k => P k ∨ w.heap.size ≤ k) vp1 pa1) (hg : w.grownBy w1 vp.ownBlock) :
    RdM w1 xb base z zb b r ps v vp1 vb pa1 ba D (fun k => (P k ∨ w.heap.size ≤ k) ∧ k < w1.heap.size) E := by
  have hxl := h.xlt
  refine h.addp (Kd.N_bound hN) hg (fun k hk => h.pls.1 k hk) (fun k hk => ⟨hk.1.elim (fun h1 => (h.pl k h1).1) (fun h1 => by omega), hk.2, fun hlt => ?_⟩)
  have hp : P k := hk.1.resolve_right (by omega)
  exact ⟨fun hd => h.dp k hd hp, h.pe k hp, fun e => h.xp (e ▸ hp)⟩
theorem RdM.addb' (h : RdM w xb base z zb b r ps v vp vb pa ba D P E) (hbase : base ≤ w.heap.size) (hN : Kd.N bytesK 39 w1 base (fun k => E k ∨ O k ∨ w.heap.size ≤ k) vb1 ba1) (hg : w.grownBy w1 vb.ownBlock) (hO : ∀ k, O k → base ≤ k ∧ ¬ D k ∧ ¬ P k ∧ k ≠ xb) :
    RdM w1 xb base z zb b r ps v vp vb1 pa ba1 D P (fun k => (E k ∨ O k ∨ w.heap.size ≤ k) ∧ k < w1.heap.size) := by
  have hxl := h.xlt
  refine h.addb (Kd.N_bound hN) hg (fun k hk => h.bls.1 k hk) (fun k hk => ⟨hk.1.elim (fun h1 => (h.el k h1).1) (fun h1 => h1.elim (fun h2 => (hO k h2).1) (fun h2 => by omega)), hk.2, fun hlt => ?_⟩)
  rcases hk.1 with he | ho | hge
  · exact ⟨fun hd => h.de k hd he, fun hp => h.pe k hp he, fun e => h.xe (e ▸ he)⟩
  · exact (hO k ho).2
  · omega
end
theorem fk_move {w4 w5 w7 : World} {ob : Obj} {row : Option Nat} {O S : Nat → Prop} {xs : List UInt8} {cs : List Value} (h : Kd.FK bytesK w4 O xs cs) (hc : Chg w4 w5 S) (hg : (w5.alloc ob).grownBy w7 row) (hS : ∀ k, O k → ¬ S k) (hr : ∀ k, O k → some k ≠ row) : Kd.FK bytesK w7 O xs cs :=
  Kd.FK_grown (Kd.FK_below (Kd.FK_step h (fun k hk hlt => hc.kept.2 k hlt (hS k hk))) (alloc_below _ _)) hg hr
theorem res_cases {zb b : Nat} {ps ps' : List Prt} {i : Int} {e : Ending} (h : ResR ps i e ps') (hw : Whole b zb ps) :
    ∃ er : Int, e = .returned (.int .u16 er) ∧ ps'.length = ps.length ∧ Whole b zb ps' ∧ ∀ q, Good b ps q → q.1.1 ≠ i → Good b ps' q := by
  rcases h with ⟨_, he, rfl⟩ | ⟨hh, he, rfl⟩
  · exact ⟨100, he, rfl, hw, fun q hq _ => hq⟩
  · exact ⟨0, he, by rw [List.length_set], hw.set _ ⟨0, by omega, by simp⟩, fun q hq hne => good_reset hq (hasB_mem hh).1 hne⟩
/-- A place of a row. -/
theorem place_at {w : World} {base : Nat} {P : Nat → Prop} {A : Option Addr} {n c : Nat} {pa : List (Int × Int)} (h : Kd.N addrK 59 w base P (.slice A n c) pa) (i : Nat) (hi : i < n) {p : Int × Int} (hp : pa.getD i (0, 0) = p) :
    ∃ ad, A = some ad ∧ w.cell? (ad.add (i * 2)) = some (.int .i64 p.1) ∧ w.cell? ⟨(ad.add (i * 2)).block, (ad.add (i * 2)).off + 1, none⟩ = some (.int .i64 p.2) ∧ IsI p.1 ∧ IsI p.2 := by
  obtain ⟨hn, hc, hC⟩ := Kd.N_reads' h
  subst hn
  obtain ⟨ad, h1, h2, h3, h4, h5⟩ := loss_at (xs := pa) hC i hi
  rw [hp] at h2 h3 h4 h5
  exact ⟨ad, h1, h2, h3, h4, h5⟩
/-- A block of a row. -/
theorem block_at {w : World} {base : Nat} {E : Nat → Prop} {A : Option Addr} {n c : Nat} {ba : List (List UInt8)} (h : Kd.N bytesK 39 w base E (.slice A n c) ba) (i : Nat) (hi : i < n) {x : List UInt8} (hx : ba.getD i [] = x) :
    ∃ ad B k, A = some ad ∧ w.cell? (ad.add i) = some (.slice B x.length k) ∧ x.length ≤ k ∧ byte.C w B x.length x ∧ Kd.FK bytesK w (fun k => E k ∧ some k ≠ (Value.slice A n c).ownBlock) x [.slice B x.length k] := by
  obtain ⟨hn, hc, hC⟩ := Kd.N_reads' h
  subst hn
  obtain ⟨ad, hA, _⟩ := hC.2.2 (by omega)
  subst hA
  obtain ⟨c0, hl, hF, hcc⟩ := Kd.N_get h [] (i : Int) (by omega) (by omega)
  rw [Int.toNat_natCast] at hF hcc
  rw [hx] at hF
  obtain ⟨B, k, rfl, hk, hB⟩ := Kd.FK_slice_open hF
  refine ⟨ad, B, k, rfl, ?_, hk, (Kd.FK_now hF).elim (fun B' h => by obtain ⟨k', e, _, hC'⟩ := h; simp only [List.cons.injEq, Value.slice.injEq, and_true] at e; obtain ⟨rfl, _, rfl⟩ := e; exact hC'), hF⟩
  have := hcc 0 _ rfl
  rwa [show i * bytesK.sz + 0 = i from by show i * 1 + 0 = i; omega] at this
/-- The places that are kept, so far. -/
def keepP (zi : Int) (k : Nat) (pl : List Pl) : List Pl := (pl.take k).filter fun q => decide (q.1.1 ≠ zi)
theorem keepP_no {zi : Int} {k : Nat} {pl : List Pl} (h : k < pl.length) (he : (pl.getD k ((0, 0), [])).1.1 = zi) : keepP zi (k + 1) pl = keepP zi k pl := by
  unfold keepP
  rw [List.getD_eq_getElem?_getD, List.getElem?_eq_getElem h] at he
  have he' : pl[k].1.1 = zi := he
  rw [List.take_succ_eq_append_getElem h, List.filter_append, List.filter_cons, if_neg (by rw [he']; simp), List.filter_nil, List.append_nil]
theorem keepP_yes {zi : Int} {k : Nat} {pl : List Pl} (h : k < pl.length) (he : (pl.getD k ((0, 0), [])).1.1 ≠ zi) : keepP zi (k + 1) pl = keepP zi k pl ++ [pl.getD k ((0, 0), [])] := by
  unfold keepP
  rw [List.getD_eq_getElem?_getD, List.getElem?_eq_getElem h] at he ⊢
  have he' : pl[k].1.1 ≠ zi := he
  rw [List.take_succ_eq_append_getElem h, List.filter_append, List.filter_cons, if_pos (by simpa using he'), List.filter_nil]
  rfl
theorem keepP_len {zi : Int} {k : Nat} {pl : List Pl} : (keepP zi k pl).length ≤ pl.length := by
  unfold keepP
  have h1 := List.length_filter_le (fun q : Pl => decide (q.1.1 ≠ zi)) (pl.take k)
  rw [List.length_take] at h1
  omega
theorem keepP_mem {zi : Int} {k : Nat} {pl : List Pl} {q : Pl} (h : q ∈ keepP zi k pl) : q ∈ pl ∧ q.1.1 ≠ zi := by
  unfold keepP at h
  rw [List.mem_filter] at h
  exact ⟨List.mem_of_mem_take h.1, by simpa using h.2⟩
/-- The new rows, while places are gone through. -/
structure KpM (w4 wq : World) (vp vb : Value) (pa : List (Int × Int)) (ba : List (List UInt8)) (E P2 E2 : Nat → Prop) : Prop where
  pls : Kd.N addrK 59 wq w4.heap.size P2 vp pa
  bls : Kd.N bytesK 39 wq w4.heap.size E2 vb ba
  pe : ∀ k, P2 k → ¬ E2 k
  pl : ∀ k, P2 k → w4.heap.size ≤ k ∧ k < wq.heap.size
  el : ∀ k, E2 k → (E k ∨ w4.heap.size ≤ k) ∧ k < wq.heap.size
  bel : Below w4.heap.size w4 wq
section
variable {w4 w w1 : World} {vp vb vp1 vb1 : Value} {pa pa1 : List (Int × Int)} {ba ba1 : List (List UInt8)} {E P2 E2 O : Nat → Prop}
theorem KpM.below (h : KpM w4 w vp vb pa ba E P2 E2) (hb : Below w.heap.size w w1) : KpM w4 w1 vp vb pa ba E P2 E2 :=
  ⟨Kd.N_below h.pls hb, Kd.N_below h.bls hb, h.pe, fun k hk => ⟨(h.pl k hk).1, Nat.lt_of_lt_of_le (h.pl k hk).2 hb.size⟩, fun k hk => ⟨(h.el k hk).1, Nat.lt_of_lt_of_le (h.el k hk).2 hb.size⟩, h.bel.trans (hb.mono h.bel.size)⟩
theorem KpM.addp (h : KpM w4 w vp vb pa ba E P2 E2) (hN : Kd.N addrK 59 w1 w4.heap.size (fun k => P2 k ∨ w.heap.size ≤ k) vp1 pa1) (hg : w.grownBy w1 vp.ownBlock) :
    KpM w4 w1 vp1 vb pa1 ba E (fun k => (P2 k ∨ w.heap.size ≤ k) ∧ k < w1.heap.size) E2 :=
  ⟨Kd.N_bound hN, Kd.N_grown h.bls hg (fun k hk e => h.pe k (h.pls.1 k e.symm) hk), fun k hk he => hk.1.elim (fun h1 => h.pe k h1 he) (fun h1 => by have := (h.el k he).2; omega),
    fun k hk => ⟨hk.1.elim (fun h1 => (h.pl k h1).1) (fun h1 => Nat.le_trans h.bel.size h1), hk.2⟩, fun k hk => ⟨(h.el k hk).1, Nat.lt_of_lt_of_le (h.el k hk).2 hg.size⟩,
    h.bel.grown hg h.bel.size (fun k hk => (h.pl k (h.pls.1 k hk)).1)⟩
theorem KpM.addb (h : KpM w4 w vp vb pa ba E P2 E2) (hN : Kd.N bytesK 39 w1 w4.heap.size (fun k => E2 k ∨ O k ∨ w.heap.size ≤ k) vb1 ba1) (hg : w.grownBy w1 vb.ownBlock) (hO : ∀ k, O k → E k ∧ k < w4.heap.size) :
    KpM w4 w1 vp vb1 pa ba1 E P2 (fun k => (E2 k ∨ O k ∨ w.heap.size ≤ k) ∧ k < w1.heap.size) := by
  refine ⟨Kd.N_grown h.pls hg (fun k hk e => h.pe k hk (h.bls.1 k e.symm)), Kd.N_bound hN, fun k hk he => ?_, fun k hk => ⟨(h.pl k hk).1, Nat.lt_of_lt_of_le (h.pl k hk).2 hg.size⟩,
    fun k hk => ⟨hk.1.elim (fun h1 => (h.el k h1).1) (fun h1 => h1.elim (fun h2 => .inl (hO k h2).1) (fun h2 => .inr (Nat.le_trans h.bel.size h2))), hk.2⟩, h.bel.grown hg h.bel.size (fun k hk => Kd.N_base h.bls k hk)⟩
  rcases he.1 with h1 | h1 | h1
  · exact h.pe k hk h1
  · have := (hO k h1).2; have := (h.pl k hk).1; omega
  · have := (h.pl k hk).2; omega
theorem RdM.turn {w4 wq : World} {xb base : Nat} {z zb b r : Int} {ps : List Prt} {v vp vb vp1 vb1 : Value} {pa pa1 : List (Int × Int)} {ba ba1 : List (List UInt8)} {D P E P2 E2 : Nat → Prop}
    (h : RdM w4 xb base z zb b r ps v vp vb pa ba D P E) (k : KpM w4 wq vp1 vb1 pa1 ba1 E P2 E2) (hbase : base ≤ w4.heap.size) : RdM wq xb base z zb b r ps v vp1 vb1 pa1 ba1 D P2 E2 := by
  have h1 := h.below k.bel
  have hxl := h.xlt
  refine ⟨h1.dev, Kd.N_lower k.pls hbase, Kd.N_lower k.bls hbase, fun j hd hp => ?_, fun j hd he => ?_, k.pe, h1.dl, fun j hj => ⟨Nat.le_trans hbase (k.pl j hj).1, (k.pl j hj).2⟩, fun j hj => ⟨(k.el j hj).1.elim (fun h2 => (h.el j h2).1) (fun h2 => Nat.le_trans hbase h2), (k.el j hj).2⟩, fun hx => ?_, fun hx => ?_⟩
  · have := (h.dl j hd).2; have := (k.pl j hp).1; omega
  · rcases (k.el j he).1 with h2 | h2
    · exact h.de j hd h2
    · have := (h.dl j hd).2; omega
  · have := (k.pl xb hx).1; omega
  · rcases (k.el xb hx).1 with h2 | h2
    · exact h.xe h2
    · omega
end
end Go.Proofs.Ytkmeipblgdahoaa.Dv

/- The document's device: its block, its row of zones; what it leads to is only read. Lent, New, Reset, At. -/
namespace Go.Proofs.Ytkmeipblgdahoaa.Dv
open Go.RowKit Go.Proofs.YtkmeipblgdahoaaW.PrintWords Go.Proofs.YtkmeipblgdahoaaW.PrintMore Go.Proofs.Ytkmeipblgdahoaa.Base Go.Proofs.Ytkmeipblgdahoaa.Shp
set_option maxRecDepth 100000
set_option linter.unusedVariables false
set_option linter.unusedSimpArgs false
/-- A zone: its blocks, how many are durable. -/
abbrev Zn := List (List UInt8) × Int
def blocksK : Kd (List (List UInt8)) := Kd.slice 39 bytesK
def zoneK : Kd Zn := Kd.pair blocksK (num .i64)
theorem heap_blocks : Kd.Heap blocksK := Kd.heap_slice _ heap_bytes
theorem heap_zone : Kd.Heap zoneK := Kd.heap_pair heap_blocks (heap_num _)
structure RDv (w : World) (rb base : Nat) (ok : Nat → Prop) (z zb b r : Int) (zs : List Zn) (v : Value) : Prop where
  blk : w.heap[rb]? = some (.cells #[.int .i64 z, .int .i64 zb, .int .i64 b, .int .i64 r, v] 127 (0, 0))
  row : Kd.N zoneK 77 w base ok v zs
section
variable {w w1 : World} {rb base : Nat} {ok ok' : Nat → Prop} {z zb b r : Int} {zs : List Zn} {v : Value}
theorem RDv.chg (h : RDv w rb base ok z zb b r zs v) {S : Nat → Prop} (hc : Chg w w1 S) (hx : ¬ S rb) (hs : ∀ k, ok k → ¬ S k) : RDv w1 rb base ok z zb b r zs v :=
  ⟨blk_kept h.blk hc.kept hx, Kd.N_kept h.row hc.kept hs⟩
theorem RDv.below (h : RDv w rb base ok z zb b r zs v) (hb : Below w.heap.size w w1) : RDv w1 rb base ok z zb b r zs v :=
  h.chg (Chg.of_below hb (fun _ => False)) (fun h => h) (fun _ _ h => h)
theorem RDv.mono (h : RDv w rb base ok z zb b r zs v) (hk : ∀ k, ok k → k < w.heap.size → ok' k) : RDv w rb base ok' z zb b r zs v :=
  ⟨h.blk, Kd.N_mono (Kd.N_bound h.row) (fun k hh => hk k hh.1 hh.2)⟩
theorem RDv.cells (h : RDv w rb base ok z zb b r zs v) : w.cell? ⟨rb, 0, none⟩ = some (.int .i64 z) ∧ w.cell? ⟨rb, 1, none⟩ = some (.int .i64 zb) ∧ w.cell? ⟨rb, 2, none⟩ = some (.int .i64 b) ∧ w.cell? ⟨rb, 3, none⟩ = some (.int .i64 r) ∧ w.cell? ⟨rb, 4, none⟩ = some v := by
  have := h.blk
  exact ⟨by simp [World.cell?, this], by simp [World.cell?, this], by simp [World.cell?, this], by simp [World.cell?, this], by simp [World.cell?, this]⟩
theorem RDv.xlt (h : RDv w rb base ok z zb b r zs v) : rb < w.heap.size := (Array.getElem?_eq_some_iff.1 h.blk).1
/-- The zones' slice. -/
theorem RDv.form (h : RDv w rb base ok z zb b r zs v) : ∃ A n c, v = .slice A n c ∧ n = zs.length ∧ n ≤ c ∧ n ≤ 9223372036854775807 := by
  obtain ⟨A, c, rfl, h2, h3⟩ := Kd.N_reads h.row
  exact ⟨A, _, c, rfl, rfl, h2, (C_len h3).2⟩
end
theorem zone_K {w : World} {bs : List (List UInt8)} {d : Int} {A : Option Addr} {c : Nat} {ok : Nat → Prop} (hf : Kd.F bytesK w ok A bs.length bs) (hc : bs.length ≤ c) (hd : IsI d) : Kd.FK zoneK w ok (bs, d) [.slice A bs.length c, .int .i64 d] := by
  obtain ⟨d1, d2⟩ := hd
  exact fun W' hW => ⟨[_], [_], rfl, ⟨A, c, rfl, hc, hf W' hW⟩, ⟨rfl, by simp [Lit.wf, IntKind.min, IntKind.max, IntKind.bits, IntKind.signed]; omega⟩⟩
/-- A zone's cells, opened. -/
theorem zone_open {w : World} {p : Zn} {c : List Value} {ok : Nat → Prop} (h : Kd.FK zoneK w ok p c) : ∃ A k, c = [.slice A p.1.length k, .int .i64 p.2] ∧ p.1.length ≤ k ∧ Kd.F bytesK w ok A p.1.length p.1 ∧ IsI p.2 := by
  obtain ⟨c0, c1, rfl, ⟨A, k, rfl, h1, h2⟩, ⟨rfl, h3⟩⟩ := Kd.FK_now h
  refine ⟨A, k, rfl, h1, fun W' hW => ?_, wf_i64 h3⟩
  obtain ⟨c0', c1', e, ⟨A', k', e', h1', h2'⟩, _⟩ := h W' hW
  subst e'
  simp only [List.cons_append, List.nil_append, List.cons.injEq, Value.slice.injEq] at e
  obtain ⟨⟨rfl, _, rfl⟩, _⟩ := e
  exact h2'
/-- A zone: where it lies; what the row is once it was written. -/
theorem RDv.zone {w : World} {rb base : Nat} {ok : Nat → Prop} {z zb b r : Int} {zs : List Zn} {v : Value} (h : RDv w rb base ok z zb b r zs v) {j : Nat} (hj : j < zs.length) {p : Zn} (hp : zs.getD j ([], 0) = p) :
    ∃ ad cp A k, v = .slice (some ad) zs.length cp ∧ w.cell? (ad.add (j * 2)) = some (.slice A p.1.length k) ∧ w.cell? ⟨(ad.add (j * 2)).block, (ad.add (j * 2)).off + 1, none⟩ = some (.int .i64 p.2) ∧ p.1.length ≤ k ∧ IsI p.2 ∧ Kd.F bytesK w (fun k => ok k ∧ k ≠ ad.block) A p.1.length p.1 ∧
      w.frozen? (ad.add (j * 2)) = false ∧ w.frozen? ⟨(ad.add (j * 2)).block, (ad.add (j * 2)).off + 1, none⟩ = false ∧ ok ad.block ∧ ad.block ≠ rb ∧ ad.block < w.heap.size ∧
      (∀ (w1 : World) (A1 : Option Addr) (c1 : Nat) (bs : List (List UInt8)) (okp : Nat → Prop), Below w.heap.size w w1 → Kd.F bytesK w1 okp A1 bs.length bs → bs.length ≤ c1 → (∀ k, okp k → ok k ∧ k ≠ ad.block) →
        RDv (w1.setCell (ad.add (j * 2)) (.slice A1 bs.length c1)) rb base ok z zb b r (zs.set j (bs, p.2)) v) ∧
      (∀ d : Int, IsI d → RDv (w.setCell ⟨(ad.add (j * 2)).block, (ad.add (j * 2)).off + 1, none⟩ (.int .i64 d)) rb base ok z zb b r (zs.set j (p.1, d)) v) ∧
      (∀ (w1 : World) (A1 : Option Addr) (c1 : Nat) (bs : List (List UInt8)) (d : Int) (okp : Nat → Prop), Below w.heap.size w w1 → IsI d → Kd.F bytesK w1 okp A1 bs.length bs → bs.length ≤ c1 → (∀ k, okp k → ok k ∧ k ≠ ad.block) →
        RDv ((w1.setCell (ad.add (j * 2)) (.slice A1 bs.length c1)).setCell ⟨(ad.add (j * 2)).block, (ad.add (j * 2)).off + 1, none⟩ (.int .i64 d)) rb base ok z zb b r (zs.set j (bs, d)) v) := by
  obtain ⟨g, cp, hv, hbg, hgl, cells, hcells⟩ := Kd.N_form h.row (by omega)
  subst hv
  have hgo : ok g := h.row.1 g (by simp [Value.ownBlock])
  have hgx : g ≠ rb := by
    intro e
    rw [e, h.blk] at hcells
    simp at hcells
  have hs : zoneK.sz = 2 := rfl
  have ea : (⟨g, 0, none⟩ : Addr).add (j * 2) = ⟨g, j * 2, none⟩ := by rw [add_plain]
  obtain ⟨c, hcl, hM, hcc, hfr⟩ := Kd.N_elem h.row ([], 0) (j : Int) (by omega) (by omega)
  rw [Int.toNat_natCast] at hM hcc hfr
  rw [hs] at hcc hfr hcl
  rw [hp] at hM
  obtain ⟨A, k, rfl, h1, h2, h3⟩ := zone_open hM
  have put : ∀ (w1 : World) (A1 : Option Addr) (c1 : Nat) (bs : List (List UInt8)) (d : Int) (okp : Nat → Prop), Below w.heap.size w w1 → IsI d → Kd.F bytesK w1 okp A1 bs.length bs → bs.length ≤ c1 → (∀ k, okp k → ok k ∧ k ≠ g) →
      RDv ((w1.setCell (((⟨g, 0, none⟩ : Addr)).add (j * 2)) (.slice A1 bs.length c1)).setCell ⟨((⟨g, 0, none⟩ : Addr).add (j * 2)).block, ((⟨g, 0, none⟩ : Addr).add (j * 2)).off + 1, none⟩ (.int .i64 d)) rb base ok z zb b r (zs.set j (bs, d)) (.slice (some ⟨g, 0, none⟩) zs.length cp) := by
    intro w1 A1 c1 bs d okp hb hd hf hc hok
    have h' := h.below hb
    obtain ⟨cc, hcl', _, hcc', _⟩ := Kd.N_elem h'.row ([], 0) (j : Int) (by omega) (by omega)
    have := (Kd.N_seg h'.row (j : Int) (by omega) (by omega) (c := cc) (seg := [.slice A1 bs.length c1, .int .i64 d]) (j := 0) hcl' hcc' (by rw [hs]; exact Nat.le_refl 2) (x' := (bs, d)) (okp := okp) (by
      rw [List.take_zero, List.nil_append, List.drop_eq_nil_of_le (by rw [hcl', hs]; exact Nat.le_refl 2), List.append_nil]
      exact zone_K hf hc hd) hok).1
    rw [Int.toNat_natCast, hs] at this
    rw [ea]
    exact ⟨blk_far (blk_far h'.blk hgx.symm _) hgx.symm _, this⟩
  refine ⟨⟨g, 0, none⟩, cp, A, k, rfl, ?_, ?_, h1, h3, h2, ?_, ?_, hgo, hgx, hgl, ?_, ?_, put⟩
  · rw [ea]; exact hcc 0 _ rfl
  · rw [ea]; exact hcc 1 _ rfl
  · rw [ea]; exact hfr 0
  · rw [ea]; exact hfr 1
  · rw [ea]
    intro w1 A1 c1 bs okp hb hf hc hok
    have h' := h.below hb
    have := (Kd.N_seg h'.row (j : Int) (by omega) (by omega) (c := [.slice A p.1.length k, .int .i64 p.2]) (seg := [.slice A1 bs.length c1]) (j := 0) (by rw [hs]; rfl) (fun i u hu => by
        rw [Int.toNat_natCast, hs]
        exact (pw_cell_below hb (hcc i u hu))) (by rw [hs]; exact Nat.le_succ 1) (x' := (bs, p.2)) (okp := okp) (zone_K hf hc h3) hok).1
    rw [Int.toNat_natCast, hs] at this
    exact ⟨blk_far h'.blk hgx.symm _, this⟩
  · rw [ea]
    intro d hd
    have := (Kd.N_seg h.row (j : Int) (by omega) (by omega) (c := [.slice A p.1.length k, .int .i64 p.2]) (seg := [.int .i64 d]) (j := 1) (by rw [hs]; rfl) (fun i u hu => by
        rw [Int.toNat_natCast, hs]
        exact hcc i u hu) (by rw [hs]; exact Nat.le_refl 2) (x' := (p.1, d)) (okp := fun k => ok k ∧ k ≠ g) (zone_K h2 h1 hd) (fun k hk => hk)).1
    rw [Int.toNat_natCast, hs] at this
    exact ⟨blk_far h.blk hgx.symm _, this⟩
end Go.Proofs.Ytkmeipblgdahoaa.Dv

/- New, Lent of the document's device. -/
namespace Go.Proofs.Ytkmeipblgdahoaa.Dv
open Go.RowKit Go.Proofs.YtkmeipblgdahoaaW.PrintWords Go.Proofs.YtkmeipblgdahoaaW.PrintMore Go.Proofs.Ytkmeipblgdahoaa.Base Go.Proofs.Ytkmeipblgdahoaa.Shp
set_option maxRecDepth 100000
set_option linter.unusedVariables false
set_option linter.unusedSimpArgs false
theorem info_zone : (Try.prog.info? 77).map (fun i => (i.zero, i.size, i.bytes)) = some (some (.agg #[.slice none 0 0, .int .i64 0]), 2, 32) := by kernel_rfl
theorem zero_zone (w : World) (base : Nat) : zoneK.M w base (fun _ => False) ([], 0) (Value.agg #[.slice none 0 0, .int .i64 0]).cells.toList := by
  exact ⟨[.slice none 0 0], [.int .i64 0], rfl, ⟨_, rfl, Kd.R_nil _ _ _ _ _⟩, ⟨rfl, by decide⟩⟩
theorem lent_calls (A : Option Addr) (n cap : Nat) (xs : List UInt8) (hn : n ≤ 140737488355328) (w : World) (h : byte.C w A n xs) :
    Calls Try.prog 77 #[.slice A n cap] w fun e w' => ∃ v, e = .returned v ∧ Base.Own w' w.heap.size v xs ∧ Below w.heap.size w w' := by
  have H := Aside0.mk h
  clear h
  go_enter Try.func77, Try.ntmps77
  go_wp2_with (at_builtin; refine app_row (w0 := w) w.heap.size (.tmp 4) (.tmp 5) rfl rfl _ [] xs A n cap rfl rfl (Base.Own.nil _ _) H.out (Below.refl _ _) (Nat.le_refl _) (by simp; omega) ?_; intro v1 w1 hO hB _; have HO1 := Aside0.mk hO; have HB1 := Aside0.mk hB; clear hO hB)
  go_ret
  exact ⟨_, rfl, HO1.out, HB1.out⟩
theorem lentb_calls (A : Option Addr) (n cap : Nat) (xs : List UInt8) (hn : n ≤ 140737488355328) (w : World) (h : byte.C w A n xs) :
    Calls Try.prog 16 #[.slice A n cap] w fun e w' => ∃ v, e = .returned v ∧ Base.Own w' w.heap.size v xs ∧ Below w.heap.size w w' := by
  have H := Aside0.mk h
  clear h
  go_enter Try.func16, Try.ntmps16
  go_wp2_with (at_builtin; refine app_row (w0 := w) w.heap.size (.tmp 4) (.tmp 5) rfl rfl _ [] xs A n cap rfl rfl (Base.Own.nil _ _) H.out (Below.refl _ _) (Nat.le_refl _) (by simp; omega) ?_; intro v1 w1 hO hB _; have HO1 := Aside0.mk hO; have HB1 := Aside0.mk hB; clear hO hB)
  go_ret
  exact ⟨_, rfl, HO1.out, HB1.out⟩
end Go.Proofs.Ytkmeipblgdahoaa.Dv

/- Reset, At, Flush of the document's device. -/
namespace Go.Proofs.Ytkmeipblgdahoaa.Dv
open Go.RowKit Go.Proofs.YtkmeipblgdahoaaW.PrintWords Go.Proofs.YtkmeipblgdahoaaW.PrintMore Go.Proofs.Ytkmeipblgdahoaa.Base Go.Proofs.Ytkmeipblgdahoaa.Shp
set_option maxRecDepth 100000
set_option linter.unusedVariables false
set_option linter.unusedSimpArgs false
def RResR (zs : List Zn) (i : Int) (e : Ending) (zs' : List Zn) : Prop := (hasB zs.length i = false ∧ e = .returned (.int .i64 100) ∧ zs' = zs) ∨ (hasB zs.length i = true ∧ e = .returned (.int .i64 0) ∧ zs' = zs.set i.toNat ([], 0))
theorem F_nil (w : World) (ok : Nat → Prop) : Kd.F bytesK w ok none ([] : List (List UInt8)).length [] := fun W' _ => ⟨rfl, by simp, fun h => by simp at h⟩
set_option maxHeartbeats 1000000 in
theorem rreset_calls (rb base : Nat) (ok : Nat → Prop) (z zb b r : Int) (zs : List Zn) (v : Value) (i : Int) (hi : IsI i) (w : World) (h : RDv w rb base ok z zb b r zs v) :
    Calls Try.prog 60 #[.pointer (some ⟨rb, 0, none⟩), .int .i64 i] w fun e w' => ∃ zs', RResR zs i e zs' ∧ RDv w' rb base ok z zb b r zs' v ∧ Chg w w' ok := by
  have HD := Aside0.mk h
  obtain ⟨hi1, hi2⟩ := hi
  obtain ⟨-, -, -, -, k4⟩ := h.cells
  obtain ⟨A, m, cp, rfl, hm, hmc, hmm⟩ := h.form
  have HM := Aside0.mk hm
  clear h hm
  by_cases h0 : 0 ≤ i
  · by_cases h1 : i < (m : Int)
    · have HH := Aside0.mk (show hasB zs.length i = true from hasB_true h0 (by rw [← HM.out]; exact h1))
      obtain ⟨j, rfl⟩ : ∃ j : Nat, i = (j : Int) := ⟨i.toNat, by omega⟩
      obtain ⟨p, hp⟩ : ∃ p, zs.getD j ([], 0) = p := ⟨_, rfl⟩
      obtain ⟨ad, cp', B, k, hv, c0, c1, hk, hI, hF, f0, f1, hoa, hax, hal, -, -, hput⟩ := HD.out.zone (j := j) (by rw [← HM.out]; omega) hp
      obtain ⟨rfl, rfl⟩ : A = some ad ∧ cp = cp' := by simp only [Value.slice.injEq] at hv; exact ⟨hv.1, hv.2.2⟩
      have HPUT := Aside0.mk (hput w none 0 [] 0 (fun _ => False) (Below.refl _ _) ⟨by omega, by omega⟩ (F_nil _ _) (Nat.le_refl _) (fun _ h => h.elim))
      have hn1 : ad.add (j * 2) ≠ ⟨(ad.add (j * 2)).block, (ad.add (j * 2)).off + 1, none⟩ := fun e => by have := congrArg Addr.off e; simp at this
      have hn2 := hn1.symm
      have HO := Aside0.mk hoa
      have hd1 : decide ((j : Int) < 0) = false := decide_eq_false (by omega)
      have hd2 : decide ((m : Int) ≤ (j : Int)) = false := decide_eq_false (by omega)
      have hd3 : decide (m ≤ j) = false := decide_eq_false (by omega)
      clear hp hv hI hF hoa hax hal hput hk
      go_enter Try.func60, Try.ntmps60
      go_wp2
      go_ret
      have hab : (ad.add (j * 2)).block = ad.block := add_block _ _
      exact ⟨zs.set j ([], 0), .inr ⟨HH.out, rfl, by rw [Int.toNat_natCast]⟩, HPUT.out, ((Chg.refl _ _).set (.inl (by rw [hab]; exact HO.out)) _).set (.inl (by show ok (ad.add (j * 2)).block; rw [hab]; exact HO.out)) _⟩
    · have HH := Aside0.mk (show hasB zs.length i = false from hasB_false (fun h => h1 (by rw [HM.out]; exact h.2)))
      have hd1 : decide (i < 0) = false := decide_eq_false (by omega)
      have hd2 : decide ((m : Int) ≤ i) = true := decide_eq_true (by omega)
      go_enter Try.func60, Try.ntmps60
      go_wp2
      go_ret
      exact ⟨zs, .inl ⟨HH.out, rfl, rfl⟩, HD.out, Chg.refl _ _⟩
  · have HH := Aside0.mk (show hasB zs.length i = false from hasB_false (fun h => h0 h.1))
    have hd1 : decide (i < 0) = true := decide_eq_true (by omega)
    go_enter Try.func60, Try.ntmps60
    go_wp2
    go_ret
    exact ⟨zs, .inl ⟨HH.out, rfl, rfl⟩, HD.out, Chg.refl _ _⟩
def RAtR (zs : List Zn) (i : Int) (e : Ending) : Prop := (hasB zs.length i = false ∧ e = .returned (.tuple #[.int .i64 0, .int .i64 0])) ∨ (hasB zs.length i = true ∧ e = .returned (.tuple #[.int .i64 (((zs.getD i.toNat ([], 0)).1.length : Nat) : Int), .int .i64 (zs.getD i.toNat ([], 0)).2]))
set_option maxHeartbeats 1000000 in
theorem rat_calls (rb base : Nat) (ok : Nat → Prop) (z zb b r : Int) (zs : List Zn) (v : Value) (i : Int) (hi : IsI i) (w : World) (h : RDv w rb base ok z zb b r zs v) :
    Calls Try.prog 57 #[.pointer (some ⟨rb, 0, none⟩), .int .i64 i] w fun e w' => RAtR zs i e ∧ Below w.heap.size w w' := by
  have HD := Aside0.mk h
  obtain ⟨hi1, hi2⟩ := hi
  obtain ⟨-, -, -, -, k4⟩ := h.cells
  obtain ⟨A, m, cp, rfl, hm, hmc, hmm⟩ := h.form
  have HM := Aside0.mk hm
  clear h hm
  by_cases h0 : 0 ≤ i
  · by_cases h1 : i < (m : Int)
    · have HH := Aside0.mk (show hasB zs.length i = true from hasB_true h0 (by rw [← HM.out]; exact h1))
      obtain ⟨j, rfl⟩ : ∃ j : Nat, i = (j : Int) := ⟨i.toNat, by omega⟩
      obtain ⟨p, hp⟩ : ∃ p, zs.getD j ([], 0) = p := ⟨_, rfl⟩
      obtain ⟨ad, cp', B, k, hv, c0, c1, hk, hI, hF, -, -, -, -, -, -, -, -⟩ := HD.out.zone (j := j) (by rw [← HM.out]; omega) hp
      obtain ⟨rfl, rfl⟩ : A = some ad ∧ cp = cp' := by simp only [Value.slice.injEq] at hv; exact ⟨hv.1, hv.2.2⟩
      have hpm := (C_len (Kd.F_now hF)).2
      have HP := Aside0.mk hp
      have hd1 : decide ((j : Int) < 0) = false := decide_eq_false (by omega)
      have hd2 : decide ((m : Int) ≤ (j : Int)) = false := decide_eq_false (by omega)
      have hd3 : decide (m ≤ j) = false := decide_eq_false (by omega)
      clear hp hv hI hF hk
      go_enter Try.func57, Try.ntmps57
      go_wp2
      go_quiet (fail)
      have HB := Aside0.mk (pw_below_drewN (Below.refl w.heap.size w) nq)
      go_wp2
      go_ret2
      exact ⟨.inr ⟨HH.out, by rw [Int.toNat_natCast, HP.out]; rfl⟩, HB.out⟩
    · have HH := Aside0.mk (show hasB zs.length i = false from hasB_false (fun h => h1 (by rw [HM.out]; exact h.2)))
      have hd1 : decide (i < 0) = false := decide_eq_false (by omega)
      have hd2 : decide ((m : Int) ≤ i) = true := decide_eq_true (by omega)
      go_enter Try.func57, Try.ntmps57
      go_wp2
      go_ret2
      exact ⟨.inl ⟨HH.out, rfl⟩, Below.refl _ _⟩
  · have HH := Aside0.mk (show hasB zs.length i = false from hasB_false (fun h => h0 h.1))
    have hd1 : decide (i < 0) = true := decide_eq_true (by omega)
    go_enter Try.func57, Try.ntmps57
    go_wp2
    go_ret2
    exact ⟨.inl ⟨HH.out, rfl⟩, Below.refl _ _⟩
end Go.Proofs.Ytkmeipblgdahoaa.Dv

/- Flush, Read of the document's device. -/
namespace Go.Proofs.Ytkmeipblgdahoaa.Dv
open Go.RowKit Go.Proofs.YtkmeipblgdahoaaW.PrintWords Go.Proofs.YtkmeipblgdahoaaW.PrintMore Go.Proofs.Ytkmeipblgdahoaa.Base Go.Proofs.Ytkmeipblgdahoaa.Shp
set_option maxRecDepth 100000
set_option linter.unusedVariables false
set_option linter.unusedSimpArgs false
/-- The first i elements turned by F. -/
def zupto (F : Nat → Zn → Zn) (i : Nat) (ps : List Zn) : List Zn := (ps.take i).mapIdx F ++ ps.drop i
theorem zupto_len (F : Nat → Zn → Zn) (i : Nat) (ps : List Zn) : (zupto F i ps).length = ps.length := by
  unfold zupto; rw [List.length_append, List.length_mapIdx, List.length_take, List.length_drop]; omega
theorem zupto_zero (F : Nat → Zn → Zn) (ps : List Zn) : zupto F 0 ps = ps := rfl
theorem zupto_all (F : Nat → Zn → Zn) (ps : List Zn) : zupto F ps.length ps = ps.mapIdx F := by
  unfold zupto; rw [List.take_length, List.drop_length, List.append_nil]
theorem zupto_getD (F : Nat → Zn → Zn) {i : Nat} {ps : List Zn} (d : Zn) : (zupto F i ps).getD i d = ps.getD i d := by
  unfold zupto
  rcases Nat.lt_or_ge i ps.length with h | h
  · rw [List.getD_eq_getElem?_getD, List.getD_eq_getElem?_getD, List.getElem?_append_right (by rw [List.length_mapIdx, List.length_take]; omega), List.getElem?_drop]
    congr 2
    rw [List.length_mapIdx, List.length_take]; omega
  · rw [List.getD_eq_getElem?_getD, List.getD_eq_getElem?_getD, List.getElem?_eq_none (by have := zupto_len F i ps; unfold zupto at this; omega), List.getElem?_eq_none h]
theorem zupto_set (F : Nat → Zn → Zn) {i : Nat} {ps : List Zn} (h : i < ps.length) (d : Zn) : (zupto F i ps).set i (F i (ps.getD i d)) = zupto F (i + 1) ps := by
  unfold zupto
  have hl : ((ps.take i).mapIdx F).length = i := by rw [List.length_mapIdx, List.length_take]; omega
  rw [List.set_append_right _ _ (by omega), hl, Nat.sub_self, List.take_succ_eq_append_getElem h, List.mapIdx_append, List.append_assoc, List.drop_eq_getElem_cons h, List.set_cons_zero, List.length_take, show min i ps.length = i by omega, List.getD_eq_getElem?_getD, List.getElem?_eq_getElem h]
  simp
def rfluF (_ : Nat) (p : Zn) : Zn := (p.1, ((p.1.length : Nat) : Int))
set_option maxHeartbeats 4000000 in
theorem rflush_calls (rb base : Nat) (ok : Nat → Prop) (z zb b r : Int) (zs : List Zn) (v : Value) (w : World) (h : RDv w rb base ok z zb b r zs v) :
    Calls Try.prog 62 #[.pointer (some ⟨rb, 0, none⟩)] w fun e w' => e = .returned (.tuple #[]) ∧ RDv w' rb base ok z zb b r (zs.mapIdx rfluF) v ∧ Chg w w' ok := by
  have HD := Aside0.mk h
  obtain ⟨A, m, cp, rfl, hm, hmc, hmm⟩ := h.form
  have HM := Aside0.mk hm
  clear h hm
  go_enter Try.func62, Try.ntmps62
  go_wp2
  go_loopg [2] m (fun g v2 wr => ∃ i : Nat, v2 = .int .i64 (i : Int) ∧ i ≤ m ∧ Aside0 (g + i = m) ∧ Aside0 (RDv wr rb base ok z zb b r (zupto rfluF i zs) (.slice A m cp) ∧ Chg w wr ok))
  case atStart => exact ⟨0, rfl, by omega, ⟨rfl⟩, ⟨by rw [zupto_zero]; exact HD.out, Chg.refl _ _⟩⟩
  case round =>
    obtain ⟨i, rfl, hi, HK, HS⟩ := hrel
    obtain ⟨-, -, -, -, k4⟩ := HS.out.1.cells
    by_cases hlt : i < m
    · obtain ⟨p, hp⟩ : ∃ p, zs.getD i ([], 0) = p := ⟨_, rfl⟩
      obtain ⟨ad, cp', B, k, hv, c0, c1, hk, hI, hF, f0, f1, hoa, hax, hal, -, hdu, -⟩ := HS.out.1.zone (j := i) (by rw [zupto_len, ← HM.out]; exact hlt) ((zupto_getD _ _).trans hp)
      obtain ⟨rfl, rfl⟩ : A = some ad ∧ cp = cp' := by simp only [Value.slice.injEq] at hv; exact ⟨hv.1, hv.2.2⟩
      have hpm := (C_len (Kd.F_now hF)).2
      have hab : (ad.add (i * 2)).block = ad.block := add_block _ _
      have HDU := Aside0.mk (hdu ((p.1.length : Nat) : Int) ⟨by omega, by omega⟩)
      have HP := Aside0.mk hp
      have HAB := Aside0.mk hab
      have HO := Aside0.mk hoa
      have hlt' : (i : Int) < (m : Int) := by omega
      have hi0 : (0 : Int) ≤ (i : Int) := by omega
      clear hp hv hI hF hdu hab hoa hax hal hk f0
      go_wp2
      go_region
      all_goals
        clear k4 c0 c1 f1
        go_wp2
        go_roundg (gk - 1)
        case measure => have := HK.out; omega
        case rel =>
          refine ⟨i + 1, by congr 1, by omega, ⟨by have := HK.out; omega⟩, ⟨?_, (HS.out.2.set (.inl (by show ok (ad.add (i * 2)).block; rw [HAB.out]; exact HO.out)) _).below (below_drew (Below.refl _ _))⟩⟩
          have := HDU.out
          rw [show ((p.1, ((p.1.length : Nat) : Int)) : Zn) = rfluF i (zs.getD i ([], 0)) by rw [HP.out]; rfl, zupto_set _ (by rw [← HM.out]; exact hlt)] at this
          exact this.below (below_drew (Below.refl _ _))
    · obtain rfl : i = m := by omega
      go_wp2
      go_returns
      exact ⟨rfl, by rw [← zupto_all, ← HM.out]; exact HS.out.1, HS.out.2⟩
end Go.Proofs.Ytkmeipblgdahoaa.Dv

/- Read of the document's device. -/
namespace Go.Proofs.Ytkmeipblgdahoaa.Dv
open Go.RowKit Go.Proofs.YtkmeipblgdahoaaW.PrintWords Go.Proofs.YtkmeipblgdahoaaW.PrintMore Go.Proofs.Ytkmeipblgdahoaa.Base Go.Proofs.Ytkmeipblgdahoaa.Shp
set_option maxRecDepth 100000
set_option linter.unusedVariables false
set_option linter.unusedSimpArgs false
def RReadR (zs : List Zn) (zi bi : Int) (er : Int) (bs : List UInt8) : Prop :=
  (hasB zs.length zi = false ∧ er = 100 ∧ bs = []) ∨
  (hasB zs.length zi = true ∧ ¬ (0 ≤ bi ∧ bi < (((zs.getD zi.toNat ([], 0)).1.length : Nat) : Int)) ∧ er = 102 ∧ bs = []) ∨
  (hasB zs.length zi = true ∧ (0 ≤ bi ∧ bi < (((zs.getD zi.toNat ([], 0)).1.length : Nat) : Int)) ∧ er = 0 ∧ bs = (zs.getD zi.toNat ([], 0)).1.getD bi.toNat [])
def RReadP (w w' : World) (zs : List Zn) (zi bi : Int) (e : Ending) : Prop := ∃ u er bs, e = .returned (.tuple #[u, .int .i64 er]) ∧ RReadR zs zi bi er bs ∧ Base.Own w' w.heap.size u bs
set_option maxHeartbeats 4000000 in
theorem rread_calls (rb base : Nat) (ok : Nat → Prop) (z zb b r : Int) (zs : List Zn) (v : Value) (zi bi : Int) (hzi : IsI zi) (hbi : IsI bi) (w : World) (h : RDv w rb base ok z zb b r zs v) (hsz : ∀ p ∈ zs, ∀ x ∈ p.1, x.length ≤ 100000000) :
    Calls Try.prog 58 #[.pointer (some ⟨rb, 0, none⟩), .agg #[.int .i64 zi, .int .i64 bi]] w fun e w' => RReadP w w' zs zi bi e ∧ Below w.heap.size w w' := by
  have HA := Aside0.mk (alloc_below w (.cells #[.int .i64 zi, .int .i64 bi] 59))
  have HD := Aside0.mk (h.below HA.out)
  obtain ⟨A, m, cp, rfl, hm, hmc, hmm⟩ := h.form
  obtain ⟨hz1, hz2⟩ := hzi
  obtain ⟨hb1, hb2⟩ := hbi
  have HM := Aside0.mk hm
  have HSZ := Aside0.mk hsz
  obtain ⟨-, -, -, -, k4⟩ := HD.out.cells
  have d0 : (w.alloc (.cells #[.int .i64 zi, .int .i64 bi] 59)).cell? ⟨w.heap.size, 0, none⟩ = some (.int .i64 zi) := by go_simp
  have d1 : (w.alloc (.cells #[.int .i64 zi, .int .i64 bi] 59)).cell? ⟨w.heap.size, 1, none⟩ = some (.int .i64 bi) := by go_simp
  clear h hm hsz
  by_cases h0 : 0 ≤ zi
  · by_cases h1 : zi < (m : Int)
    · have HH := Aside0.mk (show hasB zs.length zi = true from hasB_true h0 (by rw [← HM.out]; exact h1))
      obtain ⟨j, rfl⟩ : ∃ j : Nat, zi = (j : Int) := ⟨zi.toNat, by omega⟩
      obtain ⟨p, hp⟩ : ∃ p, zs.getD j ([], 0) = p := ⟨_, rfl⟩
      obtain ⟨ad, cp', B, k, hv, c0, c1, hk, hI, hF, -, -, -, -, -, -, -, -⟩ := HD.out.zone (j := j) (by rw [← HM.out]; omega) hp
      obtain ⟨rfl, rfl⟩ : A = some ad ∧ cp = cp' := by simp only [Value.slice.injEq] at hv; exact ⟨hv.1, hv.2.2⟩
      have HF := Aside0.mk (Kd.F_now hF)
      have hpm := (C_len HF.out).2
      have HP := Aside0.mk hp
      have hd1 : decide ((j : Int) < 0) = false := decide_eq_false (by omega)
      have hd2 : decide ((m : Int) ≤ (j : Int)) = false := decide_eq_false (by omega)
      have hd3 : decide (m ≤ j) = false := decide_eq_false (by omega)
      clear hp hv hI hF hk c1
      by_cases hb0 : 0 ≤ bi
      · obtain ⟨q, rfl⟩ : ∃ q : Nat, bi = (q : Int) := ⟨bi.toNat, by omega⟩
        by_cases hbl : q < p.1.length
        · obtain ⟨pb, A0, k0, rfl, e0, hk0, hC0⟩ := bytes_at HF.out q hbl
          have HCB := Aside0.mk hC0
          have hxl : (p.1.getD q []).length ≤ 100000000 := HSZ.out p (by rw [← HP.out, List.getD_eq_getElem?_getD, List.getElem?_eq_getElem (show j < zs.length by rw [← HM.out]; omega)]; exact List.getElem_mem _) _ (by rw [List.getD_eq_getElem?_getD, List.getElem?_eq_getElem hbl]; exact List.getElem_mem _)
          obtain ⟨x, hx⟩ : ∃ x, p.1.getD q [] = x := ⟨_, rfl⟩
          rw [hx] at e0 hk0 HCB hxl
          have HXX := Aside0.mk hx
          have hd4 : decide ((q : Int) < 0) = false := decide_eq_false (by omega)
          have hd5 : decide ((p.1.length : Int) ≤ (q : Int)) = false := decide_eq_false (by omega)
          have hd6 : decide (p.1.length ≤ q) = false := decide_eq_false (by omega)
          clear hx hC0
          go_enter Try.func58, Try.ntmps58
          go_wp2
          obtain ⟨W, hW⟩ : ∃ W, w.alloc (.cells #[.int .i64 (j : Int), .int .i64 (q : Int)] 59) = W := ⟨_, rfl⟩
          obtain ⟨g, hg⟩ : ∃ g, w.heap.size = g := ⟨_, rfl⟩
          rw [hW] at HD HA HCB c0 k4 d0 d1 e0 ⊢
          rw [hg] at d0 d1 ⊢
          clear hW hg
          go_quiet (fail)
          have HA2 := Aside0.mk (pw_below_drewN HA.out nq)
          have HCB := Aside0.mk (Kd.C_below HCB.out (pw_below_drewN (Below.refl _ _) nq))
          have c0 := pw_cell_below (pw_below_drewN (Below.refl W.heap.size W) nq) c0
          have k4 := pw_cell_below (pw_below_drewN (Below.refl W.heap.size W) nq) k4
          have d0 := pw_cell_below (pw_below_drewN (Below.refl W.heap.size W) nq) d0
          have d1 := pw_cell_below (pw_below_drewN (Below.refl W.heap.size W) nq) d1
          have e0 := pw_cell_below (pw_below_drewN (Below.refl W.heap.size W) nq) e0
          generalize W.drewN nq = W2 at *
          go_wp2
          go_quiet (fail)
          have HA3 := Aside0.mk (pw_below_drewN HA2.out nq)
          have HCB := Aside0.mk (Kd.C_below HCB.out (pw_below_drewN (Below.refl _ _) nq))
          have c0 := pw_cell_below (pw_below_drewN (Below.refl W2.heap.size W2) nq) c0
          have k4 := pw_cell_below (pw_below_drewN (Below.refl W2.heap.size W2) nq) k4
          have d0 := pw_cell_below (pw_below_drewN (Below.refl W2.heap.size W2) nq) d0
          have d1 := pw_cell_below (pw_below_drewN (Below.refl W2.heap.size W2) nq) d1
          have e0 := pw_cell_below (pw_below_drewN (Below.refl W2.heap.size W2) nq) e0
          generalize W2.drewN nq = W3 at *
          go_wp2
          go_region_held3 (fun w' => w'.cell? ⟨rb, 4, none⟩ = some (.slice (some ad) m cp) ∧ w'.cell? ⟨g, 0, none⟩ = some (.int .i64 (j : Int)) ∧ w'.cell? ⟨g, 1, none⟩ = some (.int .i64 (q : Int)) ∧ w'.cell? (ad.add (j * 2)) = some (.slice (some pb) p.1.length k) ∧ w'.cell? (pb.add q) = some (.slice A0 x.length k0))
            (first | exact ⟨k4, d0, d1, c0, e0⟩ | exact ⟨pw_cell_below hw8 k4, pw_cell_below hw8 d0, pw_cell_below hw8 d1, pw_cell_below hw8 c0, pw_cell_below hw8 e0⟩)
            (first | (go_at_call 77; (with_reducible refine (lent_calls A0 x.length k0 x (by omega) _ (Kd.C_below HCB.out (below_drew (Below.refl _ _)))).mono ?_); rintro e w8 ⟨v8, rfl, hO8, hw8⟩))
          go_wp2
          go_ret2
          have hsz := HA3.out.size
          exact ⟨⟨v8, 0, x, rfl, .inr (.inr ⟨HH.out, by rw [Int.toNat_natCast, HP.out]; exact ⟨by omega, by omega⟩, rfl, by rw [Int.toNat_natCast, Int.toNat_natCast, HP.out, HXX.out]⟩), Kd.R_lower hO8 (show w.heap.size ≤ W3.drew.heap.size from hsz)⟩, HA3.out.trans ((below_drew (Below.refl _ _)).trans hw8 |>.mono hsz)⟩
        · have HBL := Aside0.mk hbl
          have hd4 : decide ((q : Int) < 0) = false := decide_eq_false (by omega)
          have hd5 : decide ((p.1.length : Int) ≤ (q : Int)) = true := decide_eq_true (by omega)
          have hd6 : decide (p.1.length ≤ q) = true := decide_eq_true (by omega)
          go_enter Try.func58, Try.ntmps58
          go_wp2
          obtain ⟨W, hW⟩ : ∃ W, w.alloc (.cells #[.int .i64 (j : Int), .int .i64 (q : Int)] 59) = W := ⟨_, rfl⟩
          obtain ⟨g, hg⟩ : ∃ g, w.heap.size = g := ⟨_, rfl⟩
          rw [hW] at HD HA c0 k4 d0 d1 ⊢
          rw [hg] at d0 d1 ⊢
          clear hW hg
          go_quiet (fail)
          have HA2 := Aside0.mk (pw_below_drewN HA.out nq)
          have c0 := pw_cell_below (pw_below_drewN (Below.refl W.heap.size W) nq) c0
          have k4 := pw_cell_below (pw_below_drewN (Below.refl W.heap.size W) nq) k4
          have d0 := pw_cell_below (pw_below_drewN (Below.refl W.heap.size W) nq) d0
          have d1 := pw_cell_below (pw_below_drewN (Below.refl W.heap.size W) nq) d1
          generalize W.drewN nq = W2 at *
          go_wp2
          go_quiet (fail)
          have HA3 := Aside0.mk (pw_below_drewN HA2.out nq)
          go_wp2
          go_ret2
          exact ⟨⟨_, 102, [], rfl, .inr (.inl ⟨HH.out, by rw [Int.toNat_natCast, HP.out]; have := HBL.out; omega, rfl, rfl⟩), Base.Own.nil _ _⟩, HA3.out⟩
      · have HB0 := Aside0.mk hb0
        have hd4 : decide (bi < 0) = true := decide_eq_true (by omega)
        go_enter Try.func58, Try.ntmps58
        go_wp2
        obtain ⟨W, hW⟩ : ∃ W, w.alloc (.cells #[.int .i64 (j : Int), .int .i64 bi] 59) = W := ⟨_, rfl⟩
        obtain ⟨g, hg⟩ : ∃ g, w.heap.size = g := ⟨_, rfl⟩
        rw [hW] at HD HA c0 k4 d0 d1 ⊢
        rw [hg] at d0 d1 ⊢
        clear hW hg
        go_quiet (fail)
        have HA2 := Aside0.mk (pw_below_drewN HA.out nq)
        have c0 := pw_cell_below (pw_below_drewN (Below.refl W.heap.size W) nq) c0
        have k4 := pw_cell_below (pw_below_drewN (Below.refl W.heap.size W) nq) k4
        have d0 := pw_cell_below (pw_below_drewN (Below.refl W.heap.size W) nq) d0
        have d1 := pw_cell_below (pw_below_drewN (Below.refl W.heap.size W) nq) d1
        generalize W.drewN nq = W2 at *
        go_wp2
        go_quiet (fail)
        have HA3 := Aside0.mk (pw_below_drewN HA2.out nq)
        go_wp2
        go_ret2
        exact ⟨⟨_, 102, [], rfl, .inr (.inl ⟨HH.out, fun h => by have := HB0.out; omega, rfl, rfl⟩), Base.Own.nil _ _⟩, HA3.out⟩
    · have HH := Aside0.mk (show hasB zs.length zi = false from hasB_false (fun h => h1 (by rw [HM.out]; exact h.2)))
      have hd1 : decide (zi < 0) = false := decide_eq_false (by omega)
      have hd2 : decide ((m : Int) ≤ zi) = true := decide_eq_true (by omega)
      go_enter Try.func58, Try.ntmps58
      go_wp2
      go_quiet (fail)
      have HA2 := Aside0.mk (pw_below_drewN HA.out nq)
      go_wp2
      go_ret2
      exact ⟨⟨_, 100, [], rfl, .inl ⟨HH.out, rfl, rfl⟩, Base.Own.nil _ _⟩, HA2.out⟩
  · have HH := Aside0.mk (show hasB zs.length zi = false from hasB_false (fun h => h0 h.1))
    have hd1 : decide (zi < 0) = true := decide_eq_true (by omega)
    go_enter Try.func58, Try.ntmps58
    go_wp2
    go_quiet (fail)
    have HA2 := Aside0.mk (pw_below_drewN HA.out nq)
    go_wp2
    go_ret2
    exact ⟨⟨_, 100, [], rfl, .inl ⟨HH.out, rfl, rfl⟩, Base.Own.nil _ _⟩, HA2.out⟩
end Go.Proofs.Ytkmeipblgdahoaa.Dv

/- Append of the document's device. -/
namespace Go.Proofs.Ytkmeipblgdahoaa.Dv
open Go.RowKit Go.Proofs.YtkmeipblgdahoaaW.PrintWords Go.Proofs.YtkmeipblgdahoaaW.PrintMore Go.Proofs.Ytkmeipblgdahoaa.Base Go.Proofs.Ytkmeipblgdahoaa.Shp
set_option maxRecDepth 100000
set_option linter.unusedVariables false
set_option linter.unusedSimpArgs false
section
variable {ops : Array Oper} {rest : List Oper} {o : Oper} {a : Act} {Q : Exit → Act → World → Prop}
/-- append(v, ys...): blocks. -/
theorem app_blks {W : World} (base : Nat) (E O : Nat → Prop) (s x : Operand) (hgd : o.guard = none) (ho : o.op = .call { callee := .builtin .append, args := #[s, x], argTypes := #[28, 28] })
    (v : Value) (xs ys : List (List UInt8)) (A : Option Addr) (m c : Nat) (hs : a.eval s = v) (hx : a.eval x = .slice A m c)
    (HO : Kd.N bytesK 39 W base E v xs) (HF : Kd.F bytesK W O A m ys) (hO : ∀ k, O k → some k ≠ v.ownBlock) (hbase : base ≤ W.heap.size) (hl : xs.length + m ≤ 100000)
    (h : ∀ v1 w1, Kd.N bytesK 39 w1 base (fun k => E k ∨ O k ∨ W.heap.size ≤ k) v1 (xs ++ ys) → W.grownBy w1 v.ownBlock → wpList Try.prog ops Q rest (a.put o.dst v1) w1) :
    wpList Try.prog ops Q (o :: rest) a W :=
  Kd.N_append_rows bytesK (w0 := W) base hgd s x 28 39 _ 24 ho Try.underlying28 info_bytes rfl (by decide) (by decide) v xs ys A m c (fun k => E k ∨ O k ∨ W.heap.size ≤ k) O hs hx
    (Kd.N_mono HO (fun k hk => .inl hk)) HF (fun k hk => ⟨.inr (.inl hk), hO k hk⟩) (fun k hk => .inr (.inr hk)) (Below.refl _ _) hbase (by omega) (fun v1 w1 h1 _ h3 _ => h v1 w1 h1 h3)
end
theorem RDv.far {w : World} {rb base : Nat} {ok : Nat → Prop} {z zb b r : Int} {zs : List Zn} {v : Value} (h : RDv w rb base ok z zb b r zs v) {p : Addr} (hx : rb ≠ p.block) (hok : ∀ k, ok k → k ≠ p.block) (u : Value) : RDv (w.setCell p u) rb base ok z zb b r zs v :=
  ⟨blk_far h.blk hx u, Kd.N_far h.row hok u⟩
def raddrV (z b : Int) (e : Int) : Ending := .returned (.tuple #[.agg #[.int .i64 z, .int .i64 b], .int .i64 e])
def RAppR (zb b : Int) (zs : List Zn) (i : Int) (xs : List UInt8) (e : Ending) (zs' : List Zn) : Prop :=
  ((hasB zs.length i = false ∨ (xs.length : Int) ≠ b) ∧ e = raddrV 0 0 100 ∧ zs' = zs) ∨
  (hasB zs.length i = true ∧ (xs.length : Int) = b ∧ zb ≤ (((zs.getD i.toNat ([], 0)).1.length : Nat) : Int) ∧ e = raddrV 0 0 101 ∧ zs' = zs) ∨
  (hasB zs.length i = true ∧ (xs.length : Int) = b ∧ (((zs.getD i.toNat ([], 0)).1.length : Nat) : Int) < zb ∧ e = raddrV i (((zs.getD i.toNat ([], 0)).1.length : Nat) : Int) 0 ∧ zs' = zs.set i.toNat ((zs.getD i.toNat ([], 0)).1 ++ [xs], (zs.getD i.toNat ([], 0)).2))
set_option maxHeartbeats 4000000 in
theorem rappend_calls (rb base : Nat) (ok : Nat → Prop) (z zb b r : Int) (zs : List Zn) (v : Value) (i : Int) (hi : IsI i) (X : Option Addr) (xn xc : Nat) (xs : List UInt8) (hxn : xn ≤ 100000000) (w : World) (h : RDv w rb base ok z zb b r zs v) (hok : ∀ k, w.heap.size ≤ k → ok k) (hC : byte.C w X xn xs) (hcnt : ∀ p ∈ zs, p.1.length ≤ 5000) :
    Calls Try.prog 61 #[.pointer (some ⟨rb, 0, none⟩), .int .i64 i, .slice X xn xc] w
      fun e w' => ∃ zs', RAppR zb b zs i xs e zs' ∧ RDv w' rb base ok z zb b r zs' v ∧ Chg w w' ok := by
  have HA := Aside0.mk (alloc_below w (.cells #[.int .i64 0, .int .i64 0] 59))
  have HOK := Aside0.mk hok
  have HD := Aside0.mk ((h.mono (ok' := fun k => ok k ∧ k ≠ w.heap.size) (fun k hk hlt => ⟨hk, by omega⟩)).below HA.out)
  have HDD := Aside0.mk (h.below HA.out)
  have HL := Aside0.mk (C_len hC).1
  have HC := Aside0.mk (Kd.C_below hC HA.out)
  have HRB := Aside0.mk (show rb ≠ w.heap.size by have := h.xlt; omega)
  obtain ⟨A, m, cp, rfl, hm, hmc, hmm⟩ := h.form
  have HM := Aside0.mk hm
  have HCN := Aside0.mk hcnt
  obtain ⟨hi1, hi2⟩ := hi
  obtain ⟨-, k1, k2, -, k4⟩ := HD.out.cells
  have HG0 := Aside0.mk (show (w.alloc (.cells #[.int .i64 0, .int .i64 0] 59)).heap[w.heap.size]? = some (.cells #[.int .i64 0, .int .i64 0] 59 (0, 0)) from blk_here rfl)
  clear h hm hcnt hC hok
  by_cases h0 : 0 ≤ i
  · have hd1 : decide (i < 0) = false := decide_eq_false (by omega)
    by_cases h1 : i < (m : Int)
    · have HH := Aside0.mk (show hasB zs.length i = true from hasB_true h0 (by rw [← HM.out]; exact h1))
      obtain ⟨j, rfl⟩ : ∃ j : Nat, i = (j : Int) := ⟨i.toNat, by omega⟩
      have hd2 : decide ((m : Int) ≤ (j : Int)) = false := decide_eq_false (by omega)
      have hd3 : decide (m ≤ j) = false := decide_eq_false (by omega)
      by_cases hxb : (xn : Int) = b
      · have hnb2 : ((xn : Int) != b) = false := by rw [bne_eq_false_iff_eq]; exact hxb
        have HXB := Aside0.mk hxb
        clear hxb
        obtain ⟨p, hp⟩ : ∃ p, zs.getD j ([], 0) = p := ⟨_, rfl⟩
        obtain ⟨ad, cp', B, k, hv, c0, -, hk, hI, hF, f0, -, hoa, hax, hal, hput, -, -⟩ := HD.out.zone (j := j) (by rw [← HM.out]; omega) hp
        obtain ⟨rfl, rfl⟩ : A = some ad ∧ cp = cp' := by simp only [Value.slice.injEq] at hv; exact ⟨hv.1, hv.2.2⟩
        have hpc : p.1.length ≤ 5000 := HCN.out p (by rw [← hp, List.getD_eq_getElem?_getD, List.getElem?_eq_getElem (show j < zs.length by rw [← HM.out]; omega)]; exact List.getElem_mem _)
        have HP := Aside0.mk hp
        have HF := Aside0.mk hF
        have HPUT := Aside0.mk hput
        have HO := Aside0.mk hoa
        have HAL := Aside0.mk hal
        have HAX := Aside0.mk hax
        clear hp hv hI hF hoa hax hal hput hk
        by_cases hfull : zb ≤ (p.1.length : Int)
        · have hd5 : decide (zb ≤ (p.1.length : Int)) = true := decide_eq_true hfull
          have HFL := Aside0.mk hfull
          clear hfull
          go_enter Try.func61, Try.ntmps61
          go_wp2
          go_returns
          exact ⟨zs, .inr (.inl ⟨HH.out, by rw [HL.out]; exact HXB.out, by rw [Int.toNat_natCast, HP.out]; exact HFL.out, rfl, rfl⟩), HDD.out, Chg.of_below HA.out _⟩
        · have hd5 : decide (zb ≤ (p.1.length : Int)) = false := decide_eq_false hfull
          have HFL := Aside0.mk hfull
          clear hfull
          obtain ⟨g, hg⟩ : ∃ g, w.heap.size = g := ⟨_, rfl⟩
          have HSZ := Aside0.mk (show g + 1 = (w.alloc (.cells #[.int .i64 0, .int .i64 0] 59)).heap.size by rw [← hg]; simp)
          have HG := Aside0.mk hg
          have hbase : base ≤ (w.alloc (.cells #[.int .i64 0, .int .i64 0] 59)).heap.size := Nat.le_trans (Kd.N_base HDD.out.row ad.block (by obtain ⟨g', cp', hg', _⟩ := Kd.N_form HDD.out.row (by rw [← HM.out]; omega); simp only [Value.slice.injEq, Option.some.injEq] at hg'; rw [hg'.1]; rfl)) (Nat.le_of_lt HAL.out)
          have HBASE := Aside0.mk hbase
          have C0 := Aside0.mk c0
          have F0 := Aside0.mk f0
          clear hbase
          rw [hg] at HG0 HOK HRB HF HPUT HO
          go_enter Try.func61, Try.ntmps61
          go_wp2_with (at_builtin; (refine app_blks (w.alloc (.cells #[.int .i64 0, .int .i64 0] 59)).heap.size (fun _ => False) (fun k => (ok k ∧ k ≠ g) ∧ k ≠ ad.block) (.tmp 49) (.tmp 57) rfl rfl (.slice none 0 0) [] p.1 B p.1.length k rfl rfl (Kd.N_nil _ _ _ _ _) HF.out (fun k _ e => by simp [Value.ownBlock] at e) (Nat.le_refl _) (by simp; omega) ?_; intro v1 w1 hN1 hg1); (rw [List.nil_append] at hN1; have HN1 := Aside0.mk hN1; have HB1 := Aside0.mk (below_of_grown hg1); have k4 := pw_cell_below HB1.out k4; have c0 := pw_cell_below HB1.out c0; have f0 := pw_frozen_below HB1.out (by rw [add_block]; exact HAL.out) f0; have HC := Aside0.mk (Kd.C_below HC.out HB1.out); clear hN1 hg1))
          refine (lent_calls X xn xc xs (by omega) _ HC.out).mono ?_
          rintro e w2 ⟨v2, rfl, hO2, hw2⟩
          obtain ⟨A2, n2, c2, rfl, -, hC2⟩ := hO2.reads
          obtain rfl : xn = n2 := by rw [← (C_len hC2).1, HL.out]
          have HN2 := Aside0.mk (Kd.N_below HN1.out hw2)
          have HO2 := Aside0.mk hO2
          have HB2 := Aside0.mk (below_go HB1.out hw2)
          have HS2 := Aside0.mk hw2.size
          have hga : ad.block ≠ g := HO.out.2
          have hn0 : ad.add (j * 2) ≠ ⟨g, 0, none⟩ := fun e => hga (by have := congrArg Addr.block e; simpa [add_block] using this)
          have hn1 : ad.add (j * 2) ≠ ⟨g, 1, none⟩ := fun e => hga (by have := congrArg Addr.block e; simpa [add_block] using this)
          have hn2 := hn0.symm
          have hn3 := hn1.symm
          have K40 := Aside0.mk (pw_cell_below hw2 k4)
          have hgs := HSZ.out
          have FL0 := Aside0.mk (show (ad.add (j * 2)).block < (w.alloc (.cells #[.int .i64 0, .int .i64 0] 59)).heap.size by rw [add_block]; exact HAL.out)
          have HK0 := HDD.out.cells.2.2.2.2
          have HKK := Aside0.mk HK0
          clear k4 c0 hw2 hO2 hC2 hga HK0
          go_wp2_with (at_builtin; (refine app_blk (w.alloc (.cells #[.int .i64 0, .int .i64 0] 59)).heap.size _ (fun k => some k = (Value.slice A2 xn c2).ownBlock) (.tmp 59) (.tmp 62) rfl rfl _ p.1 xs A2 xn c2 (own_FK HO2.out) (fun k hk e => (by have h1 := Kd.N_lt HN1.out k e.symm; have h2 := Kd.R_base HO2.out k hk.symm; omega)) rfl (by simp [Act.eval]) HN2.out HB2.out.size (by omega) ?_; intro v3 w3 hN3 hg3); (have HN3 := Aside0.mk hN3; have hB3 : Below (w.alloc (.cells #[.int .i64 0, .int .i64 0] 59)).heap.size (w.alloc (.cells #[.int .i64 0, .int .i64 0] 59)) w3 := HB2.out.grown hg3 HB2.out.size (fun k hk => Kd.N_base HN2.out k hk); have HB3 := Aside0.mk hB3; have k4 := pw_cell_below hB3 HKK.out; have c0 := pw_cell_below hB3 C0.out; have f0 := pw_frozen_below hB3 FL0.out F0.out; obtain ⟨q0, q1, q2, q3⟩ := res_cells ((hB3.block g (by omega)).trans HG0.out); obtain ⟨A3, n3, c3, rfl, hc3, hC3⟩ := N_open hN3; clear hN3 hg3 hB3 hC3))
          refine bodyPost_ret (by simp [results, Try.results61, go_sem, *]; rfl) rfl ?_
          obtain ⟨hn3, -, -⟩ := Kd.N_reads' HN3.out
          subst hn3
          have hab : (ad.add (j * 2)).block = ad.block := add_block _ _
          have hR3 := HPUT.out w3 A3 c3 (p.1 ++ [xs]) _ HB3.out (Kd.N_F HN3.out) hc3 (fun k hk => by
            have hal := HAL.out
            have hgs := HSZ.out
            have fresh : ∀ k, (w.alloc (.cells #[.int .i64 0, .int .i64 0] 59)).heap.size ≤ k → (ok k ∧ k ≠ g) ∧ k ≠ ad.block := fun k hk => ⟨⟨HOK.out k (by have := HG.out; omega), by omega⟩, by omega⟩
            rcases hk with (hk | hk | hk) | hk | hk
            · exact hk.elim
            · exact hk
            · exact fresh k hk
            · exact fresh k (Nat.le_trans HB1.out.size (Kd.R_base HO2.out k hk.symm))
            · exact fresh k (Nat.le_trans HB2.out.size hk))
          have hfar : ∀ (o : Nat) k, ok k ∧ k ≠ g → k ≠ (⟨g, o, none⟩ : Addr).block := fun _ _ h => h.2
          refine ⟨zs.set j (p.1 ++ [xs], p.2), .inr (.inr ⟨HH.out, by rw [HL.out]; exact HXB.out, by rw [Int.toNat_natCast, HP.out]; have := HFL.out; omega, by rw [Int.toNat_natCast, HP.out]; rfl, by rw [Int.toNat_natCast, HP.out]⟩), ?_, ?_⟩
          · have h4 := ((hR3.far (p := ⟨g, 0, none⟩) HRB.out (hfar 0) (.int .i64 (j : Int))).far (p := ⟨g, 1, none⟩) HRB.out (hfar 1) (.int .i64 ((p.1.length : Nat) : Int))).mono (ok' := ok) (fun k hk _ => hk.1)
            exact h4
          · have hc3 : Chg w w3 ok := (Chg.of_below HA.out ok).trans (Chg.of_below HB3.out (fun _ => False)) (fun _ h => h.elim)
            exact ((hc3.set (.inl (by rw [hab]; exact HO.out.1)) _).set (.inr (Nat.le_of_eq HG.out)) _).set (.inr (Nat.le_of_eq HG.out)) _
      · have hnb2 : ((xn : Int) != b) = true := by rw [bne_iff_ne]; exact hxb
        have HXB := Aside0.mk hxb
        clear hxb
        go_enter Try.func61, Try.ntmps61
        go_wp2
        go_returns
        exact ⟨zs, .inl ⟨.inr (by rw [HL.out]; exact HXB.out), rfl, rfl⟩, HDD.out, Chg.of_below HA.out _⟩
    · have HH := Aside0.mk (show hasB zs.length i = false from hasB_false (fun h => h1 (by rw [HM.out]; exact h.2)))
      have hd2 : decide ((m : Int) ≤ i) = true := decide_eq_true (by omega)
      go_enter Try.func61, Try.ntmps61
      go_wp2
      go_returns
      exact ⟨zs, .inl ⟨.inl HH.out, rfl, rfl⟩, HDD.out, Chg.of_below HA.out _⟩
  · have HH := Aside0.mk (show hasB zs.length i = false from hasB_false (fun h => h0 h.1))
    have hd1 : decide (i < 0) = true := decide_eq_true (by omega)
    go_enter Try.func61, Try.ntmps61
    go_wp2
    go_returns
    exact ⟨zs, .inl ⟨.inl HH.out, rfl, rfl⟩, HDD.out, Chg.of_below HA.out _⟩
end Go.Proofs.Ytkmeipblgdahoaa.Dv

/- Crash of the document's device. -/
namespace Go.Proofs.Ytkmeipblgdahoaa.Dv
open Go.RowKit Go.Proofs.YtkmeipblgdahoaaW.PrintWords Go.Proofs.YtkmeipblgdahoaaW.PrintMore Go.Proofs.Ytkmeipblgdahoaa.Base Go.Proofs.Ytkmeipblgdahoaa.Shp
set_option maxRecDepth 100000
set_option linter.unusedVariables false
set_option linter.unusedSimpArgs false
attribute [local go_sem] max2_mx min2_mn max_two min_two
/-- What stays of block k. -/
def rstep (b : Nat) (du keep torn : Int) (k : Nat) (x : List UInt8) : List (List UInt8) :=
  if (k : Int) - du < 0 ∨ (k : Int) - du < keep then [x] else if (k : Int) - du = mx keep 0 ∧ 0 < torn then [front b (mn (b : Int) torn).toNat x] else []
/-- What stays of the first k blocks. -/
def rstay (b : Nat) (du keep torn : Int) : Nat → List (List UInt8) → List (List UInt8)
  | 0, _ => []
  | k + 1, xs => rstay b du keep torn k xs ++ rstep b du keep torn k (xs.getD k [])
theorem rstep_len (b : Nat) (du keep torn : Int) (k : Nat) (x : List UInt8) : (rstep b du keep torn k x).length ≤ 1 := by
  unfold rstep
  split
  · exact Nat.le_refl 1
  · split
    · exact Nat.le_refl 1
    · exact Nat.zero_le 1
theorem loss_new (w : World) (k t : Int) : (w.alloc (.cells #[.int .i64 k, .int .i64 t] 112)).cell? ⟨w.heap.size, 0, none⟩ = some (.int .i64 k) ∧ (w.alloc (.cells #[.int .i64 k, .int .i64 t] 112)).cell? ⟨w.heap.size, 1, none⟩ = some (.int .i64 t) := ⟨by go_simp, by go_simp⟩
theorem rstay_len (b : Nat) (du keep torn : Int) (k : Nat) (xs : List (List UInt8)) : (rstay b du keep torn k xs).length ≤ k := by
  induction k with
  | zero => simp [rstay]
  | succ k ih => rw [rstay, List.length_append]; have := rstep_len b du keep torn k (xs.getD k []); omega
def rcrashF (b : Nat) (ls : List (Int × Int)) (i : Nat) (p : Zn) : Zn :=
  (rstay b p.2 (ls.getD i (0, 0)).1 (ls.getD i (0, 0)).2 p.1.length p.1, (((rstay b p.2 (ls.getD i (0, 0)).1 (ls.getD i (0, 0)).2 p.1.length p.1).length : Nat) : Int))
/-- Zones' blocks are of b bytes, not too many; durable ones are there. -/
def RFit (b : Nat) (zs : List Zn) : Prop := ∀ p ∈ zs, 0 ≤ p.2 ∧ p.2 ≤ ((p.1.length : Nat) : Int) ∧ p.1.length ≤ 5000 ∧ ∀ x ∈ p.1, x.length = b
theorem RFit.get {b : Nat} {zs : List Zn} (h : RFit b zs) {i : Nat} (hi : i < zs.length) {p : Zn} (hp : zs.getD i ([], 0) = p) : 0 ≤ p.2 ∧ p.2 ≤ ((p.1.length : Nat) : Int) ∧ p.1.length ≤ 5000 ∧ ∀ x ∈ p.1, x.length = b :=
  h p (by rw [← hp, List.getD_eq_getElem?_getD, List.getElem?_eq_getElem hi]; exact List.getElem_mem _)
theorem blk_of {w : World} {ok : Nat → Prop} {B : Option Addr} {n : Nat} {xs : List (List UInt8)} (h : Kd.F bytesK w ok B n xs) {i : Nat} (hi : i < n) {x : List UInt8} (hx : xs.getD i [] = x) :
    ∃ pb A0 k0, B = some pb ∧ w.cell? (pb.add i) = some (.slice A0 x.length k0) ∧ x.length ≤ k0 ∧ byte.C w A0 x.length x ∧ Kd.FK bytesK w ok x [.slice A0 x.length k0] := by
  obtain ⟨pb, c, rfl, hl, hF, hcc, -⟩ := Kd.F_get h [] (i : Int) (by omega) (by omega)
  rw [Int.toNat_natCast, hx] at hF
  rw [Int.toNat_natCast] at hcc
  obtain ⟨A0, k0, rfl, hk, hB⟩ := Kd.FK_slice_open hF
  refine ⟨pb, A0, k0, rfl, ?_, hk, Kd.F_now hB, hF⟩
  have := hcc 0 _ rfl
  rwa [show i * bytesK.sz + 0 = i from by show i * 1 + 0 = i; omega] at this
/-- What stays, so far, as a row. -/
structure StM (wc wq : World) (ok0 : Nat → Prop) (v : Value) (xs : List (List UInt8)) (S : Nat → Prop) : Prop where
  row : Kd.N bytesK 39 wq wc.heap.size S v xs
  foot : ∀ j, S j → (ok0 j ∧ j < wc.heap.size) ∨ (wc.heap.size ≤ j ∧ j < wq.heap.size)
  bel : Below wc.heap.size wc wq
theorem StM.below {wc wq w1 : World} {ok0 : Nat → Prop} {v : Value} {xs : List (List UInt8)} {S : Nat → Prop} (h : StM wc wq ok0 v xs S) (hb : Below wq.heap.size wq w1) : StM wc w1 ok0 v xs S :=
  ⟨Kd.N_below h.row hb, fun j hj => (h.foot j hj).imp id (fun h2 => ⟨h2.1, Nat.lt_of_lt_of_le h2.2 hb.size⟩), h.bel.trans (hb.mono h.bel.size)⟩
theorem StM.add {wc wq w1 : World} {ok0 : Nat → Prop} {v v1 : Value} {xs ys : List (List UInt8)} {S O : Nat → Prop} (h : StM wc wq ok0 v xs S) (hN : Kd.N bytesK 39 w1 wc.heap.size (fun k => S k ∨ O k ∨ wq.heap.size ≤ k) v1 ys) (hg : wq.grownBy w1 v.ownBlock)
    (hO : ∀ j, O j → (ok0 j ∧ j < wc.heap.size) ∨ (wc.heap.size ≤ j ∧ j < wq.heap.size)) : StM wc w1 ok0 v1 ys (fun k => (S k ∨ O k ∨ wq.heap.size ≤ k) ∧ k < w1.heap.size) := by
  refine ⟨Kd.N_bound hN, fun j hj => ?_, h.bel.grown hg h.bel.size (fun k hk => Kd.N_base h.row k hk)⟩
  have hsz := hg.size
  have hsz2 := h.bel.size
  rcases hj.1 with h1 | h1 | h1
  · exact (h.foot j h1).imp id (fun h2 => ⟨h2.1, hj.2⟩)
  · exact (hO j h1).imp id (fun h2 => ⟨h2.1, hj.2⟩)
  · exact .inr ⟨by omega, hj.2⟩
end Go.Proofs.Ytkmeipblgdahoaa.Dv

/- The document's zones and the device's parts: one is the other, laid flat. Plain lists. -/
namespace Go.Proofs.Ytkmeipblgdahoaa.Dv
open Go.Proofs.YtkmeipblgdahoaaW.PrintWords Go.Proofs.YtkmeipblgdahoaaW.PrintMore Go.Proofs.Ytkmeipblgdahoaa.Base Go.Proofs.Ytkmeipblgdahoaa.Shp
set_option maxRecDepth 100000
set_option linter.unusedVariables false
def flat (z : Zn) : Prt := (z.1.flatten, z.2)
/-- How zones are. -/
def ZInv (b zb : Nat) (zs : List Zn) : Prop := ∀ p ∈ zs, (0 ≤ p.2 ∧ p.2 ≤ ((p.1.length : Nat) : Int)) ∧ p.1.length ≤ zb ∧ ∀ x ∈ p.1, x.length = b
theorem flat_len {b : Nat} : ∀ {xs : List (List UInt8)}, (∀ x ∈ xs, x.length = b) → xs.flatten.length = xs.length * b
  | [], _ => by simp
  | x :: xs, h => by
    rw [List.flatten_cons, List.length_append, flat_len (fun y hy => h y (List.mem_cons_of_mem _ hy)), h x (List.mem_cons_self ..), List.length_cons, Nat.succ_mul, Nat.add_comm]
theorem flat_take {b : Nat} : ∀ {xs : List (List UInt8)} (k : Nat), (∀ x ∈ xs, x.length = b) → xs.flatten.take (k * b) = (xs.take k).flatten
  | [], k, _ => by simp
  | x :: xs, 0, h => by simp
  | x :: xs, k + 1, h => by
    have hx := h x (List.mem_cons_self ..)
    rw [List.flatten_cons, List.take_succ_cons, List.flatten_cons, List.take_append, hx, Nat.succ_mul, Nat.add_sub_cancel, flat_take k (fun y hy => h y (List.mem_cons_of_mem _ hy)), List.take_of_length_le (by omega)]
theorem flat_drop {b : Nat} : ∀ {xs : List (List UInt8)} (k : Nat), (∀ x ∈ xs, x.length = b) → xs.flatten.drop (k * b) = (xs.drop k).flatten
  | [], k, _ => by simp
  | x :: xs, 0, h => by simp
  | x :: xs, k + 1, h => by
    have hx := h x (List.mem_cons_self ..)
    rw [List.flatten_cons, List.drop_succ_cons, List.drop_append, hx, Nat.succ_mul, Nat.add_sub_cancel, flat_drop k (fun y hy => h y (List.mem_cons_of_mem _ hy)), List.drop_of_length_le (by omega), List.nil_append]
theorem flat_get {b : Nat} {xs : List (List UInt8)} {k : Nat} (hk : k < xs.length) (h : ∀ x ∈ xs, x.length = b) : (xs.flatten.drop (k * b)).take b = xs.getD k [] := by
  rw [flat_drop k h, List.drop_eq_getElem_cons hk, List.flatten_cons, List.take_append_of_le_length (by rw [h _ (List.getElem_mem hk)]; exact Nat.le_refl _), List.take_of_length_le (by rw [h _ (List.getElem_mem hk)]; exact Nat.le_refl _), List.getD_eq_getElem?_getD, List.getElem?_eq_getElem hk]
  rfl
section
variable {b zb : Nat} {zs : List Zn}
theorem map_getD (zs : List Zn) (i : Nat) : (zs.map flat).getD i ([], 0) = flat (zs.getD i ([], 0)) := by
  rw [List.getD_eq_getElem?_getD, List.getD_eq_getElem?_getD, List.getElem?_map]
  cases zs[i]? <;> rfl
theorem ZInv.get (h : ZInv b zb zs) {i : Nat} (hi : i < zs.length) : (0 ≤ (zs.getD i ([], 0)).2 ∧ (zs.getD i ([], 0)).2 ≤ (((zs.getD i ([], 0)).1.length : Nat) : Int)) ∧ (zs.getD i ([], 0)).1.length ≤ zb ∧ ∀ x ∈ (zs.getD i ([], 0)).1, x.length = b := by
  rw [List.getD_eq_getElem?_getD, List.getElem?_eq_getElem hi]; exact h _ (List.getElem_mem _)
theorem ZInv.set (h : ZInv b zb zs) (i : Nat) {p : Zn} (hp : (0 ≤ p.2 ∧ p.2 ≤ ((p.1.length : Nat) : Int)) ∧ p.1.length ≤ zb ∧ ∀ x ∈ p.1, x.length = b) : ZInv b zb (zs.set i p) := by
  intro q hq
  rcases List.mem_or_eq_of_mem_set hq with hq | rfl
  · exact h q hq
  · exact hp
theorem flat_count (hb : 0 < b) {p : Zn} (h : ∀ x ∈ p.1, x.length = b) : (flat p).1.length / b = p.1.length := by
  show p.1.flatten.length / b = _
  rw [flat_len h, Nat.mul_div_cancel _ hb]
theorem flat_countI (hb : 0 < b) {p : Zn} (h : ∀ x ∈ p.1, x.length = b) : ((flat p).1.length : Int) / (b : Int) = ((p.1.length : Nat) : Int) := by
  rw [← flat_count hb h]; exact (Int.natCast_ediv _ _).symm
theorem ZInv.fit (hb : 0 < b) (hb2 : b ≤ 4096) (hz : zb ≤ 4096) (h : ZInv b zb zs) : Fit b (zs.map flat) := by
  intro p hp
  obtain ⟨q, hq, rfl⟩ := List.mem_map.1 hp
  obtain ⟨⟨h1, h2⟩, h3, h4⟩ := h q hq
  refine ⟨h1, ?_, ?_⟩
  · rw [flat_count hb h4]; exact h2
  · show q.1.flatten.length ≤ _
    rw [flat_len h4]
    have : q.1.length * b ≤ 4096 * 4096 := Nat.mul_le_mul (by omega) hb2
    omega
theorem ZInv.rfit (hz : zb ≤ 4096) (h : ZInv b zb zs) : RFit b zs := fun p hp => by
  obtain ⟨⟨h1, h2⟩, h3, h4⟩ := h p hp
  exact ⟨h1, h2, by omega, h4⟩
theorem flat_app (i : Nat) (p : Zn) (xs : List UInt8) : (zs.set i (p.1 ++ [xs], p.2)).map flat = (zs.map flat).set i ((flat p).1 ++ xs, (flat p).2) := by
  rw [List.map_set]
  congr 1
  unfold flat
  simp
theorem flat_reset (i : Nat) : (zs.set i ([], 0)).map flat = (zs.map flat).set i ([], 0) := by
  rw [List.map_set]; rfl
theorem flat_flush (hb : 0 < b) (h : ZInv b zb zs) : (zs.mapIdx rfluF).map flat = (zs.map flat).mapIdx (fluF (b : Int)) := by
  apply List.ext_getElem?
  intro i
  rw [List.getElem?_map, List.getElem?_mapIdx, List.getElem?_mapIdx, List.getElem?_map]
  cases he : zs[i]? with
  | none => rfl
  | some p =>
    have hp := (h p (List.mem_of_getElem? he)).2.2
    show some (flat (rfluF i p)) = some (fluF b i (flat p))
    congr 1
    unfold rfluF fluF
    rw [flat_countI hb hp]
    rfl
theorem inv_flush (h : ZInv b zb zs) : ZInv b zb (zs.mapIdx rfluF) := by
  intro p hp
  obtain ⟨i, hi, rfl⟩ := List.mem_mapIdx.1 hp
  obtain ⟨_, h3, h4⟩ := h _ (List.getElem_mem hi)
  exact ⟨⟨by simp [rfluF], by simp [rfluF]⟩, h3, h4⟩
/-- What stays: whole blocks, then a torn one. -/
theorem rstay_eq {b : Nat} {du keep torn : Int} (hd : 0 ≤ du) (xs : List (List UInt8)) : ∀ k, k ≤ xs.length →
    rstay b du keep torn k xs = xs.take (min (du + mx keep 0).toNat k) ++ if (du + mx keep 0).toNat < k ∧ 0 < torn then [front b (mn (b : Int) torn).toNat (xs.getD (du + mx keep 0).toNat [])] else []
  | 0, _ => by simp [rstay]
  | k + 1, hk => by
    have hm : 0 ≤ mx keep 0 := by unfold mx; split <;> omega
    obtain ⟨K, hK⟩ : ∃ K : Nat, du + mx keep 0 = (K : Int) := ⟨(du + mx keep 0).toNat, by omega⟩
    have ih := rstay_eq hd xs k (by omega) (torn := torn) (b := b) (keep := keep)
    rw [rstay, ih, rstep, hK, Int.toNat_natCast]
    have hc : ((k : Int) - du < 0 ∨ (k : Int) - du < keep) ↔ k < K := by
      unfold mx at hK
      split at hK <;> omega
    by_cases h1 : k < K
    · rw [if_pos (hc.2 h1), if_neg (by omega), if_neg (by omega), show min K k = k by omega, show min K (k + 1) = k + 1 by omega, List.append_nil, List.append_nil, List.take_succ_eq_append_getElem (by omega), List.getD_eq_getElem?_getD, List.getElem?_eq_getElem (by omega)]
      rfl
    · rw [if_neg (fun h => h1 (hc.1 h)), show min K (k + 1) = K by omega, show min K k = K by omega, List.append_assoc]
      congr 1
      by_cases h2 : k = K
      · subst h2
        rw [if_neg (by omega), List.nil_append]
        by_cases ht : 0 < torn
        · rw [if_pos ⟨by omega, ht⟩, if_pos ⟨by omega, ht⟩]
        · rw [if_neg (fun h => ht h.2), if_neg (fun h => ht h.2)]
      · rw [if_neg (show ¬ ((k : Int) - du = mx keep 0 ∧ 0 < torn) by omega), List.append_nil]
        by_cases ht : 0 < torn
        · rw [if_pos ⟨by omega, ht⟩, if_pos ⟨by omega, ht⟩]
        · rw [if_neg (fun h => ht h.2), if_neg (fun h => ht h.2)]
theorem stay_min {q du keep : Int} (h0 : 0 ≤ du) (h1 : du ≤ q) : stayF q du keep = mn (du + mx keep 0) q := by
  unfold stayF mn
  split <;> split <;> omega
theorem mn_comm (a c : Int) : mn a c = mn c a := by unfold mn; split <;> split <;> omega
theorem front_far {b m : Nat} {x rest : List UInt8} (h : m ≤ x.length) : front b m (x ++ rest) = front b m x := by
  unfold front; rw [List.take_append_of_le_length h]
theorem mn_le {b : Nat} (t : Int) : (mn (b : Int) t).toNat ≤ b := by unfold mn; split <;> omega
/-- A crash of a part is that of the zone. -/
theorem lost_flat (hb : 0 < b) {xs : List (List UInt8)} (hx : ∀ x ∈ xs, x.length = b) {du keep torn : Int} (h0 : 0 ≤ du) (h1 : du ≤ ((xs.length : Nat) : Int)) : lostB b xs.flatten du keep torn = (rstay b du keep torn xs.length xs).flatten := by
  have hl : xs.flatten.length / b = xs.length := by rw [flat_len hx, Nat.mul_div_cancel _ hb]
  have hm : 0 ≤ mx keep 0 := by unfold mx; split <;> omega
  obtain ⟨K, hK⟩ : ∃ K : Nat, du + mx keep 0 = (K : Int) := ⟨(du + mx keep 0).toNat, by omega⟩
  rw [rstay_eq h0 xs _ (Nat.le_refl _), hK, Int.toNat_natCast, lostB, hl, stay_min h0 h1, hK]
  have hmin : mn (K : Int) ((xs.length : Nat) : Int) = ((min K xs.length : Nat) : Int) := by unfold mn; split <;> omega
  rw [hmin, Int.toNat_natCast, flat_take _ hx, List.flatten_append]
  congr 1
  by_cases hc : K < xs.length ∧ 0 < torn
  · rw [if_pos hc, if_pos ⟨hc.2, by omega⟩, show min K xs.length = K by omega, flat_drop _ hx, List.drop_eq_getElem_cons hc.1, List.flatten_cons, mn_comm, front_far (by rw [hx _ (List.getElem_mem hc.1)]; exact mn_le torn), List.getD_eq_getElem?_getD, List.getElem?_eq_getElem hc.1]
    simp
  · rw [if_neg hc, if_neg (by omega)]
    rfl
theorem rstay_blocks {xs : List (List UInt8)} (hx : ∀ x ∈ xs, x.length = b) {du keep torn : Int} (h0 : 0 ≤ du) : ∀ x ∈ rstay b du keep torn xs.length xs, x.length = b := by
  intro x hxm
  rw [rstay_eq h0 xs _ (Nat.le_refl _)] at hxm
  rcases List.mem_append.1 hxm with h | h
  · exact hx x (List.mem_of_mem_take h)
  · split at h
    · rename_i hc
      rw [List.mem_singleton.1 h]
      refine front_len (mn_le torn) ?_
      have hq : (xs.getD (du + mx keep 0).toNat []).length = b := by
        rw [List.getD_eq_getElem?_getD, List.getElem?_eq_getElem hc.1]
        exact hx _ (List.getElem_mem hc.1)
      rw [hq]
      exact mn_le torn
    · simp at h
theorem inv_crash {ls : List (Int × Int)} (h : ZInv b zb zs) : ZInv b zb (zs.mapIdx (rcrashF b ls)) := by
  intro p hp
  obtain ⟨i, hi, rfl⟩ := List.mem_mapIdx.1 hp
  obtain ⟨⟨h1, h2⟩, h3, h4⟩ := h _ (List.getElem_mem hi)
  unfold rcrashF
  exact ⟨⟨by simp, by simp⟩, Nat.le_trans (rstay_len _ _ _ _ _ _) h3, rstay_blocks h4 h1⟩
theorem flat_crash (hb : 0 < b) {ls : List (Int × Int)} (h : ZInv b zb zs) : (zs.mapIdx (rcrashF b ls)).map flat = (zs.map flat).mapIdx (crashF b ls) := by
  apply List.ext_getElem?
  intro i
  rw [List.getElem?_map, List.getElem?_mapIdx, List.getElem?_mapIdx, List.getElem?_map]
  cases he : zs[i]? with
  | none => rfl
  | some p =>
    obtain ⟨⟨h1, h2⟩, h3, h4⟩ := h p (List.mem_of_getElem? he)
    show some (flat (rcrashF b ls i p)) = some (crashF b ls i (flat p))
    congr 1
    unfold crashF rcrashF flat
    dsimp only
    rw [lost_flat hb h4 h1 h2, flat_len (rstay_blocks h4 h1), Nat.mul_div_cancel _ hb]
end
end Go.Proofs.Ytkmeipblgdahoaa.Dv

/- A region within a round of a range over a function, walked as any region; marks among the deferred calls. No function of the program in sight. -/
namespace Go.Proofs.Ytkmeipblgdahoaa.Brg
open Go.RowKit
set_option maxRecDepth 100000
set_option linter.unusedVariables false
variable {P : Program} {Q : Exit → Act → World → Prop} {ops : Array Oper}
theorem rows_in {l n : Nat} {row : String} {args : Array Value} {w : World} {R : Value → World → Prop} (h : Rows P row args w R) : RowsIn (Fence.wide.inRound l) n P row args w R := fun c cs _ => by
  obtain ⟨v, w', r, s⟩ := h c cs
  exact ⟨v, w', r, stepsIn_wide.2 s⟩
theorem upon_in {l n : Nat} {o : Oper} {a : Act} {K : Act → World → Prop} {r : Result Next} (h : o.upon P a K Q r) : o.uponIn (Fence.wide.inRound l) n P a K Q r := by
  cases r with
  | ok x w' =>
    cases x with
    | value v => exact h
    | skip => exact h
    | defer d => exact h
    | enter f args => exact ⟨fun hd => by simp [Fence.wide] at hd, CallsIn.inRound l (callsIn_wide.2 h)⟩
    | row row args => exact ⟨fun hd => by simp [Fence.wide] at hd, rows_in h⟩
    | _ => exact (h : False).elim
  | halt x w' =>
    cases x with
    | panic v => exact h
    | _ => exact (h : False).elim
theorem op_in {l n i : Nat} (hnd : ∀ o ∈ ops.toList, ∀ c, o.op ≠ .defer c) (hQ : ¬ LetsOut Q) {K K' : Act → World → Prop} (hK : ∀ a w, K a w → K' a w) {a : Act} {w : World} (h : wpOp P ops Q i K a w) : wpOpIn (Fence.wide.inRound l) n P ops Q i K' a w := by
  unfold wpOp at h
  unfold wpOpIn
  cases ho : ops[i]? with
  | none => rw [ho] at h; exact hK _ _ h
  | some o =>
    rw [ho] at h
    have hm : o ∈ ops.toList := by
      obtain ⟨hlt, he⟩ := Array.getElem?_eq_some_iff.1 ho
      rw [← he]
      exact Array.getElem_mem_toList hlt
    dsimp only at h ⊢
    split
    · rename_i hw
      rw [if_pos hw] at h
      rcases h with h | h
      · refine ⟨fun _ _ => trivial, ?_⟩
        rw [Oper.semAt_eq _ _ _ (hnd o hm)]
        exact upon_in (Oper.wp_mono hK h)
      · exact absurd h.2 hQ
    · rename_i hw
      rw [if_neg hw] at h
      exact ⟨fun _ _ => trivial, hK _ _ h⟩
theorem any_in {l n : Nat} {md : Region.Mode} (hnd : ∀ o ∈ ops.toList, ∀ c, o.op ≠ .defer c) (hQ : ¬ LetsOut Q) : ∀ (fuel : Nat) (listed : Array Bool) (a : Act) (w : World), wpAny P md ops Q fuel listed a w → wpAnyIn (Fence.wide.inRound l) n P md ops Q fuel listed a w
  | 0, _, _, _, h => h
  | fuel + 1, listed, a, w, h => ⟨h.1, fun i hi => op_in hnd hQ (fun a w h => any_in hnd hQ fuel _ a w h) (h.2 i hi)⟩
/-- A region that draws, in a round. -/
theorem region_in {l n id : Nat} {a : Act} {w : World} (hm : P.follows .mixedOrders = true) (hnd : ∀ o ∈ ops.toList, ∀ c, o.op ≠ .defer c) (hQ : ¬ LetsOut Q)
    (h : wpAny P .any ops Q ops.size (Array.replicate ops.size false) a w.drew) : (Code.region id ops true).wpIn (Fence.wide.inRound l) n P Q a w :=
  wpIn_region_any hm (any_in hnd hQ _ _ _ _ h)
end Go.Proofs.Ytkmeipblgdahoaa.Brg

/- slices.Chunk: its closure's contract: the pieces, one behind the other. -/
namespace Go.Proofs.Ytkmeipblgdahoaa.Dv
open Go.RowKit Go.Shelf Go.Proofs.YtkmeipblgdahoaaW.PrintWords Go.Proofs.YtkmeipblgdahoaaW.PrintMore Go.Proofs.Ytkmeipblgdahoaa.Base Go.Proofs.Ytkmeipblgdahoaa.Shp
set_option maxRecDepth 100000
set_option linter.unusedVariables false
set_option linter.unusedSimpArgs false
theorem chunk_calls (A : Option Addr) (n cap : Nat) (b : Int) (hb : 1 ≤ b) (w : World) :
    Calls Try.prog 63 #[.slice A n cap, .int .i64 b] w fun e w' => e = .returned (.func (.func 78) #[] #[.pointer (some ⟨w.heap.size, 0, none⟩), .pointer (some ⟨w.heap.size + 1, 0, none⟩)]) ∧
      (w.alloc (.cells #[.slice A n cap] 39)).alloc (.cells #[.int .i64 b] 3) = w' := by
  have hd : decide (b < 1) = false := decide_eq_false (by omega)
  go_enter Try.func63, Try.ntmps63
  go_wp2
  go_ret
  exact ⟨rfl, rfl⟩
attribute [local go_sem] Oper.semAt_some
attribute [local go_sem] max2_mx min2_mn max_two min_two
theorem cut_lhm {P : Program} (t e : TypeId) {i : TypeInfo} (ht : P.underlying t = some (.slice e)) (hi : P.info? e = some i) (hsz : i.size = 1) (A : Option Addr) (n c lo b : Nat) (hb : 1 ≤ b) (h1 : lo + b ≤ n) (hc : n ≤ c) :
    ∀ W : World, (Instr.slice t (.slice A n c) (some (.int .i64 (lo : Int))) (some (.int .i64 ((lo : Int) + (b : Int)))) (some (.int .i64 ((lo : Int) + (b : Int))))).run P W = .ok (.slice (A.map (·.add lo)) b b) W := by
  intro W
  have hel : P.elem t = e := by simp [Program.elem, ht]
  have hu : P.underlying t = some (.slice (P.elem t)) := by rw [hel]; exact ht
  rw [run_slice_lhm W t A n c hu .i64 .i64 .i64 (lo : Int) _ _ (by omega) (by omega) (by omega) (by omega), hel]
  simp [sizeOf, typeInfo, hi, hsz, sliced, Result.andThen]
  have e1 : ((lo : Int) + (b : Int)).toNat = lo + b := by omega
  rw [e1]
  refine ⟨fun h => by omega, by omega⟩
/-- The boxes of a Chunk's closure lie as they lay. -/
def KpB (Bs : Nat) (W W' : World) : Prop := ∀ k, (k = Bs ∨ k = Bs + 1) → W'.heap[k]? = W.heap[k]?
theorem KpB.trans {Bs : Nat} {A B C : World} (h : KpB Bs A B) (k : KpB Bs B C) : KpB Bs A C := fun j hj => (k j hj).trans (h j hj)
theorem KpB.cell {Bs : Nat} {W W' : World} (h : KpB Bs W W') : W'.cell? ⟨Bs, 0, none⟩ = W.cell? ⟨Bs, 0, none⟩ ∧ W'.cell? ⟨Bs + 1, 0, none⟩ = W.cell? ⟨Bs + 1, 0, none⟩ :=
  ⟨World.cell?_of_block (h Bs (.inl rfl)), World.cell?_of_block (h (Bs + 1) (.inr rfl))⟩
def chunkV (A : Option Addr) (b k : Nat) : Value := .slice (A.map (·.add (k * b))) b b
def firsts (cnt : Nat) (k : Nat) : List (Fin cnt) := (List.finRange cnt).take k
theorem firsts_succ {cnt k : Nat} (h : k < cnt) : firsts cnt k ++ [⟨k, h⟩] = firsts cnt (k + 1) := by
  unfold firsts
  rw [List.take_succ_eq_append_getElem (by simp; exact h)]
  simp
theorem firsts_len {cnt k : Nat} (h : k ≤ cnt) : (firsts cnt k).length = k := by unfold firsts; simp; omega
theorem firsts_all (cnt : Nat) : firsts cnt cnt = List.finRange cnt := by unfold firsts; rw [List.take_of_length_le (by simp)]
set_option maxRecDepth 100000 in
set_option maxHeartbeats 4000000 in
theorem chunk1_in (n l Bs : Nat) (A : Option Addr) (m cap b cnt : Nat) (hb : 1 ≤ b) (hm : m = cnt * b) (hmc : m ≤ cap) (hmm : m ≤ 100000000) (J Jx : List (Fin cnt) → World → Prop) (hJn : ∀ s W W', J s W → W.grownBy W' none → J s W')
    (hY : ∀ pre (x : Fin cnt) W, J pre W → pre.length < cnt → YieldAt Fence.wide (n - 1) Try.prog l #[chunkV A b x.1] W fun e W' =>
      (e = .returned (.bool true) ∧ J (pre ++ [x]) W' ∧ KpB Bs W W') ∨ (e = .returned (.bool false) ∧ Jx (pre ++ [x]) W'))
    (W : World) (hs : W.cell? ⟨Bs, 0, none⟩ = some (.slice A m cap)) (hn : W.cell? ⟨Bs + 1, 0, none⟩ = some (.int .i64 (b : Int))) (h0 : J [] W) :
    CallsIn Fence.wide n Try.prog 78 #[.func (.yield l) #[] #[], .pointer (some ⟨Bs, 0, none⟩), .pointer (some ⟨Bs + 1, 0, none⟩)] W fun e W' => (∃ v, e = .returned v) ∧
      ((∃ ys, ys = List.finRange cnt ∧ J ys W') ∨ (∃ pre : List (Fin cnt), True ∧ Jx pre W')) := by
  have HS := Aside0.mk (And.intro hs hn)
  have HY := Aside0.mk hY
  have HJN := Aside0.mk hJn
  have HM := Aside0.mk hm
  have H0 := Aside0.mk h0
  have hbm : b ≤ 100000000 ∨ cnt = 0 := by
    rcases Nat.eq_zero_or_pos cnt with h | h
    · exact .inr h
    · have : 1 * b ≤ cnt * b := Nat.mul_le_mul_right b h
      omega
  have HBM := Aside0.mk hbm
  clear hm hY h0 hbm hJn
  refine callsIn_of_wp Try.func78 rfl trivial ?_ rfl
  simp only [Try.ntmps78, List.size_toArray, List.length_cons, List.length_nil, Nat.reduceAdd, Nat.reduceSub, Array.replicate_succ, Array.replicate_zero, List.push_toArray, List.append_toArray, List.nil_append, List.cons_append]
  gi_wp2
  clear hs hn
  gi_loopw [4] (fun i wr => ∃ (k t : Nat), i = .int .i64 (t : Int) ∧ t ≤ m ∧ k ≤ cnt ∧ Aside0 (t = k * b) ∧ Aside0 (J (firsts cnt k) wr ∧ KpB Bs W wr)) (fun i _ => m - (intOf i).toNat)
  case atStart => exact ⟨0, 0, rfl, Nat.zero_le _, Nat.zero_le _, ⟨by simp⟩, ⟨H0.out, fun _ _ => rfl⟩⟩
  case round =>
    obtain ⟨k, t, rfl, htm, hkc, HT, HJ⟩ := hrel
    obtain ⟨e1, e2⟩ := HJ.out.2.cell
    have s1 : wr.cell? ⟨Bs, 0, none⟩ = some (.slice A m cap) := e1.trans HS.out.1
    have s2 : wr.cell? ⟨Bs + 1, 0, none⟩ = some (.int .i64 (b : Int)) := e2.trans HS.out.2
    clear e1 e2
    by_cases hlt : t < m
    · have hkk : k < cnt := by
        rcases Nat.lt_or_ge k cnt with h | h
        · exact h
        · have : k = cnt := by omega
          subst this
          rw [← HT.out] at HM
          have := HM.out
          omega
      have htb : t + b ≤ m := by
        rw [HM.out, HT.out, ← Nat.succ_mul]
        exact Nat.mul_le_mul_right b hkk
      have hbb : b ≤ 100000000 := by have := HBM.out; omega
      have hmn : mn (b : Int) (((m - t : Nat) : Int)) = (b : Int) := by unfold mn; split <;> omega
      have hmn2 : mn (b : Int) ((m : Int) - (t : Int)) = (b : Int) := by unfold mn; split <;> omega
      gi_wp2
      refine wpIn_wide.2 ?_
      go_quiet (fail)
      have s1 := pw_cell_below (pw_below_drewN (Below.refl wr.heap.size wr) nq) s1
      have s2 := pw_cell_below (pw_below_drewN (Below.refl wr.heap.size wr) nq) s2
      have HJ2 := Aside0.mk (show J (firsts cnt k) (wr.drewN nq) ∧ KpB Bs W (wr.drewN nq) from ⟨HJN.out _ _ _ HJ.out.1 ⟨rfl, rfl, rfl, Nat.le_refl _, fun _ _ _ => rfl⟩, HJ.out.2⟩)
      generalize wr.drewN nq = wd at *
      obtain ⟨fn, tmps, assign, body, hy, hR⟩ := HY.out _ ⟨k, hkk⟩ wd HJ2.out.1 (by rw [firsts_len hkc]; exact hkk)
      unfold chunkV at hy
      dsimp only at hy
      rw [← HT.out] at hy
      obtain ⟨i0, hi0, hzz⟩ := Option.map_eq_some_iff.1 info_u8
      simp only [Prod.mk.injEq] at hzz
      have hcut := cut_lhm (P := Try.prog) 39 5 Try.underlying39 hi0 hzz.2.1 A m cap t b hb htb hmc
      clear hi0 hzz hmn hmn2
      gi_wp2
      refine ⟨fun h => by simp [Fence.wide] at h, hR.mono ?_⟩
      rintro e W3 (⟨rfl, hJ3, hk3⟩ | ⟨rfl, hJx3⟩)
      · have s2 : W3.cell? ⟨Bs + 1, 0, none⟩ = some (.int .i64 (b : Int)) := (hk3.cell).2.trans s2
        rw [firsts_succ hkk] at hJ3
        have HJ3 := Aside0.mk (And.intro hJ3 (HJ2.out.2.trans hk3))
        clear hJ3 hk3 hy hR hcut
        gi_wp2
        go_roundw
        case rel => exact ⟨k + 1, t + b, by congr 1, htb, hkk, ⟨by rw [HT.out, Nat.succ_mul]⟩, HJ3⟩
        case measure => simp [intOf]; omega
      · gi_wp2
        refine bodyPost_ret (results_none rfl _ _ _) rfl ?_
        exact ⟨⟨_, rfl⟩, .inr ⟨_, trivial, hJx3⟩⟩
    · have hkk : k = cnt := by
        have h1 := HM.out
        have h2 := HT.out
        rcases Nat.lt_or_ge k cnt with h | h
        · have : (k + 1) * b ≤ cnt * b := Nat.mul_le_mul_right b h
          rw [Nat.succ_mul] at this
          omega
        · omega
      have HKK := Aside0.mk hkk
      clear hkk
      gi_wp2
      go_end0
      have h := HJ.out.1
      rw [HKK.out, firsts_all] at h
      exact ⟨⟨_, rfl⟩, .inl ⟨_, rfl, h⟩⟩
theorem chunk_stops (n Bs : Nat) (A : Option Addr) (m cap b cnt : Nat) (hb : 1 ≤ b) (hm : m = cnt * b) (hmc : m ≤ cap) (hmm : m ≤ 100000000) (w : World) (hBs : Bs + 1 < w.heap.size)
    (hs : w.cell? ⟨Bs, 0, none⟩ = some (.slice A m cap)) (hn : w.cell? ⟨Bs + 1, 0, none⟩ = some (.int .i64 (b : Int))) :
    SeqStopsK Fence.wide n Try.prog 78 #[.pointer (some ⟨Bs, 0, none⟩), .pointer (some ⟨Bs + 1, 0, none⟩)] (fun k : Fin cnt => #[chunkV A b k.1]) (KpB Bs) (fun ys => ys = List.finRange cnt) (fun _ => True) cnt w := fun l J Jx W hW hJ _ hY h0 =>
  chunk1_in n l Bs A m cap b cnt hb hm hmc hmm J Jx (fun s W W' hs hg => hJ s W W' none hs hg (fun r e => by cases e)) hY W ((hW.cell (by show Bs < _; omega)).trans hs) ((hW.cell hBs).trans hn) h0
end Go.Proofs.Ytkmeipblgdahoaa.Dv

/- slices.Chunk of places: its closure's contract: the pieces, one behind the other; the last may be shorter. -/
namespace Go.Proofs.Ytkmeipblgdahoaa.Ck
open Go.RowKit Go.Shelf Go.Proofs.YtkmeipblgdahoaaW.PrintWords Go.Proofs.YtkmeipblgdahoaaW.PrintMore Go.Proofs.Ytkmeipblgdahoaa.Base Go.Proofs.Ytkmeipblgdahoaa.Dv
set_option maxRecDepth 100000
set_option linter.unusedVariables false
set_option linter.unusedSimpArgs false
theorem chunkp_calls (A : Option Addr) (n cap : Nat) (b : Int) (hb : 1 ≤ b) (w : World) :
    Calls Try.prog 38 #[.slice A n cap, .int .i64 b] w fun e w' => e = .returned (.func (.func 71) #[] #[.pointer (some ⟨w.heap.size, 0, none⟩), .pointer (some ⟨w.heap.size + 1, 0, none⟩)]) ∧
      (w.alloc (.cells #[.slice A n cap] 25)).alloc (.cells #[.int .i64 b] 3) = w' := by
  have hd : decide (b < 1) = false := decide_eq_false (by omega)
  go_enter Try.func38, Try.ntmps38
  go_wp2
  go_ret
  exact ⟨rfl, rfl⟩
attribute [local go_sem] Oper.semAt_some
attribute [local go_sem] max2_mx min2_mn max_two min_two
theorem cut_lhmN {P : Program} (t e : TypeId) {i : TypeInfo} (ht : P.underlying t = some (.slice e)) (hi : P.info? e = some i) (sz : Nat) (hsz : i.size = sz) (A : Option Addr) (n c lo b : Nat) (hb : 1 ≤ b) (h1 : lo + b ≤ n) (hc : n ≤ c) :
    ∀ W : World, (Instr.slice t (.slice A n c) (some (.int .i64 (lo : Int))) (some (.int .i64 ((lo : Int) + (b : Int)))) (some (.int .i64 ((lo : Int) + (b : Int))))).run P W = .ok (.slice (A.map (·.add (lo * sz))) b b) W := by
  intro W
  have hel : P.elem t = e := by simp [Program.elem, ht]
  have hu : P.underlying t = some (.slice (P.elem t)) := by rw [hel]; exact ht
  rw [run_slice_lhm W t A n c hu .i64 .i64 .i64 (lo : Int) _ _ (by omega) (by omega) (by omega) (by omega), hel]
  simp [sizeOf, typeInfo, hi, hsz, sliced, Result.andThen]
  have e1 : ((lo : Int) + (b : Int)).toNat = lo + b := by omega
  rw [e1]
  refine ⟨fun h => by omega, by omega⟩
theorem info_plc : (Try.prog.info? 88).map (·.size) = some 4 := by kernel_rfl
/-- The piece k of a slice of m. -/
def chunkPV (A : Option Addr) (b m k : Nat) : Value := .slice (A.map (·.add (k * b * 4))) (min b (m - k * b)) (min b (m - k * b))
set_option maxHeartbeats 4000000 in
theorem chunkp1_in (n l Bs : Nat) (A : Option Addr) (m cap b cnt : Nat) (hb : 1 ≤ b) (hm1 : m ≤ cnt * b) (hm2 : ∀ k, k < cnt → k * b < m) (hmc : m ≤ cap) (hmm : m ≤ 100000000) (hbm : b ≤ 100000000) (J Jx : List (Fin cnt) → World → Prop) (hJn : ∀ s W W', J s W → W.grownBy W' none → J s W')
    (hY : ∀ pre (x : Fin cnt) W, J pre W → pre.length < cnt → YieldAt Fence.wide (n - 1) Try.prog l #[chunkPV A b m x.1] W fun e W' =>
      (e = .returned (.bool true) ∧ J (pre ++ [x]) W' ∧ KpB Bs W W') ∨ (e = .returned (.bool false) ∧ Jx (pre ++ [x]) W'))
    (W : World) (hs : W.cell? ⟨Bs, 0, none⟩ = some (.slice A m cap)) (hn : W.cell? ⟨Bs + 1, 0, none⟩ = some (.int .i64 (b : Int))) (h0 : J [] W) :
    CallsIn Fence.wide n Try.prog 71 #[.func (.yield l) #[] #[], .pointer (some ⟨Bs, 0, none⟩), .pointer (some ⟨Bs + 1, 0, none⟩)] W fun e W' => (∃ v, e = .returned v) ∧
      ((∃ ys, ys = List.finRange cnt ∧ J ys W') ∨ (∃ pre : List (Fin cnt), True ∧ Jx pre W')) := by
  have HS := Aside0.mk (And.intro hs hn)
  have HY := Aside0.mk hY
  have HJN := Aside0.mk hJn
  have HM := Aside0.mk hm1
  have HM2 := Aside0.mk hm2
  have H0 := Aside0.mk h0
  clear hm1 hm2 hY h0 hJn
  refine callsIn_of_wp Try.func71 rfl trivial ?_ rfl
  simp only [Try.ntmps71, List.size_toArray, List.length_cons, List.length_nil, Nat.reduceAdd, Nat.reduceSub, Array.replicate_succ, Array.replicate_zero, List.push_toArray, List.append_toArray, List.nil_append, List.cons_append]
  gi_wp2
  clear hs hn
  gi_loopw [4] (fun i wr => ∃ (k t : Nat), i = .int .i64 (t : Int) ∧ t ≤ 200000000 ∧ k ≤ cnt ∧ Aside0 (t = k * b) ∧ Aside0 (J (firsts cnt k) wr ∧ KpB Bs W wr)) (fun i _ => m - (intOf i).toNat)
  case atStart => exact ⟨0, 0, rfl, Nat.zero_le _, Nat.zero_le _, ⟨by simp⟩, ⟨H0.out, fun _ _ => rfl⟩⟩
  case round =>
    obtain ⟨k, t, rfl, htm, hkc, HT, HJ⟩ := hrel
    obtain ⟨e1, e2⟩ := HJ.out.2.cell
    have s1 : wr.cell? ⟨Bs, 0, none⟩ = some (.slice A m cap) := e1.trans HS.out.1
    have s2 : wr.cell? ⟨Bs + 1, 0, none⟩ = some (.int .i64 (b : Int)) := e2.trans HS.out.2
    clear e1 e2
    by_cases hlt : t < m
    · have hkk : k < cnt := by
        rcases Nat.lt_or_ge k cnt with h | h
        · exact h
        · have : k = cnt := by omega
          subst this
          rw [← HT.out] at HM
          have := HM.out
          omega
      obtain ⟨ee, hee⟩ : ∃ ee, min b (m - t) = ee := ⟨_, rfl⟩
      have he1 : 1 ≤ ee := by omega
      have he2 : t + ee ≤ m := by omega
      have hmn : mn (b : Int) (((m - t : Nat) : Int)) = (ee : Int) := by unfold mn; split <;> omega
      have hmn2 : mn (b : Int) ((m : Int) - (t : Int)) = (ee : Int) := by unfold mn; split <;> omega
      have HEE := Aside0.mk hee
      clear hee
      gi_wp2
      refine wpIn_wide.2 ?_
      go_quiet (fail)
      have s1 := pw_cell_below (pw_below_drewN (Below.refl wr.heap.size wr) nq) s1
      have s2 := pw_cell_below (pw_below_drewN (Below.refl wr.heap.size wr) nq) s2
      have HJ2 := Aside0.mk (show J (firsts cnt k) (wr.drewN nq) ∧ KpB Bs W (wr.drewN nq) from ⟨HJN.out _ _ _ HJ.out.1 ⟨rfl, rfl, rfl, Nat.le_refl _, fun _ _ _ => rfl⟩, HJ.out.2⟩)
      generalize wr.drewN nq = wd at *
      obtain ⟨fn, tmps, assign, body, hy, hR⟩ := HY.out _ ⟨k, hkk⟩ wd HJ2.out.1 (by rw [firsts_len hkc]; exact hkk)
      unfold chunkPV at hy
      dsimp only at hy
      rw [← HT.out, HEE.out] at hy
      obtain ⟨i0, hi0, hzz⟩ := Option.map_eq_some_iff.1 info_plc
      have hcut := cut_lhmN (P := Try.prog) 25 88 Try.underlying25 hi0 4 hzz A m cap t ee he1 he2 hmc
      clear hi0 hzz hmn hmn2
      gi_wp2
      refine ⟨fun h => by simp [Fence.wide] at h, hR.mono ?_⟩
      rintro e W3 (⟨rfl, hJ3, hk3⟩ | ⟨rfl, hJx3⟩)
      · have s2 : W3.cell? ⟨Bs + 1, 0, none⟩ = some (.int .i64 (b : Int)) := (hk3.cell).2.trans s2
        rw [firsts_succ hkk] at hJ3
        have HJ3 := Aside0.mk (And.intro hJ3 (HJ2.out.2.trans hk3))
        clear hJ3 hk3 hy hR hcut
        gi_wp2
        go_roundw
        case rel => exact ⟨k + 1, t + b, by congr 1, by omega, hkk, ⟨by rw [HT.out, Nat.succ_mul]⟩, HJ3⟩
        case measure => simp [intOf]; omega
      · gi_wp2
        refine bodyPost_ret (results_none rfl _ _ _) rfl ?_
        exact ⟨⟨_, rfl⟩, .inr ⟨_, trivial, hJx3⟩⟩
    · have hkk : k = cnt := by
        have h2 := HT.out
        rcases Nat.lt_or_ge k cnt with h | h
        · have := HM2.out k h
          omega
        · omega
      have HKK := Aside0.mk hkk
      clear hkk
      gi_wp2
      go_end0
      have h := HJ.out.1
      rw [HKK.out, firsts_all] at h
      exact ⟨⟨_, rfl⟩, .inl ⟨_, rfl, h⟩⟩
theorem chunkp_stops (n Bs : Nat) (A : Option Addr) (m cap b cnt : Nat) (hb : 1 ≤ b) (hm1 : m ≤ cnt * b) (hm2 : ∀ k, k < cnt → k * b < m) (hmc : m ≤ cap) (hmm : m ≤ 100000000) (hbm : b ≤ 100000000) (w : World) (hBs : Bs + 1 < w.heap.size)
    (hs : w.cell? ⟨Bs, 0, none⟩ = some (.slice A m cap)) (hn : w.cell? ⟨Bs + 1, 0, none⟩ = some (.int .i64 (b : Int))) :
    SeqStopsK Fence.wide n Try.prog 71 #[.pointer (some ⟨Bs, 0, none⟩), .pointer (some ⟨Bs + 1, 0, none⟩)] (fun k : Fin cnt => #[chunkPV A b m k.1]) (KpB Bs) (fun ys => ys = List.finRange cnt) (fun _ => True) cnt w := fun l J Jx W hW hJ _ hY h0 =>
  chunkp1_in n l Bs A m cap b cnt hb hm1 hm2 hmc hmm hbm J Jx (fun s W W' hs hg => hJ s W W' none hs hg (fun r e => by cases e)) hY W ((hW.cell (by show Bs < _; omega)).trans hs) ((hW.cell hBs).trans hn) h0
end Go.Proofs.Ytkmeipblgdahoaa.Ck

/- How many places a checkpoint's block has room for: ckpt.Room and coamingref14.Room. -/
namespace Go.Proofs.Ytkmeipblgdahoaa.Shp
open Go.RowKit Go.Proofs.YtkmeipblgdahoaaW.PrintWords Go.Proofs.YtkmeipblgdahoaaW.PrintMore Go.Proofs.Ytkmeipblgdahoaa.Base
set_option maxRecDepth 100000
set_option linter.unusedVariables false
set_option linter.unusedSimpArgs false

def rm (b : Int) : Int := if Pow b then (b - 27) / 16 else 0
theorem pow_range {b : Int} (h : Pow b) : 64 ≤ b ∧ b ≤ 4096 := by unfold Pow at h; omega

theorem room_calls (b : Int) (hb : IsI b) (w : World) :
    Calls Try.prog 14 #[.int .i64 b] w fun e w' => e = .returned (.int .i64 (rm b)) ∧ w = w' := by
  obtain ⟨hb1, hb2⟩ := hb
  by_cases h2 : 64 ≤ b ∧ b ≤ 4096
  · obtain ⟨a5, a6⟩ := h2
    have hc := and_code b a5 a6
    by_cases h3 : Pow b
    · rw [decide_eq_true h3] at hc
      have hR := Aside0.mk (show rm b = (b - 27) / 16 from if_pos h3)
      clear h3
      go_enter Try.func14, Try.ntmps14
      go_wp2
      go_ret
      refine ⟨?_, rfl⟩
      rw [hR.out]
      show Ending.returned (.int .i64 _) = _
      congr 2
      omega
    · rw [decide_eq_false h3] at hc
      have hR := Aside0.mk (show rm b = 0 from if_neg h3)
      clear h3
      go_enter Try.func14, Try.ntmps14
      go_wp2
      go_ret
      exact ⟨by rw [hR.out]; rfl, rfl⟩
  · have hR := Aside0.mk (show rm b = 0 from if_neg (fun h => h2 (pow_range h)))
    by_cases h3 : b < 64
    · go_enter Try.func14, Try.ntmps14
      go_wp2
      go_ret
      exact ⟨by rw [hR.out]; rfl, rfl⟩
    · have h4 : 4096 < b := by omega
      go_enter Try.func14, Try.ntmps14
      go_wp2
      go_ret
      exact ⟨by rw [hR.out]; rfl, rfl⟩

theorem ref_room_calls (b : Int) (hb : IsI b) (w : World) :
    Calls Try.prog 15 #[.int .i64 b] w fun e w' => e = .returned (.int .i64 (rm b)) ∧ w = w' := by
  obtain ⟨hb1, hb2⟩ := hb
  go_enter Try.func15, Try.ntmps15
  have HP := Aside0.mk (show pOf b 7 = decide (Pow b) from by
    rw [show pOf b 7 = (((((((64 : Int) == b) || ((128 : Int) == b)) || ((256 : Int) == b)) || ((512 : Int) == b)) || ((1024 : Int) == b)) || ((2048 : Int) == b) || ((4096 : Int) == b)) from rfl, Bool.eq_iff_iff]
    simp only [Bool.or_eq_true, beq_iff_eq, decide_eq_true_eq]
    unfold Pow
    omega)
  go_wp2
  go_loopg [3] 7 (fun k v3 wr => ∃ (j : Nat) (x : Int), v3 = .int .i64 x ∧ Aside0 (k + j = 7 ∧ pOf b j = false ∧ x = pw j) ∧ w = wr)
  case atStart => exact ⟨0, 64, rfl, ⟨rfl, rfl, rfl⟩, rfl⟩
  case round =>
    obtain ⟨j, x, rfl, HJ, rfl⟩ := hrel
    by_cases h7 : j = 7
    · have hx : x = 8192 := by rw [HJ.out.2.2, h7]; rfl
      subst hx
      have hR := Aside0.mk (show rm b = 0 from if_neg (by have := HP.out; rw [← h7, HJ.out.2.1] at this; simpa using this.symm))
      go_wp2
      go_ret
      exact ⟨by rw [hR.out]; rfl, rfl⟩
    · have hx : x ≤ 4096 ∧ 64 ≤ x ∧ Pow x := by
        rw [HJ.out.2.2]
        have h1 := HJ.out.1
        have : j = 0 ∨ j = 1 ∨ j = 2 ∨ j = 3 ∨ j = 4 ∨ j = 5 ∨ j = 6 := by omega
        rcases this with rfl | rfl | rfl | rfl | rfl | rfl | rfl <;> decide
      obtain ⟨hx1, hx2, hx3⟩ := hx
      by_cases hxb : x = b
      · subst hxb
        have hR := Aside0.mk (show rm x = (x - 27) / 16 from if_pos hx3)
        clear hx3
        go_wp2
        go_ret
        exact ⟨by rw [hR.out]; rfl, rfl⟩
      · have hne : (x == b) = false := by rw [beq_eq_false_iff_ne]; exact hxb
        clear hx3
        go_wp2
        go_roundg (gk - 1)
        case measure => have := HJ.out.1; omega
        case rel => exact ⟨j + 1, 2 * x, rfl, ⟨by have := HJ.out.1; omega, by rw [pOf, HJ.out.2.1, ← HJ.out.2.2, Bool.false_or]; simpa using hxb, by rw [pw, HJ.out.2.2]⟩, rfl⟩
end Go.Proofs.Ytkmeipblgdahoaa.Shp
