/- Part 2 of 5 of the proof of CkptDecodes: CkptMay, CrcWalks, CkptBlk, Right, Dev. -/
import Derived.Test.YtkmeipblgdahoaaMCkptDecodes1
import Derived.Test.YtkmeipblgdahoaaProg
import Derived.WalkKit
import Derived.KernelRfl
import Derived.Deep.LoopGhost
import Derived.Deep.QuietTactic
import Derived.BigQuiet
import Derived.WideLaws
import Derived.Test.YtkmeipblgdahoaaWMore
import Derived.Laws.BitsAllLaws
import Derived.Laws.Bits64
import Derived.Outline
import Derived.Lib.SmallJoins
import Derived.WideShapes
import Derived.Test.YtkmeipblgdahoaaWKept
import Derived.Deep.RegionHeld3
/- ckpt.may: may places stand in a checkpoint. -/
namespace Go.Proofs.Ytkmeipblgdahoaa.Ck
open Go.RowKit Go.Proofs.YtkmeipblgdahoaaW.PrintWords Go.Proofs.YtkmeipblgdahoaaW.PrintMore Go.Proofs.Ytkmeipblgdahoaa.Base
set_option linter.unusedVariables false
set_option linter.unusedSimpArgs false
/-- What the tests read: the shape's two, the address's two. -/
def M4 (w : World) (g gp : Nat) (z zb pz pk : Int) : Prop := w.cell? ⟨g, 0, none⟩ = some (.int .i64 z) ∧ w.cell? ⟨g, 1, none⟩ = some (.int .i64 zb) ∧ w.cell? ⟨gp + 1, 0, none⟩ = some (.int .i64 pz) ∧ w.cell? ⟨gp + 1, 1, none⟩ = some (.int .i64 pk)
theorem M4.below {w w1 : World} {g gp : Nat} {z zb pz pk : Int} (h : M4 w g gp z zb pz pk) (hb : Below w.heap.size w w1) : M4 w1 g gp z zb pz pk :=
  ⟨pw_cell_below hb h.1, pw_cell_below hb h.2.1, pw_cell_below hb h.2.2.1, pw_cell_below hb h.2.2.2⟩
/-- A place's cells at an address. -/
def P4 (w : World) (a : Addr) (x : Plc) : Prop := w.cell? a = some (.int .u32 (x.1 : Int)) ∧ w.cell? ⟨a.block, a.off + 1, none⟩ = some (.int .u64 (x.2.1 : Int)) ∧ w.cell? ⟨a.block, a.off + 2, none⟩ = some (.int .i64 x.2.2.1) ∧ w.cell? ⟨a.block, a.off + 3, none⟩ = some (.int .i64 x.2.2.2)
theorem P4.below {w w1 : World} {a : Addr} {x : Plc} (h : P4 w a x) (hb : Below w.heap.size w w1) : P4 w1 a x :=
  ⟨pw_cell_below hb h.1, pw_cell_below hb h.2.1, pw_cell_below hb h.2.2.1, pw_cell_below hb h.2.2.2⟩
theorem M12 {w : World} {g gp : Nat} {z zb pz pk : Int} {a : Addr} {x y : Plc} (h : M4 w g gp z zb pz pk) (hp : P4 w ⟨gp, 0, none⟩ x) (hq : P4 w a y) :
    w.cell? ⟨g, 0, none⟩ = some (.int .i64 z) ∧ w.cell? ⟨g, 1, none⟩ = some (.int .i64 zb) ∧ w.cell? ⟨gp + 1, 0, none⟩ = some (.int .i64 pz) ∧ w.cell? ⟨gp + 1, 1, none⟩ = some (.int .i64 pk) ∧
    w.cell? ⟨gp, 0, none⟩ = some (.int .u32 (x.1 : Int)) ∧ w.cell? ⟨gp, 1, none⟩ = some (.int .u64 (x.2.1 : Int)) ∧ w.cell? ⟨gp, 2, none⟩ = some (.int .i64 x.2.2.1) ∧ w.cell? ⟨gp, 3, none⟩ = some (.int .i64 x.2.2.2) ∧
    w.cell? a = some (.int .u32 (y.1 : Int)) ∧ w.cell? ⟨a.block, a.off + 1, none⟩ = some (.int .u64 (y.2.1 : Int)) ∧ w.cell? ⟨a.block, a.off + 2, none⟩ = some (.int .i64 y.2.2.1) ∧ w.cell? ⟨a.block, a.off + 3, none⟩ = some (.int .i64 y.2.2.2) :=
  ⟨h.1, h.2.1, h.2.2.1, h.2.2.2, hp.1, hp.2.1, hp.2.2.1, hp.2.2.2, hq.1, hq.2.1, hq.2.2.1, hq.2.2.2⟩
set_option maxRecDepth 100000 in
set_option maxHeartbeats 4000000 in
theorem may_calls (z zb b r : Int) (A : Option Addr) (n c : Nat) (l : List Plc) (w : World) (h : plK.C w A n l) :
    Calls Try.prog 36 #[.agg #[.int .i64 z, .int .i64 zb, .int .i64 b, .int .i64 r], .slice A n c] w fun e w' => e = .returned (.bool (decide (MayP z zb l))) ∧ Below w.heap.size w w' := by
  obtain ⟨hl, hm⟩ := C_len h
  have HL := Aside0.mk hl
  have HC := Aside0.mk h
  have HA := Aside0.mk (alloc_below w (.cells #[.int .i64 z, .int .i64 zb, .int .i64 b, .int .i64 r] 23))
  have HX := Aside0.mk (show (w.alloc (.cells #[.int .i64 z, .int .i64 zb, .int .i64 b, .int .i64 r] 23)).heap[w.heap.size]? = some (.cells #[.int .i64 z, .int .i64 zb, .int .i64 b, .int .i64 r] 23 (0, 0)) from blk_here rfl)
  clear h hl
  go_enter Try.func36, Try.ntmps36
  go_wp2
  obtain ⟨g, hg⟩ : ∃ g, w.heap.size = g := ⟨_, rfl⟩
  obtain ⟨W, hW⟩ : ∃ W, w.alloc (.cells #[.int .i64 z, .int .i64 zb, .int .i64 b, .int .i64 r] 23) = W := ⟨_, rfl⟩
  rw [hW] at HX HA ⊢
  rw [hg] at HX ⊢
  have HG := Aside0.mk hg
  clear hW hg
  go_loopg [10] n (fun g1 v10 wr => ∃ i : Nat, v10 = .int .i64 (i : Int) ∧ i ≤ n ∧ Aside0 (g1 + i = n) ∧ Aside0 (∀ j, j < i → InIt z zb (l.getD j plc0)) ∧ Aside0 (∀ j, j + 1 < i → Below2 (l.getD j plc0) (l.getD (j + 1) plc0)) ∧ Aside0 (wr.heap[g]? = some (.cells #[.int .i64 z, .int .i64 zb, .int .i64 b, .int .i64 r] 23 (0, 0))) ∧ Aside0 (Below w.heap.size w wr))
  case atStart => exact ⟨0, rfl, Nat.zero_le _, ⟨rfl⟩, ⟨fun j hj => by omega⟩, ⟨fun j hj => by omega⟩, HX, HA⟩
  case round =>
    obtain ⟨i, rfl, hi, HK, HIN, HRI, HXr, HBr⟩ := hrel
    by_cases hlt : i < n
    · have hd0 : decide ((i : Int) < (n : Int)) = true := decide_eq_true (by omega)
      have hd0' : decide (i < n) = true := decide_eq_true hlt
      have hi0 : (0 : Int) ≤ (i : Int) := by omega
      have hi1 : (i : Int) < (n : Int) := by omega
      obtain ⟨p, hp⟩ : ∃ p, l.getD i plc0 = p := ⟨_, rfl⟩
      obtain ⟨ad, rfl, ho, hz3, hz4, e0, e1, e2, e3⟩ := pl_at (Kd.C_below HC.out HBr.out) i hlt hp
      have HP := Aside0.mk hp
      have HO := Aside0.mk ho
      have HZ := Aside0.mk (And.intro hz3 hz4)
      obtain ⟨pt, pb, pz, pk⟩ := p
      dsimp only at e0 e1 e2 e3
      clear hp ho hz3 hz4
      go_wp2
      obtain ⟨gp, hgp⟩ : ∃ gp, wr.heap.size = gp := ⟨_, rfl⟩
      have HXX := Aside0.mk (show Below wr.heap.size wr ((wr.alloc (.cells #[.int .u32 (pt : Int), .int .u64 (pb : Int), .int .i64 pz, .int .i64 pk] 88)).alloc (.cells #[.int .i64 pz, .int .i64 pk] 59)) from below_alloc (alloc_below _ _) _)
      have HP4 := Aside0.mk (show P4 ((wr.alloc (.cells #[.int .u32 (pt : Int), .int .u64 (pb : Int), .int .i64 pz, .int .i64 pk] 88)).alloc (.cells #[.int .i64 pz, .int .i64 pk] 59)) ⟨wr.heap.size, 0, none⟩ (pt, pb, pz, pk) from ⟨by go_simp, by go_simp, by go_simp, by go_simp⟩)
      have HM4 := Aside0.mk (show M4 ((wr.alloc (.cells #[.int .u32 (pt : Int), .int .u64 (pb : Int), .int .i64 pz, .int .i64 pk] 88)).alloc (.cells #[.int .i64 pz, .int .i64 pk] 59)) g wr.heap.size z zb pz pk from ⟨pw_cell_below HXX.out (by simp [World.cell?, HXr.out]), pw_cell_below HXX.out (by simp [World.cell?, HXr.out]), by go_simp, by go_simp⟩)
      obtain ⟨X, hX⟩ : ∃ X, (wr.alloc (.cells #[.int .u32 (pt : Int), .int .u64 (pb : Int), .int .i64 pz, .int .i64 pk] 88)).alloc (.cells #[.int .i64 pz, .int .i64 pk] 59) = X := ⟨_, rfl⟩
      rw [hX] at HXX HP4 HM4 ⊢
      rw [hgp] at HP4 HM4 ⊢
      have HBX := Aside0.mk (below_go HBr.out HXX.out)
      have HXS := Aside0.mk ((HXX.out.block g (Array.getElem?_eq_some_iff.1 HXr.out).1).trans HXr.out)
      clear hX hgp e0 e1 e2 e3
      have HNI := Aside0.mk (show ¬ InIt z zb (pt, pb, pz, pk) → decide (MayP z zb l) = false from fun hn => decide_eq_false (fun hh => hn (by rw [← HP.out, List.getD_eq_getElem?_getD, List.getElem?_eq_getElem (by rw [HL.out]; exact hlt)]; exact hh.1 _ (List.getElem_mem _))))
      by_cases ht1 : pz < 2
      · have qt1 : decide (pz < 2) = true := decide_eq_true ht1
        have HNM := Aside0.mk (HNI.out (fun hh => by have h1 := hh.1; have h2 := hh.2.1; have h3 := hh.2.2.1; have h4 := hh.2.2.2; dsimp only at h1 h2 h3 h4; omega))
        clear ht1
        refine wp_region_held_drew (S := fun w' => w'.cell? ⟨g, 0, none⟩ = some (.int .i64 z) ∧ w'.cell? ⟨g, 1, none⟩ = some (.int .i64 zb) ∧ w'.cell? ⟨gp + 1, 0, none⟩ = some (.int .i64 pz) ∧ w'.cell? ⟨gp + 1, 1, none⟩ = some (.int .i64 pk)) (by kernel_rfl) (HM4.out.below (below_drew (Below.refl X.heap.size X))) (fun hHeld => ?_)
        refine wpAnyH_take (i := 0) (oi := { dst := some 17, op := Op.fieldAddr 59 (Operand.tmp 7) 0, type := 0, pos := "ckpt.go:41", after := #[], guard := none }) (v := ?_) rfl (by kernel_rfl) (by kernel_rfl) (by kernel_rfl) (fun _ _ _ h => h) (Or.inl ⟨by rfl, ?_⟩) (by assumption) ?_
        rotate_left
        · (intro w hSw; (try dsimp only at hSw); go_simp; (try with_reducible rfl))
        (try simp only [Act.put, List.setIfInBounds_toArray, List.set_cons_zero, List.set_cons_succ])
        refine wpAnyH_take (i := 1) (oi := { dst := some 18, op := Op.load 3 (Operand.tmp 17), type := 3, pos := "ckpt.go:41", after := #[{ on := 0, ground := Ground.data }], guard := none }) (v := ?_) rfl (by kernel_rfl) (by kernel_rfl) (by kernel_rfl) (fun _ _ _ h => h) (Or.inl ⟨by rfl, ?_⟩) (by assumption) ?_
        rotate_left
        · (intro w hSw; (try dsimp only at hSw); go_simp; (try with_reducible rfl))
        (try simp only [Act.put, List.setIfInBounds_toArray, List.set_cons_zero, List.set_cons_succ])
        refine wpAnyH_take (i := 2) (oi := { dst := some 19, op := Op.binOp BinOp.lss 3 (Operand.tmp 18) (Operand.const (Value.int IntKind.i64 2)) 3, type := 4, pos := "ckpt.go:41", after := #[{ on := 1, ground := Ground.data }], guard := none }) (v := ?_) rfl (by kernel_rfl) (by kernel_rfl) (by kernel_rfl) (fun _ _ _ h => h) (Or.inl ⟨by rfl, ?_⟩) (by assumption) ?_
        rotate_left
        · (intro w hSw; (try dsimp only at hSw); go_simp; (try with_reducible rfl))
        (try simp only [Act.put, List.setIfInBounds_toArray, List.set_cons_zero, List.set_cons_succ])
        refine wpAnyH_take (i := 3) (oi := { dst := some 20, op := Op.move (Operand.tmp 19), type := 4, pos := "ckpt.go:41", after := #[{ on := 2, ground := Ground.data }], guard := none }) (v := ?_) rfl (by kernel_rfl) (by kernel_rfl) (by kernel_rfl) (fun _ _ _ h => h) (Or.inl ⟨by rfl, ?_⟩) (by assumption) ?_
        rotate_left
        · (intro w hSw; (try dsimp only at hSw); go_simp; (try with_reducible rfl))
        (try simp only [Act.put, List.setIfInBounds_toArray, List.set_cons_zero, List.set_cons_succ])
        refine wpAnyH_take (i := 4) (oi := { dst := some 21, op := Op.fieldAddr 59 (Operand.tmp 7) 0, type := 0, pos := "ckpt.go:41", after := #[{ on := 3, ground := Ground.guard }], guard := some (3, false) }) (v := undef) rfl (by kernel_rfl) (by kernel_rfl) (by kernel_rfl) (fun _ _ _ h => h) (Or.inr ⟨by rfl, rfl⟩) (by assumption) ?_
        (try simp only [Act.put, List.setIfInBounds_toArray, List.set_cons_zero, List.set_cons_succ])
        refine wpAnyH_take (i := 5) (oi := { dst := some 22, op := Op.load 3 (Operand.tmp 21), type := 3, pos := "ckpt.go:41", after := #[{ on := 4, ground := Ground.data }, { on := 3, ground := Ground.guard }], guard := some (3, false) }) (v := undef) rfl (by kernel_rfl) (by kernel_rfl) (by kernel_rfl) (fun _ _ _ h => h) (Or.inr ⟨by rfl, rfl⟩) (by assumption) ?_
        (try simp only [Act.put, List.setIfInBounds_toArray, List.set_cons_zero, List.set_cons_succ])
        refine wpAnyH_take (i := 6) (oi := { dst := some 23, op := Op.fieldAddr 23 (Operand.tmp 2) 0, type := 0, pos := "ckpt.go:41", after := #[{ on := 3, ground := Ground.guard }], guard := some (3, false) }) (v := undef) rfl (by kernel_rfl) (by kernel_rfl) (by kernel_rfl) (fun _ _ _ h => h) (Or.inr ⟨by rfl, rfl⟩) (by assumption) ?_
        (try simp only [Act.put, List.setIfInBounds_toArray, List.set_cons_zero, List.set_cons_succ])
        refine wpAnyH_take (i := 7) (oi := { dst := some 24, op := Op.load 3 (Operand.tmp 23), type := 3, pos := "ckpt.go:41", after := #[{ on := 6, ground := Ground.data }, { on := 3, ground := Ground.guard }], guard := some (3, false) }) (v := undef) rfl (by kernel_rfl) (by kernel_rfl) (by kernel_rfl) (fun _ _ _ h => h) (Or.inr ⟨by rfl, rfl⟩) (by assumption) ?_
        (try simp only [Act.put, List.setIfInBounds_toArray, List.set_cons_zero, List.set_cons_succ])
        refine wpAnyH_take (i := 8) (oi := { dst := some 25, op := Op.binOp BinOp.geq 3 (Operand.tmp 22) (Operand.tmp 24) 3, type := 4, pos := "ckpt.go:41", after := #[{ on := 5, ground := Ground.data }, { on := 7, ground := Ground.data }, { on := 3, ground := Ground.guard }], guard := some (3, false) }) (v := undef) rfl (by kernel_rfl) (by kernel_rfl) (by kernel_rfl) (fun _ _ _ h => h) (Or.inr ⟨by rfl, rfl⟩) (by assumption) ?_
        (try simp only [Act.put, List.setIfInBounds_toArray, List.set_cons_zero, List.set_cons_succ])
        refine wpAnyH_take (i := 9) (oi := { dst := some 26, op := Op.pick (Operand.tmp 20) (Operand.const (Value.bool true)) (Operand.tmp 25), type := 4, pos := "ckpt.go:41", after := #[{ on := 3, ground := Ground.data }, { on := 8, ground := Ground.data }], guard := none }) (v := ?_) rfl (by kernel_rfl) (by kernel_rfl) (by kernel_rfl) (fun _ _ _ h => h) (Or.inl ⟨by rfl, ?_⟩) (by assumption) ?_
        rotate_left
        · (intro w hSw; (try dsimp only at hSw); go_simp; (try with_reducible rfl))
        (try simp only [Act.put, List.setIfInBounds_toArray, List.set_cons_zero, List.set_cons_succ])
        refine wpAnyH_take (i := 10) (oi := { dst := some 27, op := Op.move (Operand.tmp 26), type := 4, pos := "ckpt.go:41", after := #[{ on := 9, ground := Ground.data }, { on := 3, ground := Ground.chain }], guard := none }) (v := ?_) rfl (by kernel_rfl) (by kernel_rfl) (by kernel_rfl) (fun _ _ _ h => h) (Or.inl ⟨by rfl, ?_⟩) (by assumption) ?_
        rotate_left
        · (intro w hSw; (try dsimp only at hSw); go_simp; (try with_reducible rfl))
        (try simp only [Act.put, List.setIfInBounds_toArray, List.set_cons_zero, List.set_cons_succ])
        refine wpAnyH_take (i := 11) (oi := { dst := some 28, op := Op.fieldAddr 59 (Operand.tmp 7) 1, type := 0, pos := "ckpt.go:41", after := #[{ on := 10, ground := Ground.guard }], guard := some (10, false) }) (v := undef) rfl (by kernel_rfl) (by kernel_rfl) (by kernel_rfl) (fun _ _ _ h => h) (Or.inr ⟨by rfl, rfl⟩) (by assumption) ?_
        (try simp only [Act.put, List.setIfInBounds_toArray, List.set_cons_zero, List.set_cons_succ])
        refine wpAnyH_take (i := 12) (oi := { dst := some 29, op := Op.load 3 (Operand.tmp 28), type := 3, pos := "ckpt.go:41", after := #[{ on := 11, ground := Ground.data }, { on := 10, ground := Ground.guard }], guard := some (10, false) }) (v := undef) rfl (by kernel_rfl) (by kernel_rfl) (by kernel_rfl) (fun _ _ _ h => h) (Or.inr ⟨by rfl, rfl⟩) (by assumption) ?_
        (try simp only [Act.put, List.setIfInBounds_toArray, List.set_cons_zero, List.set_cons_succ])
        refine wpAnyH_take (i := 13) (oi := { dst := some 30, op := Op.binOp BinOp.lss 3 (Operand.tmp 29) (Operand.const (Value.int IntKind.i64 0)) 3, type := 4, pos := "ckpt.go:41", after := #[{ on := 12, ground := Ground.data }, { on := 10, ground := Ground.guard }], guard := some (10, false) }) (v := undef) rfl (by kernel_rfl) (by kernel_rfl) (by kernel_rfl) (fun _ _ _ h => h) (Or.inr ⟨by rfl, rfl⟩) (by assumption) ?_
        (try simp only [Act.put, List.setIfInBounds_toArray, List.set_cons_zero, List.set_cons_succ])
        refine wpAnyH_take (i := 14) (oi := { dst := some 31, op := Op.pick (Operand.tmp 27) (Operand.const (Value.bool true)) (Operand.tmp 30), type := 4, pos := "ckpt.go:41", after := #[{ on := 10, ground := Ground.data }, { on := 13, ground := Ground.data }], guard := none }) (v := ?_) rfl (by kernel_rfl) (by kernel_rfl) (by kernel_rfl) (fun _ _ _ h => h) (Or.inl ⟨by rfl, ?_⟩) (by assumption) ?_
        rotate_left
        · (intro w hSw; (try dsimp only at hSw); go_simp; (try with_reducible rfl))
        (try simp only [Act.put, List.setIfInBounds_toArray, List.set_cons_zero, List.set_cons_succ])
        refine wpAnyH_take (i := 15) (oi := { dst := some 32, op := Op.move (Operand.tmp 31), type := 4, pos := "ckpt.go:41", after := #[{ on := 14, ground := Ground.data }, { on := 10, ground := Ground.chain }], guard := none }) (v := ?_) rfl (by kernel_rfl) (by kernel_rfl) (by kernel_rfl) (fun _ _ _ h => h) (Or.inl ⟨by rfl, ?_⟩) (by assumption) ?_
        rotate_left
        · (intro w hSw; (try dsimp only at hSw); go_simp; (try with_reducible rfl))
        (try simp only [Act.put, List.setIfInBounds_toArray, List.set_cons_zero, List.set_cons_succ])
        refine wpAnyH_take (i := 16) (oi := { dst := some 33, op := Op.fieldAddr 59 (Operand.tmp 7) 1, type := 0, pos := "ckpt.go:41", after := #[{ on := 15, ground := Ground.guard }], guard := some (15, false) }) (v := undef) rfl (by kernel_rfl) (by kernel_rfl) (by kernel_rfl) (fun _ _ _ h => h) (Or.inr ⟨by rfl, rfl⟩) (by assumption) ?_
        (try simp only [Act.put, List.setIfInBounds_toArray, List.set_cons_zero, List.set_cons_succ])
        refine wpAnyH_take (i := 17) (oi := { dst := some 34, op := Op.load 3 (Operand.tmp 33), type := 3, pos := "ckpt.go:41", after := #[{ on := 16, ground := Ground.data }, { on := 15, ground := Ground.guard }], guard := some (15, false) }) (v := undef) rfl (by kernel_rfl) (by kernel_rfl) (by kernel_rfl) (fun _ _ _ h => h) (Or.inr ⟨by rfl, rfl⟩) (by assumption) ?_
        (try simp only [Act.put, List.setIfInBounds_toArray, List.set_cons_zero, List.set_cons_succ])
        refine wpAnyH_take (i := 18) (oi := { dst := some 35, op := Op.fieldAddr 23 (Operand.tmp 2) 1, type := 0, pos := "ckpt.go:41", after := #[{ on := 15, ground := Ground.guard }], guard := some (15, false) }) (v := undef) rfl (by kernel_rfl) (by kernel_rfl) (by kernel_rfl) (fun _ _ _ h => h) (Or.inr ⟨by rfl, rfl⟩) (by assumption) ?_
        (try simp only [Act.put, List.setIfInBounds_toArray, List.set_cons_zero, List.set_cons_succ])
        refine wpAnyH_take (i := 19) (oi := { dst := some 36, op := Op.load 3 (Operand.tmp 35), type := 3, pos := "ckpt.go:41", after := #[{ on := 18, ground := Ground.data }, { on := 15, ground := Ground.guard }], guard := some (15, false) }) (v := undef) rfl (by kernel_rfl) (by kernel_rfl) (by kernel_rfl) (fun _ _ _ h => h) (Or.inr ⟨by rfl, rfl⟩) (by assumption) ?_
        (try simp only [Act.put, List.setIfInBounds_toArray, List.set_cons_zero, List.set_cons_succ])
        refine wpAnyH_take (i := 20) (oi := { dst := some 37, op := Op.binOp BinOp.geq 3 (Operand.tmp 34) (Operand.tmp 36) 3, type := 4, pos := "ckpt.go:41", after := #[{ on := 17, ground := Ground.data }, { on := 19, ground := Ground.data }, { on := 15, ground := Ground.guard }], guard := some (15, false) }) (v := undef) rfl (by kernel_rfl) (by kernel_rfl) (by kernel_rfl) (fun _ _ _ h => h) (Or.inr ⟨by rfl, rfl⟩) (by assumption) ?_
        (try simp only [Act.put, List.setIfInBounds_toArray, List.set_cons_zero, List.set_cons_succ])
        refine wpAnyH_take (i := 21) (oi := { dst := some 38, op := Op.pick (Operand.tmp 32) (Operand.const (Value.bool true)) (Operand.tmp 37), type := 4, pos := "ckpt.go:41", after := #[{ on := 15, ground := Ground.data }, { on := 20, ground := Ground.data }], guard := none }) (v := ?_) rfl (by kernel_rfl) (by kernel_rfl) (by kernel_rfl) (fun _ _ _ h => h) (Or.inl ⟨by rfl, ?_⟩) (by assumption) ?_
        rotate_left
        · (intro w hSw; (try dsimp only at hSw); go_simp; (try with_reducible rfl))
        (try simp only [Act.put, List.setIfInBounds_toArray, List.set_cons_zero, List.set_cons_succ])
        refine wpAnyH_take (i := 22) (oi := { dst := some 39, op := Op.move (Operand.tmp 38), type := 4, pos := "ckpt.go:41", after := #[{ on := 21, ground := Ground.data }, { on := 15, ground := Ground.chain }], guard := none }) (v := ?_) rfl (by kernel_rfl) (by kernel_rfl) (by kernel_rfl) (fun _ _ _ h => h) (Or.inl ⟨by rfl, ?_⟩) (by assumption) ?_
        rotate_left
        · (intro w hSw; (try dsimp only at hSw); go_simp; (try with_reducible rfl))
        (try simp only [Act.put, List.setIfInBounds_toArray, List.set_cons_zero, List.set_cons_succ])
        refine wpAnyH_take (i := 23) (oi := { dst := some 40, op := Op.move (Operand.tmp 5), type := 3, pos := "ckpt.go:41", after := #[{ on := 22, ground := Ground.guard }], guard := some (22, false) }) (v := undef) rfl (by kernel_rfl) (by kernel_rfl) (by kernel_rfl) (fun _ _ _ h => h) (Or.inr ⟨by rfl, rfl⟩) (by assumption) ?_
        (try simp only [Act.put, List.setIfInBounds_toArray, List.set_cons_zero, List.set_cons_succ])
        refine wpAnyH_take (i := 24) (oi := { dst := some 41, op := Op.binOp BinOp.gtr 3 (Operand.tmp 40) (Operand.const (Value.int IntKind.i64 0)) 3, type := 4, pos := "ckpt.go:41", after := #[{ on := 23, ground := Ground.data }, { on := 22, ground := Ground.guard }], guard := some (22, false) }) (v := undef) rfl (by kernel_rfl) (by kernel_rfl) (by kernel_rfl) (fun _ _ _ h => h) (Or.inr ⟨by rfl, rfl⟩) (by assumption) ?_
        (try simp only [Act.put, List.setIfInBounds_toArray, List.set_cons_zero, List.set_cons_succ])
        refine wpAnyH_take (i := 25) (oi := { dst := some 42, op := Op.move (Operand.tmp 41), type := 4, pos := "ckpt.go:41", after := #[{ on := 24, ground := Ground.data }, { on := 22, ground := Ground.chain }, { on := 22, ground := Ground.guard }], guard := some (22, false) }) (v := undef) rfl (by kernel_rfl) (by kernel_rfl) (by kernel_rfl) (fun _ _ _ h => h) (Or.inr ⟨by rfl, rfl⟩) (by assumption) ?_
        (try simp only [Act.put, List.setIfInBounds_toArray, List.set_cons_zero, List.set_cons_succ])
        refine wpAnyH_take (i := 26) (oi := { dst := some 43, op := Op.move (Operand.tmp 1), type := 25, pos := "ckpt.go:41", after := #[{ on := 25, ground := Ground.guard }], guard := some (25, true) }) (v := undef) rfl (by kernel_rfl) (by kernel_rfl) (by kernel_rfl) (fun _ _ _ h => h) (Or.inr ⟨by rfl, rfl⟩) (by assumption) ?_
        (try simp only [Act.put, List.setIfInBounds_toArray, List.set_cons_zero, List.set_cons_succ])
        refine wpAnyH_take (i := 27) (oi := { dst := some 44, op := Op.move (Operand.tmp 5), type := 3, pos := "ckpt.go:41", after := #[{ on := 25, ground := Ground.guard }], guard := some (25, true) }) (v := undef) rfl (by kernel_rfl) (by kernel_rfl) (by kernel_rfl) (fun _ _ _ h => h) (Or.inr ⟨by rfl, rfl⟩) (by assumption) ?_
        (try simp only [Act.put, List.setIfInBounds_toArray, List.set_cons_zero, List.set_cons_succ])
        refine wpAnyH_take (i := 28) (oi := { dst := some 45, op := Op.binOp BinOp.sub 3 (Operand.tmp 44) (Operand.const (Value.int IntKind.i64 1)) 3, type := 3, pos := "ckpt.go:41", after := #[{ on := 27, ground := Ground.data }, { on := 25, ground := Ground.guard }], guard := some (25, true) }) (v := undef) rfl (by kernel_rfl) (by kernel_rfl) (by kernel_rfl) (fun _ _ _ h => h) (Or.inr ⟨by rfl, rfl⟩) (by assumption) ?_
        (try simp only [Act.put, List.setIfInBounds_toArray, List.set_cons_zero, List.set_cons_succ])
        refine wpAnyH_take (i := 29) (oi := { dst := some 46, op := Op.indexAddr 25 (Operand.tmp 43) (Operand.tmp 45), type := 0, pos := "ckpt.go:41", after := #[{ on := 26, ground := Ground.data }, { on := 28, ground := Ground.data }, { on := 25, ground := Ground.guard }], guard := some (25, true) }) (v := undef) rfl (by kernel_rfl) (by kernel_rfl) (by kernel_rfl) (fun _ _ _ h => h) (Or.inr ⟨by rfl, rfl⟩) (by assumption) ?_
        (try simp only [Act.put, List.setIfInBounds_toArray, List.set_cons_zero, List.set_cons_succ])
        refine wpAnyH_take (i := 30) (oi := { dst := some 47, op := Op.load 88 (Operand.tmp 46), type := 88, pos := "ckpt.go:41", after := #[{ on := 29, ground := Ground.data }, { on := 25, ground := Ground.guard }], guard := some (25, true) }) (v := undef) rfl (by kernel_rfl) (by kernel_rfl) (by kernel_rfl) (fun _ _ _ h => h) (Or.inr ⟨by rfl, rfl⟩) (by assumption) ?_
        (try simp only [Act.put, List.setIfInBounds_toArray, List.set_cons_zero, List.set_cons_succ])
        refine wpAnyH_take (i := 31) (oi := { dst := some 48, op := Op.load 88 (Operand.tmp 6), type := 88, pos := "ckpt.go:41", after := #[{ on := 25, ground := Ground.guard }], guard := some (25, true) }) (v := undef) rfl (by kernel_rfl) (by kernel_rfl) (by kernel_rfl) (fun _ _ _ h => h) (Or.inr ⟨by rfl, rfl⟩) (by assumption) ?_
        (try simp only [Act.put, List.setIfInBounds_toArray, List.set_cons_zero, List.set_cons_succ])
        refine wpAnyH_take (i := 32) (oi := { dst := some 49, op := Op.call { callee := Callee.value (Operand.func 68), args := #[Operand.tmp 47, Operand.tmp 48], argTypes := #[88, 88] }, type := 3, pos := "ckpt.go:41", after := #[{ on := 30, ground := Ground.data }, { on := 31, ground := Ground.data }, { on := 25, ground := Ground.chain }, { on := 25, ground := Ground.guard }], guard := some (25, true) }) (v := undef) rfl (by kernel_rfl) (by kernel_rfl) (by kernel_rfl) (fun _ _ _ h => h) (Or.inr ⟨by rfl, rfl⟩) (by assumption) ?_
        (try simp only [Act.put, List.setIfInBounds_toArray, List.set_cons_zero, List.set_cons_succ])
        refine wpAnyH_take (i := 33) (oi := { dst := some 50, op := Op.binOp BinOp.geq 3 (Operand.tmp 49) (Operand.const (Value.int IntKind.i64 0)) 3, type := 4, pos := "ckpt.go:41", after := #[{ on := 32, ground := Ground.data }, { on := 25, ground := Ground.guard }], guard := some (25, true) }) (v := undef) rfl (by kernel_rfl) (by kernel_rfl) (by kernel_rfl) (fun _ _ _ h => h) (Or.inr ⟨by rfl, rfl⟩) (by assumption) ?_
        (try simp only [Act.put, List.setIfInBounds_toArray, List.set_cons_zero, List.set_cons_succ])
        refine wpAnyH_take (i := 34) (oi := { dst := some 51, op := Op.pick (Operand.tmp 42) (Operand.tmp 50) (Operand.const (Value.bool false)), type := 4, pos := "ckpt.go:41", after := #[{ on := 25, ground := Ground.data }, { on := 33, ground := Ground.data }, { on := 22, ground := Ground.guard }], guard := some (22, false) }) (v := undef) rfl (by kernel_rfl) (by kernel_rfl) (by kernel_rfl) (fun _ _ _ h => h) (Or.inr ⟨by rfl, rfl⟩) (by assumption) ?_
        (try simp only [Act.put, List.setIfInBounds_toArray, List.set_cons_zero, List.set_cons_succ])
        refine wpAnyH_take (i := 35) (oi := { dst := some 52, op := Op.pick (Operand.tmp 39) (Operand.const (Value.bool true)) (Operand.tmp 51), type := 4, pos := "ckpt.go:41", after := #[{ on := 22, ground := Ground.data }, { on := 34, ground := Ground.data }], guard := none }) (v := ?_) rfl (by kernel_rfl) (by kernel_rfl) (by kernel_rfl) (fun _ _ _ h => h) (Or.inl ⟨by rfl, ?_⟩) (by assumption) ?_
        rotate_left
        · (intro w hSw; (try dsimp only at hSw); go_simp; (try with_reducible rfl))
        (try simp only [Act.put, List.setIfInBounds_toArray, List.set_cons_zero, List.set_cons_succ])
        refine wpAnyH_done (by kernel_rfl) ?_ _
        go_wp2
        go_ret
        exact ⟨by rw [HNM.out]; rfl, below_drew HBX.out⟩
      have qt1 : decide (pz < 2) = false := decide_eq_false ht1
      by_cases ht2 : z ≤ pz
      · have qt2 : decide (z ≤ pz) = true := decide_eq_true ht2
        have HNM := Aside0.mk (HNI.out (fun hh => by have h1 := hh.1; have h2 := hh.2.1; have h3 := hh.2.2.1; have h4 := hh.2.2.2; dsimp only at h1 h2 h3 h4; omega))
        clear ht2
        refine wp_region_held_drew (S := fun w' => w'.cell? ⟨g, 0, none⟩ = some (.int .i64 z) ∧ w'.cell? ⟨g, 1, none⟩ = some (.int .i64 zb) ∧ w'.cell? ⟨gp + 1, 0, none⟩ = some (.int .i64 pz) ∧ w'.cell? ⟨gp + 1, 1, none⟩ = some (.int .i64 pk)) (by kernel_rfl) (HM4.out.below (below_drew (Below.refl X.heap.size X))) (fun hHeld => ?_)
        refine wpAnyH_take (i := 0) (oi := { dst := some 17, op := Op.fieldAddr 59 (Operand.tmp 7) 0, type := 0, pos := "ckpt.go:41", after := #[], guard := none }) (v := ?_) rfl (by kernel_rfl) (by kernel_rfl) (by kernel_rfl) (fun _ _ _ h => h) (Or.inl ⟨by rfl, ?_⟩) (by assumption) ?_
        rotate_left
        · (intro w hSw; (try dsimp only at hSw); go_simp; (try with_reducible rfl))
        (try simp only [Act.put, List.setIfInBounds_toArray, List.set_cons_zero, List.set_cons_succ])
        refine wpAnyH_take (i := 1) (oi := { dst := some 18, op := Op.load 3 (Operand.tmp 17), type := 3, pos := "ckpt.go:41", after := #[{ on := 0, ground := Ground.data }], guard := none }) (v := ?_) rfl (by kernel_rfl) (by kernel_rfl) (by kernel_rfl) (fun _ _ _ h => h) (Or.inl ⟨by rfl, ?_⟩) (by assumption) ?_
        rotate_left
        · (intro w hSw; (try dsimp only at hSw); go_simp; (try with_reducible rfl))
        (try simp only [Act.put, List.setIfInBounds_toArray, List.set_cons_zero, List.set_cons_succ])
        refine wpAnyH_take (i := 2) (oi := { dst := some 19, op := Op.binOp BinOp.lss 3 (Operand.tmp 18) (Operand.const (Value.int IntKind.i64 2)) 3, type := 4, pos := "ckpt.go:41", after := #[{ on := 1, ground := Ground.data }], guard := none }) (v := ?_) rfl (by kernel_rfl) (by kernel_rfl) (by kernel_rfl) (fun _ _ _ h => h) (Or.inl ⟨by rfl, ?_⟩) (by assumption) ?_
        rotate_left
        · (intro w hSw; (try dsimp only at hSw); go_simp; (try with_reducible rfl))
        (try simp only [Act.put, List.setIfInBounds_toArray, List.set_cons_zero, List.set_cons_succ])
        refine wpAnyH_take (i := 3) (oi := { dst := some 20, op := Op.move (Operand.tmp 19), type := 4, pos := "ckpt.go:41", after := #[{ on := 2, ground := Ground.data }], guard := none }) (v := ?_) rfl (by kernel_rfl) (by kernel_rfl) (by kernel_rfl) (fun _ _ _ h => h) (Or.inl ⟨by rfl, ?_⟩) (by assumption) ?_
        rotate_left
        · (intro w hSw; (try dsimp only at hSw); go_simp; (try with_reducible rfl))
        (try simp only [Act.put, List.setIfInBounds_toArray, List.set_cons_zero, List.set_cons_succ])
        refine wpAnyH_take (i := 4) (oi := { dst := some 21, op := Op.fieldAddr 59 (Operand.tmp 7) 0, type := 0, pos := "ckpt.go:41", after := #[{ on := 3, ground := Ground.guard }], guard := some (3, false) }) (v := ?_) rfl (by kernel_rfl) (by kernel_rfl) (by kernel_rfl) (fun _ _ _ h => h) (Or.inl ⟨by rfl, ?_⟩) (by assumption) ?_
        rotate_left
        · (intro w hSw; (try dsimp only at hSw); go_simp; (try with_reducible rfl))
        (try simp only [Act.put, List.setIfInBounds_toArray, List.set_cons_zero, List.set_cons_succ])
        refine wpAnyH_take (i := 5) (oi := { dst := some 22, op := Op.load 3 (Operand.tmp 21), type := 3, pos := "ckpt.go:41", after := #[{ on := 4, ground := Ground.data }, { on := 3, ground := Ground.guard }], guard := some (3, false) }) (v := ?_) rfl (by kernel_rfl) (by kernel_rfl) (by kernel_rfl) (fun _ _ _ h => h) (Or.inl ⟨by rfl, ?_⟩) (by assumption) ?_
        rotate_left
        · (intro w hSw; (try dsimp only at hSw); go_simp; (try with_reducible rfl))
        (try simp only [Act.put, List.setIfInBounds_toArray, List.set_cons_zero, List.set_cons_succ])
        refine wpAnyH_take (i := 6) (oi := { dst := some 23, op := Op.fieldAddr 23 (Operand.tmp 2) 0, type := 0, pos := "ckpt.go:41", after := #[{ on := 3, ground := Ground.guard }], guard := some (3, false) }) (v := ?_) rfl (by kernel_rfl) (by kernel_rfl) (by kernel_rfl) (fun _ _ _ h => h) (Or.inl ⟨by rfl, ?_⟩) (by assumption) ?_
        rotate_left
        · (intro w hSw; (try dsimp only at hSw); go_simp; (try with_reducible rfl))
        (try simp only [Act.put, List.setIfInBounds_toArray, List.set_cons_zero, List.set_cons_succ])
        refine wpAnyH_take (i := 7) (oi := { dst := some 24, op := Op.load 3 (Operand.tmp 23), type := 3, pos := "ckpt.go:41", after := #[{ on := 6, ground := Ground.data }, { on := 3, ground := Ground.guard }], guard := some (3, false) }) (v := ?_) rfl (by kernel_rfl) (by kernel_rfl) (by kernel_rfl) (fun _ _ _ h => h) (Or.inl ⟨by rfl, ?_⟩) (by assumption) ?_
        rotate_left
        · (intro w hSw; (try dsimp only at hSw); go_simp; (try with_reducible rfl))
        (try simp only [Act.put, List.setIfInBounds_toArray, List.set_cons_zero, List.set_cons_succ])
        refine wpAnyH_take (i := 8) (oi := { dst := some 25, op := Op.binOp BinOp.geq 3 (Operand.tmp 22) (Operand.tmp 24) 3, type := 4, pos := "ckpt.go:41", after := #[{ on := 5, ground := Ground.data }, { on := 7, ground := Ground.data }, { on := 3, ground := Ground.guard }], guard := some (3, false) }) (v := ?_) rfl (by kernel_rfl) (by kernel_rfl) (by kernel_rfl) (fun _ _ _ h => h) (Or.inl ⟨by rfl, ?_⟩) (by assumption) ?_
        rotate_left
        · (intro w hSw; (try dsimp only at hSw); go_simp; (try with_reducible rfl))
        (try simp only [Act.put, List.setIfInBounds_toArray, List.set_cons_zero, List.set_cons_succ])
        refine wpAnyH_take (i := 9) (oi := { dst := some 26, op := Op.pick (Operand.tmp 20) (Operand.const (Value.bool true)) (Operand.tmp 25), type := 4, pos := "ckpt.go:41", after := #[{ on := 3, ground := Ground.data }, { on := 8, ground := Ground.data }], guard := none }) (v := ?_) rfl (by kernel_rfl) (by kernel_rfl) (by kernel_rfl) (fun _ _ _ h => h) (Or.inl ⟨by rfl, ?_⟩) (by assumption) ?_
        rotate_left
        · (intro w hSw; (try dsimp only at hSw); go_simp; (try with_reducible rfl))
        (try simp only [Act.put, List.setIfInBounds_toArray, List.set_cons_zero, List.set_cons_succ])
        refine wpAnyH_take (i := 10) (oi := { dst := some 27, op := Op.move (Operand.tmp 26), type := 4, pos := "ckpt.go:41", after := #[{ on := 9, ground := Ground.data }, { on := 3, ground := Ground.chain }], guard := none }) (v := ?_) rfl (by kernel_rfl) (by kernel_rfl) (by kernel_rfl) (fun _ _ _ h => h) (Or.inl ⟨by rfl, ?_⟩) (by assumption) ?_
        rotate_left
        · (intro w hSw; (try dsimp only at hSw); go_simp; (try with_reducible rfl))
        (try simp only [Act.put, List.setIfInBounds_toArray, List.set_cons_zero, List.set_cons_succ])
        refine wpAnyH_take (i := 11) (oi := { dst := some 28, op := Op.fieldAddr 59 (Operand.tmp 7) 1, type := 0, pos := "ckpt.go:41", after := #[{ on := 10, ground := Ground.guard }], guard := some (10, false) }) (v := undef) rfl (by kernel_rfl) (by kernel_rfl) (by kernel_rfl) (fun _ _ _ h => h) (Or.inr ⟨by rfl, rfl⟩) (by assumption) ?_
        (try simp only [Act.put, List.setIfInBounds_toArray, List.set_cons_zero, List.set_cons_succ])
        refine wpAnyH_take (i := 12) (oi := { dst := some 29, op := Op.load 3 (Operand.tmp 28), type := 3, pos := "ckpt.go:41", after := #[{ on := 11, ground := Ground.data }, { on := 10, ground := Ground.guard }], guard := some (10, false) }) (v := undef) rfl (by kernel_rfl) (by kernel_rfl) (by kernel_rfl) (fun _ _ _ h => h) (Or.inr ⟨by rfl, rfl⟩) (by assumption) ?_
        (try simp only [Act.put, List.setIfInBounds_toArray, List.set_cons_zero, List.set_cons_succ])
        refine wpAnyH_take (i := 13) (oi := { dst := some 30, op := Op.binOp BinOp.lss 3 (Operand.tmp 29) (Operand.const (Value.int IntKind.i64 0)) 3, type := 4, pos := "ckpt.go:41", after := #[{ on := 12, ground := Ground.data }, { on := 10, ground := Ground.guard }], guard := some (10, false) }) (v := undef) rfl (by kernel_rfl) (by kernel_rfl) (by kernel_rfl) (fun _ _ _ h => h) (Or.inr ⟨by rfl, rfl⟩) (by assumption) ?_
        (try simp only [Act.put, List.setIfInBounds_toArray, List.set_cons_zero, List.set_cons_succ])
        refine wpAnyH_take (i := 14) (oi := { dst := some 31, op := Op.pick (Operand.tmp 27) (Operand.const (Value.bool true)) (Operand.tmp 30), type := 4, pos := "ckpt.go:41", after := #[{ on := 10, ground := Ground.data }, { on := 13, ground := Ground.data }], guard := none }) (v := ?_) rfl (by kernel_rfl) (by kernel_rfl) (by kernel_rfl) (fun _ _ _ h => h) (Or.inl ⟨by rfl, ?_⟩) (by assumption) ?_
        rotate_left
        · (intro w hSw; (try dsimp only at hSw); go_simp; (try with_reducible rfl))
        (try simp only [Act.put, List.setIfInBounds_toArray, List.set_cons_zero, List.set_cons_succ])
        refine wpAnyH_take (i := 15) (oi := { dst := some 32, op := Op.move (Operand.tmp 31), type := 4, pos := "ckpt.go:41", after := #[{ on := 14, ground := Ground.data }, { on := 10, ground := Ground.chain }], guard := none }) (v := ?_) rfl (by kernel_rfl) (by kernel_rfl) (by kernel_rfl) (fun _ _ _ h => h) (Or.inl ⟨by rfl, ?_⟩) (by assumption) ?_
        rotate_left
        · (intro w hSw; (try dsimp only at hSw); go_simp; (try with_reducible rfl))
        (try simp only [Act.put, List.setIfInBounds_toArray, List.set_cons_zero, List.set_cons_succ])
        refine wpAnyH_take (i := 16) (oi := { dst := some 33, op := Op.fieldAddr 59 (Operand.tmp 7) 1, type := 0, pos := "ckpt.go:41", after := #[{ on := 15, ground := Ground.guard }], guard := some (15, false) }) (v := undef) rfl (by kernel_rfl) (by kernel_rfl) (by kernel_rfl) (fun _ _ _ h => h) (Or.inr ⟨by rfl, rfl⟩) (by assumption) ?_
        (try simp only [Act.put, List.setIfInBounds_toArray, List.set_cons_zero, List.set_cons_succ])
        refine wpAnyH_take (i := 17) (oi := { dst := some 34, op := Op.load 3 (Operand.tmp 33), type := 3, pos := "ckpt.go:41", after := #[{ on := 16, ground := Ground.data }, { on := 15, ground := Ground.guard }], guard := some (15, false) }) (v := undef) rfl (by kernel_rfl) (by kernel_rfl) (by kernel_rfl) (fun _ _ _ h => h) (Or.inr ⟨by rfl, rfl⟩) (by assumption) ?_
        (try simp only [Act.put, List.setIfInBounds_toArray, List.set_cons_zero, List.set_cons_succ])
        refine wpAnyH_take (i := 18) (oi := { dst := some 35, op := Op.fieldAddr 23 (Operand.tmp 2) 1, type := 0, pos := "ckpt.go:41", after := #[{ on := 15, ground := Ground.guard }], guard := some (15, false) }) (v := undef) rfl (by kernel_rfl) (by kernel_rfl) (by kernel_rfl) (fun _ _ _ h => h) (Or.inr ⟨by rfl, rfl⟩) (by assumption) ?_
        (try simp only [Act.put, List.setIfInBounds_toArray, List.set_cons_zero, List.set_cons_succ])
        refine wpAnyH_take (i := 19) (oi := { dst := some 36, op := Op.load 3 (Operand.tmp 35), type := 3, pos := "ckpt.go:41", after := #[{ on := 18, ground := Ground.data }, { on := 15, ground := Ground.guard }], guard := some (15, false) }) (v := undef) rfl (by kernel_rfl) (by kernel_rfl) (by kernel_rfl) (fun _ _ _ h => h) (Or.inr ⟨by rfl, rfl⟩) (by assumption) ?_
        (try simp only [Act.put, List.setIfInBounds_toArray, List.set_cons_zero, List.set_cons_succ])
        refine wpAnyH_take (i := 20) (oi := { dst := some 37, op := Op.binOp BinOp.geq 3 (Operand.tmp 34) (Operand.tmp 36) 3, type := 4, pos := "ckpt.go:41", after := #[{ on := 17, ground := Ground.data }, { on := 19, ground := Ground.data }, { on := 15, ground := Ground.guard }], guard := some (15, false) }) (v := undef) rfl (by kernel_rfl) (by kernel_rfl) (by kernel_rfl) (fun _ _ _ h => h) (Or.inr ⟨by rfl, rfl⟩) (by assumption) ?_
        (try simp only [Act.put, List.setIfInBounds_toArray, List.set_cons_zero, List.set_cons_succ])
        refine wpAnyH_take (i := 21) (oi := { dst := some 38, op := Op.pick (Operand.tmp 32) (Operand.const (Value.bool true)) (Operand.tmp 37), type := 4, pos := "ckpt.go:41", after := #[{ on := 15, ground := Ground.data }, { on := 20, ground := Ground.data }], guard := none }) (v := ?_) rfl (by kernel_rfl) (by kernel_rfl) (by kernel_rfl) (fun _ _ _ h => h) (Or.inl ⟨by rfl, ?_⟩) (by assumption) ?_
        rotate_left
        · (intro w hSw; (try dsimp only at hSw); go_simp; (try with_reducible rfl))
        (try simp only [Act.put, List.setIfInBounds_toArray, List.set_cons_zero, List.set_cons_succ])
        refine wpAnyH_take (i := 22) (oi := { dst := some 39, op := Op.move (Operand.tmp 38), type := 4, pos := "ckpt.go:41", after := #[{ on := 21, ground := Ground.data }, { on := 15, ground := Ground.chain }], guard := none }) (v := ?_) rfl (by kernel_rfl) (by kernel_rfl) (by kernel_rfl) (fun _ _ _ h => h) (Or.inl ⟨by rfl, ?_⟩) (by assumption) ?_
        rotate_left
        · (intro w hSw; (try dsimp only at hSw); go_simp; (try with_reducible rfl))
        (try simp only [Act.put, List.setIfInBounds_toArray, List.set_cons_zero, List.set_cons_succ])
        refine wpAnyH_take (i := 23) (oi := { dst := some 40, op := Op.move (Operand.tmp 5), type := 3, pos := "ckpt.go:41", after := #[{ on := 22, ground := Ground.guard }], guard := some (22, false) }) (v := undef) rfl (by kernel_rfl) (by kernel_rfl) (by kernel_rfl) (fun _ _ _ h => h) (Or.inr ⟨by rfl, rfl⟩) (by assumption) ?_
        (try simp only [Act.put, List.setIfInBounds_toArray, List.set_cons_zero, List.set_cons_succ])
        refine wpAnyH_take (i := 24) (oi := { dst := some 41, op := Op.binOp BinOp.gtr 3 (Operand.tmp 40) (Operand.const (Value.int IntKind.i64 0)) 3, type := 4, pos := "ckpt.go:41", after := #[{ on := 23, ground := Ground.data }, { on := 22, ground := Ground.guard }], guard := some (22, false) }) (v := undef) rfl (by kernel_rfl) (by kernel_rfl) (by kernel_rfl) (fun _ _ _ h => h) (Or.inr ⟨by rfl, rfl⟩) (by assumption) ?_
        (try simp only [Act.put, List.setIfInBounds_toArray, List.set_cons_zero, List.set_cons_succ])
        refine wpAnyH_take (i := 25) (oi := { dst := some 42, op := Op.move (Operand.tmp 41), type := 4, pos := "ckpt.go:41", after := #[{ on := 24, ground := Ground.data }, { on := 22, ground := Ground.chain }, { on := 22, ground := Ground.guard }], guard := some (22, false) }) (v := undef) rfl (by kernel_rfl) (by kernel_rfl) (by kernel_rfl) (fun _ _ _ h => h) (Or.inr ⟨by rfl, rfl⟩) (by assumption) ?_
        (try simp only [Act.put, List.setIfInBounds_toArray, List.set_cons_zero, List.set_cons_succ])
        refine wpAnyH_take (i := 26) (oi := { dst := some 43, op := Op.move (Operand.tmp 1), type := 25, pos := "ckpt.go:41", after := #[{ on := 25, ground := Ground.guard }], guard := some (25, true) }) (v := undef) rfl (by kernel_rfl) (by kernel_rfl) (by kernel_rfl) (fun _ _ _ h => h) (Or.inr ⟨by rfl, rfl⟩) (by assumption) ?_
        (try simp only [Act.put, List.setIfInBounds_toArray, List.set_cons_zero, List.set_cons_succ])
        refine wpAnyH_take (i := 27) (oi := { dst := some 44, op := Op.move (Operand.tmp 5), type := 3, pos := "ckpt.go:41", after := #[{ on := 25, ground := Ground.guard }], guard := some (25, true) }) (v := undef) rfl (by kernel_rfl) (by kernel_rfl) (by kernel_rfl) (fun _ _ _ h => h) (Or.inr ⟨by rfl, rfl⟩) (by assumption) ?_
        (try simp only [Act.put, List.setIfInBounds_toArray, List.set_cons_zero, List.set_cons_succ])
        refine wpAnyH_take (i := 28) (oi := { dst := some 45, op := Op.binOp BinOp.sub 3 (Operand.tmp 44) (Operand.const (Value.int IntKind.i64 1)) 3, type := 3, pos := "ckpt.go:41", after := #[{ on := 27, ground := Ground.data }, { on := 25, ground := Ground.guard }], guard := some (25, true) }) (v := undef) rfl (by kernel_rfl) (by kernel_rfl) (by kernel_rfl) (fun _ _ _ h => h) (Or.inr ⟨by rfl, rfl⟩) (by assumption) ?_
        (try simp only [Act.put, List.setIfInBounds_toArray, List.set_cons_zero, List.set_cons_succ])
        refine wpAnyH_take (i := 29) (oi := { dst := some 46, op := Op.indexAddr 25 (Operand.tmp 43) (Operand.tmp 45), type := 0, pos := "ckpt.go:41", after := #[{ on := 26, ground := Ground.data }, { on := 28, ground := Ground.data }, { on := 25, ground := Ground.guard }], guard := some (25, true) }) (v := undef) rfl (by kernel_rfl) (by kernel_rfl) (by kernel_rfl) (fun _ _ _ h => h) (Or.inr ⟨by rfl, rfl⟩) (by assumption) ?_
        (try simp only [Act.put, List.setIfInBounds_toArray, List.set_cons_zero, List.set_cons_succ])
        refine wpAnyH_take (i := 30) (oi := { dst := some 47, op := Op.load 88 (Operand.tmp 46), type := 88, pos := "ckpt.go:41", after := #[{ on := 29, ground := Ground.data }, { on := 25, ground := Ground.guard }], guard := some (25, true) }) (v := undef) rfl (by kernel_rfl) (by kernel_rfl) (by kernel_rfl) (fun _ _ _ h => h) (Or.inr ⟨by rfl, rfl⟩) (by assumption) ?_
        (try simp only [Act.put, List.setIfInBounds_toArray, List.set_cons_zero, List.set_cons_succ])
        refine wpAnyH_take (i := 31) (oi := { dst := some 48, op := Op.load 88 (Operand.tmp 6), type := 88, pos := "ckpt.go:41", after := #[{ on := 25, ground := Ground.guard }], guard := some (25, true) }) (v := undef) rfl (by kernel_rfl) (by kernel_rfl) (by kernel_rfl) (fun _ _ _ h => h) (Or.inr ⟨by rfl, rfl⟩) (by assumption) ?_
        (try simp only [Act.put, List.setIfInBounds_toArray, List.set_cons_zero, List.set_cons_succ])
        refine wpAnyH_take (i := 32) (oi := { dst := some 49, op := Op.call { callee := Callee.value (Operand.func 68), args := #[Operand.tmp 47, Operand.tmp 48], argTypes := #[88, 88] }, type := 3, pos := "ckpt.go:41", after := #[{ on := 30, ground := Ground.data }, { on := 31, ground := Ground.data }, { on := 25, ground := Ground.chain }, { on := 25, ground := Ground.guard }], guard := some (25, true) }) (v := undef) rfl (by kernel_rfl) (by kernel_rfl) (by kernel_rfl) (fun _ _ _ h => h) (Or.inr ⟨by rfl, rfl⟩) (by assumption) ?_
        (try simp only [Act.put, List.setIfInBounds_toArray, List.set_cons_zero, List.set_cons_succ])
        refine wpAnyH_take (i := 33) (oi := { dst := some 50, op := Op.binOp BinOp.geq 3 (Operand.tmp 49) (Operand.const (Value.int IntKind.i64 0)) 3, type := 4, pos := "ckpt.go:41", after := #[{ on := 32, ground := Ground.data }, { on := 25, ground := Ground.guard }], guard := some (25, true) }) (v := undef) rfl (by kernel_rfl) (by kernel_rfl) (by kernel_rfl) (fun _ _ _ h => h) (Or.inr ⟨by rfl, rfl⟩) (by assumption) ?_
        (try simp only [Act.put, List.setIfInBounds_toArray, List.set_cons_zero, List.set_cons_succ])
        refine wpAnyH_take (i := 34) (oi := { dst := some 51, op := Op.pick (Operand.tmp 42) (Operand.tmp 50) (Operand.const (Value.bool false)), type := 4, pos := "ckpt.go:41", after := #[{ on := 25, ground := Ground.data }, { on := 33, ground := Ground.data }, { on := 22, ground := Ground.guard }], guard := some (22, false) }) (v := undef) rfl (by kernel_rfl) (by kernel_rfl) (by kernel_rfl) (fun _ _ _ h => h) (Or.inr ⟨by rfl, rfl⟩) (by assumption) ?_
        (try simp only [Act.put, List.setIfInBounds_toArray, List.set_cons_zero, List.set_cons_succ])
        refine wpAnyH_take (i := 35) (oi := { dst := some 52, op := Op.pick (Operand.tmp 39) (Operand.const (Value.bool true)) (Operand.tmp 51), type := 4, pos := "ckpt.go:41", after := #[{ on := 22, ground := Ground.data }, { on := 34, ground := Ground.data }], guard := none }) (v := ?_) rfl (by kernel_rfl) (by kernel_rfl) (by kernel_rfl) (fun _ _ _ h => h) (Or.inl ⟨by rfl, ?_⟩) (by assumption) ?_
        rotate_left
        · (intro w hSw; (try dsimp only at hSw); go_simp; (try with_reducible rfl))
        (try simp only [Act.put, List.setIfInBounds_toArray, List.set_cons_zero, List.set_cons_succ])
        refine wpAnyH_done (by kernel_rfl) ?_ _
        go_wp2
        go_ret
        exact ⟨by rw [HNM.out]; rfl, below_drew HBX.out⟩
      have qt2 : decide (z ≤ pz) = false := decide_eq_false ht2
      by_cases ht3 : pk < 0
      · have qt3 : decide (pk < 0) = true := decide_eq_true ht3
        have HNM := Aside0.mk (HNI.out (fun hh => by have h1 := hh.1; have h2 := hh.2.1; have h3 := hh.2.2.1; have h4 := hh.2.2.2; dsimp only at h1 h2 h3 h4; omega))
        clear ht3
        refine wp_region_held_drew (S := fun w' => w'.cell? ⟨g, 0, none⟩ = some (.int .i64 z) ∧ w'.cell? ⟨g, 1, none⟩ = some (.int .i64 zb) ∧ w'.cell? ⟨gp + 1, 0, none⟩ = some (.int .i64 pz) ∧ w'.cell? ⟨gp + 1, 1, none⟩ = some (.int .i64 pk)) (by kernel_rfl) (HM4.out.below (below_drew (Below.refl X.heap.size X))) (fun hHeld => ?_)
        refine wpAnyH_take (i := 0) (oi := { dst := some 17, op := Op.fieldAddr 59 (Operand.tmp 7) 0, type := 0, pos := "ckpt.go:41", after := #[], guard := none }) (v := ?_) rfl (by kernel_rfl) (by kernel_rfl) (by kernel_rfl) (fun _ _ _ h => h) (Or.inl ⟨by rfl, ?_⟩) (by assumption) ?_
        rotate_left
        · (intro w hSw; (try dsimp only at hSw); go_simp; (try with_reducible rfl))
        (try simp only [Act.put, List.setIfInBounds_toArray, List.set_cons_zero, List.set_cons_succ])
        refine wpAnyH_take (i := 1) (oi := { dst := some 18, op := Op.load 3 (Operand.tmp 17), type := 3, pos := "ckpt.go:41", after := #[{ on := 0, ground := Ground.data }], guard := none }) (v := ?_) rfl (by kernel_rfl) (by kernel_rfl) (by kernel_rfl) (fun _ _ _ h => h) (Or.inl ⟨by rfl, ?_⟩) (by assumption) ?_
        rotate_left
        · (intro w hSw; (try dsimp only at hSw); go_simp; (try with_reducible rfl))
        (try simp only [Act.put, List.setIfInBounds_toArray, List.set_cons_zero, List.set_cons_succ])
        refine wpAnyH_take (i := 2) (oi := { dst := some 19, op := Op.binOp BinOp.lss 3 (Operand.tmp 18) (Operand.const (Value.int IntKind.i64 2)) 3, type := 4, pos := "ckpt.go:41", after := #[{ on := 1, ground := Ground.data }], guard := none }) (v := ?_) rfl (by kernel_rfl) (by kernel_rfl) (by kernel_rfl) (fun _ _ _ h => h) (Or.inl ⟨by rfl, ?_⟩) (by assumption) ?_
        rotate_left
        · (intro w hSw; (try dsimp only at hSw); go_simp; (try with_reducible rfl))
        (try simp only [Act.put, List.setIfInBounds_toArray, List.set_cons_zero, List.set_cons_succ])
        refine wpAnyH_take (i := 3) (oi := { dst := some 20, op := Op.move (Operand.tmp 19), type := 4, pos := "ckpt.go:41", after := #[{ on := 2, ground := Ground.data }], guard := none }) (v := ?_) rfl (by kernel_rfl) (by kernel_rfl) (by kernel_rfl) (fun _ _ _ h => h) (Or.inl ⟨by rfl, ?_⟩) (by assumption) ?_
        rotate_left
        · (intro w hSw; (try dsimp only at hSw); go_simp; (try with_reducible rfl))
        (try simp only [Act.put, List.setIfInBounds_toArray, List.set_cons_zero, List.set_cons_succ])
        refine wpAnyH_take (i := 4) (oi := { dst := some 21, op := Op.fieldAddr 59 (Operand.tmp 7) 0, type := 0, pos := "ckpt.go:41", after := #[{ on := 3, ground := Ground.guard }], guard := some (3, false) }) (v := ?_) rfl (by kernel_rfl) (by kernel_rfl) (by kernel_rfl) (fun _ _ _ h => h) (Or.inl ⟨by rfl, ?_⟩) (by assumption) ?_
        rotate_left
        · (intro w hSw; (try dsimp only at hSw); go_simp; (try with_reducible rfl))
        (try simp only [Act.put, List.setIfInBounds_toArray, List.set_cons_zero, List.set_cons_succ])
        refine wpAnyH_take (i := 5) (oi := { dst := some 22, op := Op.load 3 (Operand.tmp 21), type := 3, pos := "ckpt.go:41", after := #[{ on := 4, ground := Ground.data }, { on := 3, ground := Ground.guard }], guard := some (3, false) }) (v := ?_) rfl (by kernel_rfl) (by kernel_rfl) (by kernel_rfl) (fun _ _ _ h => h) (Or.inl ⟨by rfl, ?_⟩) (by assumption) ?_
        rotate_left
        · (intro w hSw; (try dsimp only at hSw); go_simp; (try with_reducible rfl))
        (try simp only [Act.put, List.setIfInBounds_toArray, List.set_cons_zero, List.set_cons_succ])
        refine wpAnyH_take (i := 6) (oi := { dst := some 23, op := Op.fieldAddr 23 (Operand.tmp 2) 0, type := 0, pos := "ckpt.go:41", after := #[{ on := 3, ground := Ground.guard }], guard := some (3, false) }) (v := ?_) rfl (by kernel_rfl) (by kernel_rfl) (by kernel_rfl) (fun _ _ _ h => h) (Or.inl ⟨by rfl, ?_⟩) (by assumption) ?_
        rotate_left
        · (intro w hSw; (try dsimp only at hSw); go_simp; (try with_reducible rfl))
        (try simp only [Act.put, List.setIfInBounds_toArray, List.set_cons_zero, List.set_cons_succ])
        refine wpAnyH_take (i := 7) (oi := { dst := some 24, op := Op.load 3 (Operand.tmp 23), type := 3, pos := "ckpt.go:41", after := #[{ on := 6, ground := Ground.data }, { on := 3, ground := Ground.guard }], guard := some (3, false) }) (v := ?_) rfl (by kernel_rfl) (by kernel_rfl) (by kernel_rfl) (fun _ _ _ h => h) (Or.inl ⟨by rfl, ?_⟩) (by assumption) ?_
        rotate_left
        · (intro w hSw; (try dsimp only at hSw); go_simp; (try with_reducible rfl))
        (try simp only [Act.put, List.setIfInBounds_toArray, List.set_cons_zero, List.set_cons_succ])
        refine wpAnyH_take (i := 8) (oi := { dst := some 25, op := Op.binOp BinOp.geq 3 (Operand.tmp 22) (Operand.tmp 24) 3, type := 4, pos := "ckpt.go:41", after := #[{ on := 5, ground := Ground.data }, { on := 7, ground := Ground.data }, { on := 3, ground := Ground.guard }], guard := some (3, false) }) (v := ?_) rfl (by kernel_rfl) (by kernel_rfl) (by kernel_rfl) (fun _ _ _ h => h) (Or.inl ⟨by rfl, ?_⟩) (by assumption) ?_
        rotate_left
        · (intro w hSw; (try dsimp only at hSw); go_simp; (try with_reducible rfl))
        (try simp only [Act.put, List.setIfInBounds_toArray, List.set_cons_zero, List.set_cons_succ])
        refine wpAnyH_take (i := 9) (oi := { dst := some 26, op := Op.pick (Operand.tmp 20) (Operand.const (Value.bool true)) (Operand.tmp 25), type := 4, pos := "ckpt.go:41", after := #[{ on := 3, ground := Ground.data }, { on := 8, ground := Ground.data }], guard := none }) (v := ?_) rfl (by kernel_rfl) (by kernel_rfl) (by kernel_rfl) (fun _ _ _ h => h) (Or.inl ⟨by rfl, ?_⟩) (by assumption) ?_
        rotate_left
        · (intro w hSw; (try dsimp only at hSw); go_simp; (try with_reducible rfl))
        (try simp only [Act.put, List.setIfInBounds_toArray, List.set_cons_zero, List.set_cons_succ])
        refine wpAnyH_take (i := 10) (oi := { dst := some 27, op := Op.move (Operand.tmp 26), type := 4, pos := "ckpt.go:41", after := #[{ on := 9, ground := Ground.data }, { on := 3, ground := Ground.chain }], guard := none }) (v := ?_) rfl (by kernel_rfl) (by kernel_rfl) (by kernel_rfl) (fun _ _ _ h => h) (Or.inl ⟨by rfl, ?_⟩) (by assumption) ?_
        rotate_left
        · (intro w hSw; (try dsimp only at hSw); go_simp; (try with_reducible rfl))
        (try simp only [Act.put, List.setIfInBounds_toArray, List.set_cons_zero, List.set_cons_succ])
        refine wpAnyH_take (i := 11) (oi := { dst := some 28, op := Op.fieldAddr 59 (Operand.tmp 7) 1, type := 0, pos := "ckpt.go:41", after := #[{ on := 10, ground := Ground.guard }], guard := some (10, false) }) (v := ?_) rfl (by kernel_rfl) (by kernel_rfl) (by kernel_rfl) (fun _ _ _ h => h) (Or.inl ⟨by rfl, ?_⟩) (by assumption) ?_
        rotate_left
        · (intro w hSw; (try dsimp only at hSw); go_simp; (try with_reducible rfl))
        (try simp only [Act.put, List.setIfInBounds_toArray, List.set_cons_zero, List.set_cons_succ])
        refine wpAnyH_take (i := 12) (oi := { dst := some 29, op := Op.load 3 (Operand.tmp 28), type := 3, pos := "ckpt.go:41", after := #[{ on := 11, ground := Ground.data }, { on := 10, ground := Ground.guard }], guard := some (10, false) }) (v := ?_) rfl (by kernel_rfl) (by kernel_rfl) (by kernel_rfl) (fun _ _ _ h => h) (Or.inl ⟨by rfl, ?_⟩) (by assumption) ?_
        rotate_left
        · (intro w hSw; (try dsimp only at hSw); go_simp; (try with_reducible rfl))
        (try simp only [Act.put, List.setIfInBounds_toArray, List.set_cons_zero, List.set_cons_succ])
        refine wpAnyH_take (i := 13) (oi := { dst := some 30, op := Op.binOp BinOp.lss 3 (Operand.tmp 29) (Operand.const (Value.int IntKind.i64 0)) 3, type := 4, pos := "ckpt.go:41", after := #[{ on := 12, ground := Ground.data }, { on := 10, ground := Ground.guard }], guard := some (10, false) }) (v := ?_) rfl (by kernel_rfl) (by kernel_rfl) (by kernel_rfl) (fun _ _ _ h => h) (Or.inl ⟨by rfl, ?_⟩) (by assumption) ?_
        rotate_left
        · (intro w hSw; (try dsimp only at hSw); go_simp; (try with_reducible rfl))
        (try simp only [Act.put, List.setIfInBounds_toArray, List.set_cons_zero, List.set_cons_succ])
        refine wpAnyH_take (i := 14) (oi := { dst := some 31, op := Op.pick (Operand.tmp 27) (Operand.const (Value.bool true)) (Operand.tmp 30), type := 4, pos := "ckpt.go:41", after := #[{ on := 10, ground := Ground.data }, { on := 13, ground := Ground.data }], guard := none }) (v := ?_) rfl (by kernel_rfl) (by kernel_rfl) (by kernel_rfl) (fun _ _ _ h => h) (Or.inl ⟨by rfl, ?_⟩) (by assumption) ?_
        rotate_left
        · (intro w hSw; (try dsimp only at hSw); go_simp; (try with_reducible rfl))
        (try simp only [Act.put, List.setIfInBounds_toArray, List.set_cons_zero, List.set_cons_succ])
        refine wpAnyH_take (i := 15) (oi := { dst := some 32, op := Op.move (Operand.tmp 31), type := 4, pos := "ckpt.go:41", after := #[{ on := 14, ground := Ground.data }, { on := 10, ground := Ground.chain }], guard := none }) (v := ?_) rfl (by kernel_rfl) (by kernel_rfl) (by kernel_rfl) (fun _ _ _ h => h) (Or.inl ⟨by rfl, ?_⟩) (by assumption) ?_
        rotate_left
        · (intro w hSw; (try dsimp only at hSw); go_simp; (try with_reducible rfl))
        (try simp only [Act.put, List.setIfInBounds_toArray, List.set_cons_zero, List.set_cons_succ])
        refine wpAnyH_take (i := 16) (oi := { dst := some 33, op := Op.fieldAddr 59 (Operand.tmp 7) 1, type := 0, pos := "ckpt.go:41", after := #[{ on := 15, ground := Ground.guard }], guard := some (15, false) }) (v := undef) rfl (by kernel_rfl) (by kernel_rfl) (by kernel_rfl) (fun _ _ _ h => h) (Or.inr ⟨by rfl, rfl⟩) (by assumption) ?_
        (try simp only [Act.put, List.setIfInBounds_toArray, List.set_cons_zero, List.set_cons_succ])
        refine wpAnyH_take (i := 17) (oi := { dst := some 34, op := Op.load 3 (Operand.tmp 33), type := 3, pos := "ckpt.go:41", after := #[{ on := 16, ground := Ground.data }, { on := 15, ground := Ground.guard }], guard := some (15, false) }) (v := undef) rfl (by kernel_rfl) (by kernel_rfl) (by kernel_rfl) (fun _ _ _ h => h) (Or.inr ⟨by rfl, rfl⟩) (by assumption) ?_
        (try simp only [Act.put, List.setIfInBounds_toArray, List.set_cons_zero, List.set_cons_succ])
        refine wpAnyH_take (i := 18) (oi := { dst := some 35, op := Op.fieldAddr 23 (Operand.tmp 2) 1, type := 0, pos := "ckpt.go:41", after := #[{ on := 15, ground := Ground.guard }], guard := some (15, false) }) (v := undef) rfl (by kernel_rfl) (by kernel_rfl) (by kernel_rfl) (fun _ _ _ h => h) (Or.inr ⟨by rfl, rfl⟩) (by assumption) ?_
        (try simp only [Act.put, List.setIfInBounds_toArray, List.set_cons_zero, List.set_cons_succ])
        refine wpAnyH_take (i := 19) (oi := { dst := some 36, op := Op.load 3 (Operand.tmp 35), type := 3, pos := "ckpt.go:41", after := #[{ on := 18, ground := Ground.data }, { on := 15, ground := Ground.guard }], guard := some (15, false) }) (v := undef) rfl (by kernel_rfl) (by kernel_rfl) (by kernel_rfl) (fun _ _ _ h => h) (Or.inr ⟨by rfl, rfl⟩) (by assumption) ?_
        (try simp only [Act.put, List.setIfInBounds_toArray, List.set_cons_zero, List.set_cons_succ])
        refine wpAnyH_take (i := 20) (oi := { dst := some 37, op := Op.binOp BinOp.geq 3 (Operand.tmp 34) (Operand.tmp 36) 3, type := 4, pos := "ckpt.go:41", after := #[{ on := 17, ground := Ground.data }, { on := 19, ground := Ground.data }, { on := 15, ground := Ground.guard }], guard := some (15, false) }) (v := undef) rfl (by kernel_rfl) (by kernel_rfl) (by kernel_rfl) (fun _ _ _ h => h) (Or.inr ⟨by rfl, rfl⟩) (by assumption) ?_
        (try simp only [Act.put, List.setIfInBounds_toArray, List.set_cons_zero, List.set_cons_succ])
        refine wpAnyH_take (i := 21) (oi := { dst := some 38, op := Op.pick (Operand.tmp 32) (Operand.const (Value.bool true)) (Operand.tmp 37), type := 4, pos := "ckpt.go:41", after := #[{ on := 15, ground := Ground.data }, { on := 20, ground := Ground.data }], guard := none }) (v := ?_) rfl (by kernel_rfl) (by kernel_rfl) (by kernel_rfl) (fun _ _ _ h => h) (Or.inl ⟨by rfl, ?_⟩) (by assumption) ?_
        rotate_left
        · (intro w hSw; (try dsimp only at hSw); go_simp; (try with_reducible rfl))
        (try simp only [Act.put, List.setIfInBounds_toArray, List.set_cons_zero, List.set_cons_succ])
        refine wpAnyH_take (i := 22) (oi := { dst := some 39, op := Op.move (Operand.tmp 38), type := 4, pos := "ckpt.go:41", after := #[{ on := 21, ground := Ground.data }, { on := 15, ground := Ground.chain }], guard := none }) (v := ?_) rfl (by kernel_rfl) (by kernel_rfl) (by kernel_rfl) (fun _ _ _ h => h) (Or.inl ⟨by rfl, ?_⟩) (by assumption) ?_
        rotate_left
        · (intro w hSw; (try dsimp only at hSw); go_simp; (try with_reducible rfl))
        (try simp only [Act.put, List.setIfInBounds_toArray, List.set_cons_zero, List.set_cons_succ])
        refine wpAnyH_take (i := 23) (oi := { dst := some 40, op := Op.move (Operand.tmp 5), type := 3, pos := "ckpt.go:41", after := #[{ on := 22, ground := Ground.guard }], guard := some (22, false) }) (v := undef) rfl (by kernel_rfl) (by kernel_rfl) (by kernel_rfl) (fun _ _ _ h => h) (Or.inr ⟨by rfl, rfl⟩) (by assumption) ?_
        (try simp only [Act.put, List.setIfInBounds_toArray, List.set_cons_zero, List.set_cons_succ])
        refine wpAnyH_take (i := 24) (oi := { dst := some 41, op := Op.binOp BinOp.gtr 3 (Operand.tmp 40) (Operand.const (Value.int IntKind.i64 0)) 3, type := 4, pos := "ckpt.go:41", after := #[{ on := 23, ground := Ground.data }, { on := 22, ground := Ground.guard }], guard := some (22, false) }) (v := undef) rfl (by kernel_rfl) (by kernel_rfl) (by kernel_rfl) (fun _ _ _ h => h) (Or.inr ⟨by rfl, rfl⟩) (by assumption) ?_
        (try simp only [Act.put, List.setIfInBounds_toArray, List.set_cons_zero, List.set_cons_succ])
        refine wpAnyH_take (i := 25) (oi := { dst := some 42, op := Op.move (Operand.tmp 41), type := 4, pos := "ckpt.go:41", after := #[{ on := 24, ground := Ground.data }, { on := 22, ground := Ground.chain }, { on := 22, ground := Ground.guard }], guard := some (22, false) }) (v := undef) rfl (by kernel_rfl) (by kernel_rfl) (by kernel_rfl) (fun _ _ _ h => h) (Or.inr ⟨by rfl, rfl⟩) (by assumption) ?_
        (try simp only [Act.put, List.setIfInBounds_toArray, List.set_cons_zero, List.set_cons_succ])
        refine wpAnyH_take (i := 26) (oi := { dst := some 43, op := Op.move (Operand.tmp 1), type := 25, pos := "ckpt.go:41", after := #[{ on := 25, ground := Ground.guard }], guard := some (25, true) }) (v := undef) rfl (by kernel_rfl) (by kernel_rfl) (by kernel_rfl) (fun _ _ _ h => h) (Or.inr ⟨by rfl, rfl⟩) (by assumption) ?_
        (try simp only [Act.put, List.setIfInBounds_toArray, List.set_cons_zero, List.set_cons_succ])
        refine wpAnyH_take (i := 27) (oi := { dst := some 44, op := Op.move (Operand.tmp 5), type := 3, pos := "ckpt.go:41", after := #[{ on := 25, ground := Ground.guard }], guard := some (25, true) }) (v := undef) rfl (by kernel_rfl) (by kernel_rfl) (by kernel_rfl) (fun _ _ _ h => h) (Or.inr ⟨by rfl, rfl⟩) (by assumption) ?_
        (try simp only [Act.put, List.setIfInBounds_toArray, List.set_cons_zero, List.set_cons_succ])
        refine wpAnyH_take (i := 28) (oi := { dst := some 45, op := Op.binOp BinOp.sub 3 (Operand.tmp 44) (Operand.const (Value.int IntKind.i64 1)) 3, type := 3, pos := "ckpt.go:41", after := #[{ on := 27, ground := Ground.data }, { on := 25, ground := Ground.guard }], guard := some (25, true) }) (v := undef) rfl (by kernel_rfl) (by kernel_rfl) (by kernel_rfl) (fun _ _ _ h => h) (Or.inr ⟨by rfl, rfl⟩) (by assumption) ?_
        (try simp only [Act.put, List.setIfInBounds_toArray, List.set_cons_zero, List.set_cons_succ])
        refine wpAnyH_take (i := 29) (oi := { dst := some 46, op := Op.indexAddr 25 (Operand.tmp 43) (Operand.tmp 45), type := 0, pos := "ckpt.go:41", after := #[{ on := 26, ground := Ground.data }, { on := 28, ground := Ground.data }, { on := 25, ground := Ground.guard }], guard := some (25, true) }) (v := undef) rfl (by kernel_rfl) (by kernel_rfl) (by kernel_rfl) (fun _ _ _ h => h) (Or.inr ⟨by rfl, rfl⟩) (by assumption) ?_
        (try simp only [Act.put, List.setIfInBounds_toArray, List.set_cons_zero, List.set_cons_succ])
        refine wpAnyH_take (i := 30) (oi := { dst := some 47, op := Op.load 88 (Operand.tmp 46), type := 88, pos := "ckpt.go:41", after := #[{ on := 29, ground := Ground.data }, { on := 25, ground := Ground.guard }], guard := some (25, true) }) (v := undef) rfl (by kernel_rfl) (by kernel_rfl) (by kernel_rfl) (fun _ _ _ h => h) (Or.inr ⟨by rfl, rfl⟩) (by assumption) ?_
        (try simp only [Act.put, List.setIfInBounds_toArray, List.set_cons_zero, List.set_cons_succ])
        refine wpAnyH_take (i := 31) (oi := { dst := some 48, op := Op.load 88 (Operand.tmp 6), type := 88, pos := "ckpt.go:41", after := #[{ on := 25, ground := Ground.guard }], guard := some (25, true) }) (v := undef) rfl (by kernel_rfl) (by kernel_rfl) (by kernel_rfl) (fun _ _ _ h => h) (Or.inr ⟨by rfl, rfl⟩) (by assumption) ?_
        (try simp only [Act.put, List.setIfInBounds_toArray, List.set_cons_zero, List.set_cons_succ])
        refine wpAnyH_take (i := 32) (oi := { dst := some 49, op := Op.call { callee := Callee.value (Operand.func 68), args := #[Operand.tmp 47, Operand.tmp 48], argTypes := #[88, 88] }, type := 3, pos := "ckpt.go:41", after := #[{ on := 30, ground := Ground.data }, { on := 31, ground := Ground.data }, { on := 25, ground := Ground.chain }, { on := 25, ground := Ground.guard }], guard := some (25, true) }) (v := undef) rfl (by kernel_rfl) (by kernel_rfl) (by kernel_rfl) (fun _ _ _ h => h) (Or.inr ⟨by rfl, rfl⟩) (by assumption) ?_
        (try simp only [Act.put, List.setIfInBounds_toArray, List.set_cons_zero, List.set_cons_succ])
        refine wpAnyH_take (i := 33) (oi := { dst := some 50, op := Op.binOp BinOp.geq 3 (Operand.tmp 49) (Operand.const (Value.int IntKind.i64 0)) 3, type := 4, pos := "ckpt.go:41", after := #[{ on := 32, ground := Ground.data }, { on := 25, ground := Ground.guard }], guard := some (25, true) }) (v := undef) rfl (by kernel_rfl) (by kernel_rfl) (by kernel_rfl) (fun _ _ _ h => h) (Or.inr ⟨by rfl, rfl⟩) (by assumption) ?_
        (try simp only [Act.put, List.setIfInBounds_toArray, List.set_cons_zero, List.set_cons_succ])
        refine wpAnyH_take (i := 34) (oi := { dst := some 51, op := Op.pick (Operand.tmp 42) (Operand.tmp 50) (Operand.const (Value.bool false)), type := 4, pos := "ckpt.go:41", after := #[{ on := 25, ground := Ground.data }, { on := 33, ground := Ground.data }, { on := 22, ground := Ground.guard }], guard := some (22, false) }) (v := undef) rfl (by kernel_rfl) (by kernel_rfl) (by kernel_rfl) (fun _ _ _ h => h) (Or.inr ⟨by rfl, rfl⟩) (by assumption) ?_
        (try simp only [Act.put, List.setIfInBounds_toArray, List.set_cons_zero, List.set_cons_succ])
        refine wpAnyH_take (i := 35) (oi := { dst := some 52, op := Op.pick (Operand.tmp 39) (Operand.const (Value.bool true)) (Operand.tmp 51), type := 4, pos := "ckpt.go:41", after := #[{ on := 22, ground := Ground.data }, { on := 34, ground := Ground.data }], guard := none }) (v := ?_) rfl (by kernel_rfl) (by kernel_rfl) (by kernel_rfl) (fun _ _ _ h => h) (Or.inl ⟨by rfl, ?_⟩) (by assumption) ?_
        rotate_left
        · (intro w hSw; (try dsimp only at hSw); go_simp; (try with_reducible rfl))
        (try simp only [Act.put, List.setIfInBounds_toArray, List.set_cons_zero, List.set_cons_succ])
        refine wpAnyH_done (by kernel_rfl) ?_ _
        go_wp2
        go_ret
        exact ⟨by rw [HNM.out]; rfl, below_drew HBX.out⟩
      have qt3 : decide (pk < 0) = false := decide_eq_false ht3
      by_cases ht4 : zb ≤ pk
      · have qt4 : decide (zb ≤ pk) = true := decide_eq_true ht4
        have HNM := Aside0.mk (HNI.out (fun hh => by have h1 := hh.1; have h2 := hh.2.1; have h3 := hh.2.2.1; have h4 := hh.2.2.2; dsimp only at h1 h2 h3 h4; omega))
        clear ht4
        refine wp_region_held_drew (S := fun w' => w'.cell? ⟨g, 0, none⟩ = some (.int .i64 z) ∧ w'.cell? ⟨g, 1, none⟩ = some (.int .i64 zb) ∧ w'.cell? ⟨gp + 1, 0, none⟩ = some (.int .i64 pz) ∧ w'.cell? ⟨gp + 1, 1, none⟩ = some (.int .i64 pk)) (by kernel_rfl) (HM4.out.below (below_drew (Below.refl X.heap.size X))) (fun hHeld => ?_)
        refine wpAnyH_take (i := 0) (oi := { dst := some 17, op := Op.fieldAddr 59 (Operand.tmp 7) 0, type := 0, pos := "ckpt.go:41", after := #[], guard := none }) (v := ?_) rfl (by kernel_rfl) (by kernel_rfl) (by kernel_rfl) (fun _ _ _ h => h) (Or.inl ⟨by rfl, ?_⟩) (by assumption) ?_
        rotate_left
        · (intro w hSw; (try dsimp only at hSw); go_simp; (try with_reducible rfl))
        (try simp only [Act.put, List.setIfInBounds_toArray, List.set_cons_zero, List.set_cons_succ])
        refine wpAnyH_take (i := 1) (oi := { dst := some 18, op := Op.load 3 (Operand.tmp 17), type := 3, pos := "ckpt.go:41", after := #[{ on := 0, ground := Ground.data }], guard := none }) (v := ?_) rfl (by kernel_rfl) (by kernel_rfl) (by kernel_rfl) (fun _ _ _ h => h) (Or.inl ⟨by rfl, ?_⟩) (by assumption) ?_
        rotate_left
        · (intro w hSw; (try dsimp only at hSw); go_simp; (try with_reducible rfl))
        (try simp only [Act.put, List.setIfInBounds_toArray, List.set_cons_zero, List.set_cons_succ])
        refine wpAnyH_take (i := 2) (oi := { dst := some 19, op := Op.binOp BinOp.lss 3 (Operand.tmp 18) (Operand.const (Value.int IntKind.i64 2)) 3, type := 4, pos := "ckpt.go:41", after := #[{ on := 1, ground := Ground.data }], guard := none }) (v := ?_) rfl (by kernel_rfl) (by kernel_rfl) (by kernel_rfl) (fun _ _ _ h => h) (Or.inl ⟨by rfl, ?_⟩) (by assumption) ?_
        rotate_left
        · (intro w hSw; (try dsimp only at hSw); go_simp; (try with_reducible rfl))
        (try simp only [Act.put, List.setIfInBounds_toArray, List.set_cons_zero, List.set_cons_succ])
        refine wpAnyH_take (i := 3) (oi := { dst := some 20, op := Op.move (Operand.tmp 19), type := 4, pos := "ckpt.go:41", after := #[{ on := 2, ground := Ground.data }], guard := none }) (v := ?_) rfl (by kernel_rfl) (by kernel_rfl) (by kernel_rfl) (fun _ _ _ h => h) (Or.inl ⟨by rfl, ?_⟩) (by assumption) ?_
        rotate_left
        · (intro w hSw; (try dsimp only at hSw); go_simp; (try with_reducible rfl))
        (try simp only [Act.put, List.setIfInBounds_toArray, List.set_cons_zero, List.set_cons_succ])
        refine wpAnyH_take (i := 4) (oi := { dst := some 21, op := Op.fieldAddr 59 (Operand.tmp 7) 0, type := 0, pos := "ckpt.go:41", after := #[{ on := 3, ground := Ground.guard }], guard := some (3, false) }) (v := ?_) rfl (by kernel_rfl) (by kernel_rfl) (by kernel_rfl) (fun _ _ _ h => h) (Or.inl ⟨by rfl, ?_⟩) (by assumption) ?_
        rotate_left
        · (intro w hSw; (try dsimp only at hSw); go_simp; (try with_reducible rfl))
        (try simp only [Act.put, List.setIfInBounds_toArray, List.set_cons_zero, List.set_cons_succ])
        refine wpAnyH_take (i := 5) (oi := { dst := some 22, op := Op.load 3 (Operand.tmp 21), type := 3, pos := "ckpt.go:41", after := #[{ on := 4, ground := Ground.data }, { on := 3, ground := Ground.guard }], guard := some (3, false) }) (v := ?_) rfl (by kernel_rfl) (by kernel_rfl) (by kernel_rfl) (fun _ _ _ h => h) (Or.inl ⟨by rfl, ?_⟩) (by assumption) ?_
        rotate_left
        · (intro w hSw; (try dsimp only at hSw); go_simp; (try with_reducible rfl))
        (try simp only [Act.put, List.setIfInBounds_toArray, List.set_cons_zero, List.set_cons_succ])
        refine wpAnyH_take (i := 6) (oi := { dst := some 23, op := Op.fieldAddr 23 (Operand.tmp 2) 0, type := 0, pos := "ckpt.go:41", after := #[{ on := 3, ground := Ground.guard }], guard := some (3, false) }) (v := ?_) rfl (by kernel_rfl) (by kernel_rfl) (by kernel_rfl) (fun _ _ _ h => h) (Or.inl ⟨by rfl, ?_⟩) (by assumption) ?_
        rotate_left
        · (intro w hSw; (try dsimp only at hSw); go_simp; (try with_reducible rfl))
        (try simp only [Act.put, List.setIfInBounds_toArray, List.set_cons_zero, List.set_cons_succ])
        refine wpAnyH_take (i := 7) (oi := { dst := some 24, op := Op.load 3 (Operand.tmp 23), type := 3, pos := "ckpt.go:41", after := #[{ on := 6, ground := Ground.data }, { on := 3, ground := Ground.guard }], guard := some (3, false) }) (v := ?_) rfl (by kernel_rfl) (by kernel_rfl) (by kernel_rfl) (fun _ _ _ h => h) (Or.inl ⟨by rfl, ?_⟩) (by assumption) ?_
        rotate_left
        · (intro w hSw; (try dsimp only at hSw); go_simp; (try with_reducible rfl))
        (try simp only [Act.put, List.setIfInBounds_toArray, List.set_cons_zero, List.set_cons_succ])
        refine wpAnyH_take (i := 8) (oi := { dst := some 25, op := Op.binOp BinOp.geq 3 (Operand.tmp 22) (Operand.tmp 24) 3, type := 4, pos := "ckpt.go:41", after := #[{ on := 5, ground := Ground.data }, { on := 7, ground := Ground.data }, { on := 3, ground := Ground.guard }], guard := some (3, false) }) (v := ?_) rfl (by kernel_rfl) (by kernel_rfl) (by kernel_rfl) (fun _ _ _ h => h) (Or.inl ⟨by rfl, ?_⟩) (by assumption) ?_
        rotate_left
        · (intro w hSw; (try dsimp only at hSw); go_simp; (try with_reducible rfl))
        (try simp only [Act.put, List.setIfInBounds_toArray, List.set_cons_zero, List.set_cons_succ])
        refine wpAnyH_take (i := 9) (oi := { dst := some 26, op := Op.pick (Operand.tmp 20) (Operand.const (Value.bool true)) (Operand.tmp 25), type := 4, pos := "ckpt.go:41", after := #[{ on := 3, ground := Ground.data }, { on := 8, ground := Ground.data }], guard := none }) (v := ?_) rfl (by kernel_rfl) (by kernel_rfl) (by kernel_rfl) (fun _ _ _ h => h) (Or.inl ⟨by rfl, ?_⟩) (by assumption) ?_
        rotate_left
        · (intro w hSw; (try dsimp only at hSw); go_simp; (try with_reducible rfl))
        (try simp only [Act.put, List.setIfInBounds_toArray, List.set_cons_zero, List.set_cons_succ])
        refine wpAnyH_take (i := 10) (oi := { dst := some 27, op := Op.move (Operand.tmp 26), type := 4, pos := "ckpt.go:41", after := #[{ on := 9, ground := Ground.data }, { on := 3, ground := Ground.chain }], guard := none }) (v := ?_) rfl (by kernel_rfl) (by kernel_rfl) (by kernel_rfl) (fun _ _ _ h => h) (Or.inl ⟨by rfl, ?_⟩) (by assumption) ?_
        rotate_left
        · (intro w hSw; (try dsimp only at hSw); go_simp; (try with_reducible rfl))
        (try simp only [Act.put, List.setIfInBounds_toArray, List.set_cons_zero, List.set_cons_succ])
        refine wpAnyH_take (i := 11) (oi := { dst := some 28, op := Op.fieldAddr 59 (Operand.tmp 7) 1, type := 0, pos := "ckpt.go:41", after := #[{ on := 10, ground := Ground.guard }], guard := some (10, false) }) (v := ?_) rfl (by kernel_rfl) (by kernel_rfl) (by kernel_rfl) (fun _ _ _ h => h) (Or.inl ⟨by rfl, ?_⟩) (by assumption) ?_
        rotate_left
        · (intro w hSw; (try dsimp only at hSw); go_simp; (try with_reducible rfl))
        (try simp only [Act.put, List.setIfInBounds_toArray, List.set_cons_zero, List.set_cons_succ])
        refine wpAnyH_take (i := 12) (oi := { dst := some 29, op := Op.load 3 (Operand.tmp 28), type := 3, pos := "ckpt.go:41", after := #[{ on := 11, ground := Ground.data }, { on := 10, ground := Ground.guard }], guard := some (10, false) }) (v := ?_) rfl (by kernel_rfl) (by kernel_rfl) (by kernel_rfl) (fun _ _ _ h => h) (Or.inl ⟨by rfl, ?_⟩) (by assumption) ?_
        rotate_left
        · (intro w hSw; (try dsimp only at hSw); go_simp; (try with_reducible rfl))
        (try simp only [Act.put, List.setIfInBounds_toArray, List.set_cons_zero, List.set_cons_succ])
        refine wpAnyH_take (i := 13) (oi := { dst := some 30, op := Op.binOp BinOp.lss 3 (Operand.tmp 29) (Operand.const (Value.int IntKind.i64 0)) 3, type := 4, pos := "ckpt.go:41", after := #[{ on := 12, ground := Ground.data }, { on := 10, ground := Ground.guard }], guard := some (10, false) }) (v := ?_) rfl (by kernel_rfl) (by kernel_rfl) (by kernel_rfl) (fun _ _ _ h => h) (Or.inl ⟨by rfl, ?_⟩) (by assumption) ?_
        rotate_left
        · (intro w hSw; (try dsimp only at hSw); go_simp; (try with_reducible rfl))
        (try simp only [Act.put, List.setIfInBounds_toArray, List.set_cons_zero, List.set_cons_succ])
        refine wpAnyH_take (i := 14) (oi := { dst := some 31, op := Op.pick (Operand.tmp 27) (Operand.const (Value.bool true)) (Operand.tmp 30), type := 4, pos := "ckpt.go:41", after := #[{ on := 10, ground := Ground.data }, { on := 13, ground := Ground.data }], guard := none }) (v := ?_) rfl (by kernel_rfl) (by kernel_rfl) (by kernel_rfl) (fun _ _ _ h => h) (Or.inl ⟨by rfl, ?_⟩) (by assumption) ?_
        rotate_left
        · (intro w hSw; (try dsimp only at hSw); go_simp; (try with_reducible rfl))
        (try simp only [Act.put, List.setIfInBounds_toArray, List.set_cons_zero, List.set_cons_succ])
        refine wpAnyH_take (i := 15) (oi := { dst := some 32, op := Op.move (Operand.tmp 31), type := 4, pos := "ckpt.go:41", after := #[{ on := 14, ground := Ground.data }, { on := 10, ground := Ground.chain }], guard := none }) (v := ?_) rfl (by kernel_rfl) (by kernel_rfl) (by kernel_rfl) (fun _ _ _ h => h) (Or.inl ⟨by rfl, ?_⟩) (by assumption) ?_
        rotate_left
        · (intro w hSw; (try dsimp only at hSw); go_simp; (try with_reducible rfl))
        (try simp only [Act.put, List.setIfInBounds_toArray, List.set_cons_zero, List.set_cons_succ])
        refine wpAnyH_take (i := 16) (oi := { dst := some 33, op := Op.fieldAddr 59 (Operand.tmp 7) 1, type := 0, pos := "ckpt.go:41", after := #[{ on := 15, ground := Ground.guard }], guard := some (15, false) }) (v := ?_) rfl (by kernel_rfl) (by kernel_rfl) (by kernel_rfl) (fun _ _ _ h => h) (Or.inl ⟨by rfl, ?_⟩) (by assumption) ?_
        rotate_left
        · (intro w hSw; (try dsimp only at hSw); go_simp; (try with_reducible rfl))
        (try simp only [Act.put, List.setIfInBounds_toArray, List.set_cons_zero, List.set_cons_succ])
        refine wpAnyH_take (i := 17) (oi := { dst := some 34, op := Op.load 3 (Operand.tmp 33), type := 3, pos := "ckpt.go:41", after := #[{ on := 16, ground := Ground.data }, { on := 15, ground := Ground.guard }], guard := some (15, false) }) (v := ?_) rfl (by kernel_rfl) (by kernel_rfl) (by kernel_rfl) (fun _ _ _ h => h) (Or.inl ⟨by rfl, ?_⟩) (by assumption) ?_
        rotate_left
        · (intro w hSw; (try dsimp only at hSw); go_simp; (try with_reducible rfl))
        (try simp only [Act.put, List.setIfInBounds_toArray, List.set_cons_zero, List.set_cons_succ])
        refine wpAnyH_take (i := 18) (oi := { dst := some 35, op := Op.fieldAddr 23 (Operand.tmp 2) 1, type := 0, pos := "ckpt.go:41", after := #[{ on := 15, ground := Ground.guard }], guard := some (15, false) }) (v := ?_) rfl (by kernel_rfl) (by kernel_rfl) (by kernel_rfl) (fun _ _ _ h => h) (Or.inl ⟨by rfl, ?_⟩) (by assumption) ?_
        rotate_left
        · (intro w hSw; (try dsimp only at hSw); go_simp; (try with_reducible rfl))
        (try simp only [Act.put, List.setIfInBounds_toArray, List.set_cons_zero, List.set_cons_succ])
        refine wpAnyH_take (i := 19) (oi := { dst := some 36, op := Op.load 3 (Operand.tmp 35), type := 3, pos := "ckpt.go:41", after := #[{ on := 18, ground := Ground.data }, { on := 15, ground := Ground.guard }], guard := some (15, false) }) (v := ?_) rfl (by kernel_rfl) (by kernel_rfl) (by kernel_rfl) (fun _ _ _ h => h) (Or.inl ⟨by rfl, ?_⟩) (by assumption) ?_
        rotate_left
        · (intro w hSw; (try dsimp only at hSw); go_simp; (try with_reducible rfl))
        (try simp only [Act.put, List.setIfInBounds_toArray, List.set_cons_zero, List.set_cons_succ])
        refine wpAnyH_take (i := 20) (oi := { dst := some 37, op := Op.binOp BinOp.geq 3 (Operand.tmp 34) (Operand.tmp 36) 3, type := 4, pos := "ckpt.go:41", after := #[{ on := 17, ground := Ground.data }, { on := 19, ground := Ground.data }, { on := 15, ground := Ground.guard }], guard := some (15, false) }) (v := ?_) rfl (by kernel_rfl) (by kernel_rfl) (by kernel_rfl) (fun _ _ _ h => h) (Or.inl ⟨by rfl, ?_⟩) (by assumption) ?_
        rotate_left
        · (intro w hSw; (try dsimp only at hSw); go_simp; (try with_reducible rfl))
        (try simp only [Act.put, List.setIfInBounds_toArray, List.set_cons_zero, List.set_cons_succ])
        refine wpAnyH_take (i := 21) (oi := { dst := some 38, op := Op.pick (Operand.tmp 32) (Operand.const (Value.bool true)) (Operand.tmp 37), type := 4, pos := "ckpt.go:41", after := #[{ on := 15, ground := Ground.data }, { on := 20, ground := Ground.data }], guard := none }) (v := ?_) rfl (by kernel_rfl) (by kernel_rfl) (by kernel_rfl) (fun _ _ _ h => h) (Or.inl ⟨by rfl, ?_⟩) (by assumption) ?_
        rotate_left
        · (intro w hSw; (try dsimp only at hSw); go_simp; (try with_reducible rfl))
        (try simp only [Act.put, List.setIfInBounds_toArray, List.set_cons_zero, List.set_cons_succ])
        refine wpAnyH_take (i := 22) (oi := { dst := some 39, op := Op.move (Operand.tmp 38), type := 4, pos := "ckpt.go:41", after := #[{ on := 21, ground := Ground.data }, { on := 15, ground := Ground.chain }], guard := none }) (v := ?_) rfl (by kernel_rfl) (by kernel_rfl) (by kernel_rfl) (fun _ _ _ h => h) (Or.inl ⟨by rfl, ?_⟩) (by assumption) ?_
        rotate_left
        · (intro w hSw; (try dsimp only at hSw); go_simp; (try with_reducible rfl))
        (try simp only [Act.put, List.setIfInBounds_toArray, List.set_cons_zero, List.set_cons_succ])
        refine wpAnyH_take (i := 23) (oi := { dst := some 40, op := Op.move (Operand.tmp 5), type := 3, pos := "ckpt.go:41", after := #[{ on := 22, ground := Ground.guard }], guard := some (22, false) }) (v := undef) rfl (by kernel_rfl) (by kernel_rfl) (by kernel_rfl) (fun _ _ _ h => h) (Or.inr ⟨by rfl, rfl⟩) (by assumption) ?_
        (try simp only [Act.put, List.setIfInBounds_toArray, List.set_cons_zero, List.set_cons_succ])
        refine wpAnyH_take (i := 24) (oi := { dst := some 41, op := Op.binOp BinOp.gtr 3 (Operand.tmp 40) (Operand.const (Value.int IntKind.i64 0)) 3, type := 4, pos := "ckpt.go:41", after := #[{ on := 23, ground := Ground.data }, { on := 22, ground := Ground.guard }], guard := some (22, false) }) (v := undef) rfl (by kernel_rfl) (by kernel_rfl) (by kernel_rfl) (fun _ _ _ h => h) (Or.inr ⟨by rfl, rfl⟩) (by assumption) ?_
        (try simp only [Act.put, List.setIfInBounds_toArray, List.set_cons_zero, List.set_cons_succ])
        refine wpAnyH_take (i := 25) (oi := { dst := some 42, op := Op.move (Operand.tmp 41), type := 4, pos := "ckpt.go:41", after := #[{ on := 24, ground := Ground.data }, { on := 22, ground := Ground.chain }, { on := 22, ground := Ground.guard }], guard := some (22, false) }) (v := undef) rfl (by kernel_rfl) (by kernel_rfl) (by kernel_rfl) (fun _ _ _ h => h) (Or.inr ⟨by rfl, rfl⟩) (by assumption) ?_
        (try simp only [Act.put, List.setIfInBounds_toArray, List.set_cons_zero, List.set_cons_succ])
        refine wpAnyH_take (i := 26) (oi := { dst := some 43, op := Op.move (Operand.tmp 1), type := 25, pos := "ckpt.go:41", after := #[{ on := 25, ground := Ground.guard }], guard := some (25, true) }) (v := undef) rfl (by kernel_rfl) (by kernel_rfl) (by kernel_rfl) (fun _ _ _ h => h) (Or.inr ⟨by rfl, rfl⟩) (by assumption) ?_
        (try simp only [Act.put, List.setIfInBounds_toArray, List.set_cons_zero, List.set_cons_succ])
        refine wpAnyH_take (i := 27) (oi := { dst := some 44, op := Op.move (Operand.tmp 5), type := 3, pos := "ckpt.go:41", after := #[{ on := 25, ground := Ground.guard }], guard := some (25, true) }) (v := undef) rfl (by kernel_rfl) (by kernel_rfl) (by kernel_rfl) (fun _ _ _ h => h) (Or.inr ⟨by rfl, rfl⟩) (by assumption) ?_
        (try simp only [Act.put, List.setIfInBounds_toArray, List.set_cons_zero, List.set_cons_succ])
        refine wpAnyH_take (i := 28) (oi := { dst := some 45, op := Op.binOp BinOp.sub 3 (Operand.tmp 44) (Operand.const (Value.int IntKind.i64 1)) 3, type := 3, pos := "ckpt.go:41", after := #[{ on := 27, ground := Ground.data }, { on := 25, ground := Ground.guard }], guard := some (25, true) }) (v := undef) rfl (by kernel_rfl) (by kernel_rfl) (by kernel_rfl) (fun _ _ _ h => h) (Or.inr ⟨by rfl, rfl⟩) (by assumption) ?_
        (try simp only [Act.put, List.setIfInBounds_toArray, List.set_cons_zero, List.set_cons_succ])
        refine wpAnyH_take (i := 29) (oi := { dst := some 46, op := Op.indexAddr 25 (Operand.tmp 43) (Operand.tmp 45), type := 0, pos := "ckpt.go:41", after := #[{ on := 26, ground := Ground.data }, { on := 28, ground := Ground.data }, { on := 25, ground := Ground.guard }], guard := some (25, true) }) (v := undef) rfl (by kernel_rfl) (by kernel_rfl) (by kernel_rfl) (fun _ _ _ h => h) (Or.inr ⟨by rfl, rfl⟩) (by assumption) ?_
        (try simp only [Act.put, List.setIfInBounds_toArray, List.set_cons_zero, List.set_cons_succ])
        refine wpAnyH_take (i := 30) (oi := { dst := some 47, op := Op.load 88 (Operand.tmp 46), type := 88, pos := "ckpt.go:41", after := #[{ on := 29, ground := Ground.data }, { on := 25, ground := Ground.guard }], guard := some (25, true) }) (v := undef) rfl (by kernel_rfl) (by kernel_rfl) (by kernel_rfl) (fun _ _ _ h => h) (Or.inr ⟨by rfl, rfl⟩) (by assumption) ?_
        (try simp only [Act.put, List.setIfInBounds_toArray, List.set_cons_zero, List.set_cons_succ])
        refine wpAnyH_take (i := 31) (oi := { dst := some 48, op := Op.load 88 (Operand.tmp 6), type := 88, pos := "ckpt.go:41", after := #[{ on := 25, ground := Ground.guard }], guard := some (25, true) }) (v := undef) rfl (by kernel_rfl) (by kernel_rfl) (by kernel_rfl) (fun _ _ _ h => h) (Or.inr ⟨by rfl, rfl⟩) (by assumption) ?_
        (try simp only [Act.put, List.setIfInBounds_toArray, List.set_cons_zero, List.set_cons_succ])
        refine wpAnyH_take (i := 32) (oi := { dst := some 49, op := Op.call { callee := Callee.value (Operand.func 68), args := #[Operand.tmp 47, Operand.tmp 48], argTypes := #[88, 88] }, type := 3, pos := "ckpt.go:41", after := #[{ on := 30, ground := Ground.data }, { on := 31, ground := Ground.data }, { on := 25, ground := Ground.chain }, { on := 25, ground := Ground.guard }], guard := some (25, true) }) (v := undef) rfl (by kernel_rfl) (by kernel_rfl) (by kernel_rfl) (fun _ _ _ h => h) (Or.inr ⟨by rfl, rfl⟩) (by assumption) ?_
        (try simp only [Act.put, List.setIfInBounds_toArray, List.set_cons_zero, List.set_cons_succ])
        refine wpAnyH_take (i := 33) (oi := { dst := some 50, op := Op.binOp BinOp.geq 3 (Operand.tmp 49) (Operand.const (Value.int IntKind.i64 0)) 3, type := 4, pos := "ckpt.go:41", after := #[{ on := 32, ground := Ground.data }, { on := 25, ground := Ground.guard }], guard := some (25, true) }) (v := undef) rfl (by kernel_rfl) (by kernel_rfl) (by kernel_rfl) (fun _ _ _ h => h) (Or.inr ⟨by rfl, rfl⟩) (by assumption) ?_
        (try simp only [Act.put, List.setIfInBounds_toArray, List.set_cons_zero, List.set_cons_succ])
        refine wpAnyH_take (i := 34) (oi := { dst := some 51, op := Op.pick (Operand.tmp 42) (Operand.tmp 50) (Operand.const (Value.bool false)), type := 4, pos := "ckpt.go:41", after := #[{ on := 25, ground := Ground.data }, { on := 33, ground := Ground.data }, { on := 22, ground := Ground.guard }], guard := some (22, false) }) (v := undef) rfl (by kernel_rfl) (by kernel_rfl) (by kernel_rfl) (fun _ _ _ h => h) (Or.inr ⟨by rfl, rfl⟩) (by assumption) ?_
        (try simp only [Act.put, List.setIfInBounds_toArray, List.set_cons_zero, List.set_cons_succ])
        refine wpAnyH_take (i := 35) (oi := { dst := some 52, op := Op.pick (Operand.tmp 39) (Operand.const (Value.bool true)) (Operand.tmp 51), type := 4, pos := "ckpt.go:41", after := #[{ on := 22, ground := Ground.data }, { on := 34, ground := Ground.data }], guard := none }) (v := ?_) rfl (by kernel_rfl) (by kernel_rfl) (by kernel_rfl) (fun _ _ _ h => h) (Or.inl ⟨by rfl, ?_⟩) (by assumption) ?_
        rotate_left
        · (intro w hSw; (try dsimp only at hSw); go_simp; (try with_reducible rfl))
        (try simp only [Act.put, List.setIfInBounds_toArray, List.set_cons_zero, List.set_cons_succ])
        refine wpAnyH_done (by kernel_rfl) ?_ _
        go_wp2
        go_ret
        exact ⟨by rw [HNM.out]; rfl, below_drew HBX.out⟩
      have qt4 : decide (zb ≤ pk) = false := decide_eq_false ht4
      have HII := Aside0.mk (show InIt z zb (pt, pb, pz, pk) from ⟨by dsimp only; omega, by dsimp only; omega, by dsimp only; omega, by dsimp only; omega⟩)
      clear ht1 ht2 ht3 ht4
      have HIN2 := Aside0.mk (show ∀ j, j < i + 1 → InIt z zb (l.getD j plc0) from fun j hj => by
        by_cases hji : j < i
        · exact HIN.out j hji
        · obtain rfl : j = i := by omega
          rw [HP.out]; exact HII.out)
      cases i with
      | zero =>
        have qi : decide ((0 : Int) < ((0 : Nat) : Int)) = false := rfl
        refine wp_region_held_drew (S := fun w' => w'.cell? ⟨g, 0, none⟩ = some (.int .i64 z) ∧ w'.cell? ⟨g, 1, none⟩ = some (.int .i64 zb) ∧ w'.cell? ⟨gp + 1, 0, none⟩ = some (.int .i64 pz) ∧ w'.cell? ⟨gp + 1, 1, none⟩ = some (.int .i64 pk)) (by kernel_rfl) (HM4.out.below (below_drew (Below.refl X.heap.size X))) (fun hHeld => ?_)
        refine wpAnyH_take (i := 0) (oi := { dst := some 17, op := Op.fieldAddr 59 (Operand.tmp 7) 0, type := 0, pos := "ckpt.go:41", after := #[], guard := none }) (v := ?_) rfl (by kernel_rfl) (by kernel_rfl) (by kernel_rfl) (fun _ _ _ h => h) (Or.inl ⟨by rfl, ?_⟩) (by assumption) ?_
        rotate_left
        · (intro w hSw; (try dsimp only at hSw); go_simp; (try with_reducible rfl))
        (try simp only [Act.put, List.setIfInBounds_toArray, List.set_cons_zero, List.set_cons_succ])
        refine wpAnyH_take (i := 1) (oi := { dst := some 18, op := Op.load 3 (Operand.tmp 17), type := 3, pos := "ckpt.go:41", after := #[{ on := 0, ground := Ground.data }], guard := none }) (v := ?_) rfl (by kernel_rfl) (by kernel_rfl) (by kernel_rfl) (fun _ _ _ h => h) (Or.inl ⟨by rfl, ?_⟩) (by assumption) ?_
        rotate_left
        · (intro w hSw; (try dsimp only at hSw); go_simp; (try with_reducible rfl))
        (try simp only [Act.put, List.setIfInBounds_toArray, List.set_cons_zero, List.set_cons_succ])
        refine wpAnyH_take (i := 2) (oi := { dst := some 19, op := Op.binOp BinOp.lss 3 (Operand.tmp 18) (Operand.const (Value.int IntKind.i64 2)) 3, type := 4, pos := "ckpt.go:41", after := #[{ on := 1, ground := Ground.data }], guard := none }) (v := ?_) rfl (by kernel_rfl) (by kernel_rfl) (by kernel_rfl) (fun _ _ _ h => h) (Or.inl ⟨by rfl, ?_⟩) (by assumption) ?_
        rotate_left
        · (intro w hSw; (try dsimp only at hSw); go_simp; (try with_reducible rfl))
        (try simp only [Act.put, List.setIfInBounds_toArray, List.set_cons_zero, List.set_cons_succ])
        refine wpAnyH_take (i := 3) (oi := { dst := some 20, op := Op.move (Operand.tmp 19), type := 4, pos := "ckpt.go:41", after := #[{ on := 2, ground := Ground.data }], guard := none }) (v := ?_) rfl (by kernel_rfl) (by kernel_rfl) (by kernel_rfl) (fun _ _ _ h => h) (Or.inl ⟨by rfl, ?_⟩) (by assumption) ?_
        rotate_left
        · (intro w hSw; (try dsimp only at hSw); go_simp; (try with_reducible rfl))
        (try simp only [Act.put, List.setIfInBounds_toArray, List.set_cons_zero, List.set_cons_succ])
        refine wpAnyH_take (i := 4) (oi := { dst := some 21, op := Op.fieldAddr 59 (Operand.tmp 7) 0, type := 0, pos := "ckpt.go:41", after := #[{ on := 3, ground := Ground.guard }], guard := some (3, false) }) (v := ?_) rfl (by kernel_rfl) (by kernel_rfl) (by kernel_rfl) (fun _ _ _ h => h) (Or.inl ⟨by rfl, ?_⟩) (by assumption) ?_
        rotate_left
        · (intro w hSw; (try dsimp only at hSw); go_simp; (try with_reducible rfl))
        (try simp only [Act.put, List.setIfInBounds_toArray, List.set_cons_zero, List.set_cons_succ])
        refine wpAnyH_take (i := 5) (oi := { dst := some 22, op := Op.load 3 (Operand.tmp 21), type := 3, pos := "ckpt.go:41", after := #[{ on := 4, ground := Ground.data }, { on := 3, ground := Ground.guard }], guard := some (3, false) }) (v := ?_) rfl (by kernel_rfl) (by kernel_rfl) (by kernel_rfl) (fun _ _ _ h => h) (Or.inl ⟨by rfl, ?_⟩) (by assumption) ?_
        rotate_left
        · (intro w hSw; (try dsimp only at hSw); go_simp; (try with_reducible rfl))
        (try simp only [Act.put, List.setIfInBounds_toArray, List.set_cons_zero, List.set_cons_succ])
        refine wpAnyH_take (i := 6) (oi := { dst := some 23, op := Op.fieldAddr 23 (Operand.tmp 2) 0, type := 0, pos := "ckpt.go:41", after := #[{ on := 3, ground := Ground.guard }], guard := some (3, false) }) (v := ?_) rfl (by kernel_rfl) (by kernel_rfl) (by kernel_rfl) (fun _ _ _ h => h) (Or.inl ⟨by rfl, ?_⟩) (by assumption) ?_
        rotate_left
        · (intro w hSw; (try dsimp only at hSw); go_simp; (try with_reducible rfl))
        (try simp only [Act.put, List.setIfInBounds_toArray, List.set_cons_zero, List.set_cons_succ])
        refine wpAnyH_take (i := 7) (oi := { dst := some 24, op := Op.load 3 (Operand.tmp 23), type := 3, pos := "ckpt.go:41", after := #[{ on := 6, ground := Ground.data }, { on := 3, ground := Ground.guard }], guard := some (3, false) }) (v := ?_) rfl (by kernel_rfl) (by kernel_rfl) (by kernel_rfl) (fun _ _ _ h => h) (Or.inl ⟨by rfl, ?_⟩) (by assumption) ?_
        rotate_left
        · (intro w hSw; (try dsimp only at hSw); go_simp; (try with_reducible rfl))
        (try simp only [Act.put, List.setIfInBounds_toArray, List.set_cons_zero, List.set_cons_succ])
        refine wpAnyH_take (i := 8) (oi := { dst := some 25, op := Op.binOp BinOp.geq 3 (Operand.tmp 22) (Operand.tmp 24) 3, type := 4, pos := "ckpt.go:41", after := #[{ on := 5, ground := Ground.data }, { on := 7, ground := Ground.data }, { on := 3, ground := Ground.guard }], guard := some (3, false) }) (v := ?_) rfl (by kernel_rfl) (by kernel_rfl) (by kernel_rfl) (fun _ _ _ h => h) (Or.inl ⟨by rfl, ?_⟩) (by assumption) ?_
        rotate_left
        · (intro w hSw; (try dsimp only at hSw); go_simp; (try with_reducible rfl))
        (try simp only [Act.put, List.setIfInBounds_toArray, List.set_cons_zero, List.set_cons_succ])
        refine wpAnyH_take (i := 9) (oi := { dst := some 26, op := Op.pick (Operand.tmp 20) (Operand.const (Value.bool true)) (Operand.tmp 25), type := 4, pos := "ckpt.go:41", after := #[{ on := 3, ground := Ground.data }, { on := 8, ground := Ground.data }], guard := none }) (v := ?_) rfl (by kernel_rfl) (by kernel_rfl) (by kernel_rfl) (fun _ _ _ h => h) (Or.inl ⟨by rfl, ?_⟩) (by assumption) ?_
        rotate_left
        · (intro w hSw; (try dsimp only at hSw); go_simp; (try with_reducible rfl))
        (try simp only [Act.put, List.setIfInBounds_toArray, List.set_cons_zero, List.set_cons_succ])
        refine wpAnyH_take (i := 10) (oi := { dst := some 27, op := Op.move (Operand.tmp 26), type := 4, pos := "ckpt.go:41", after := #[{ on := 9, ground := Ground.data }, { on := 3, ground := Ground.chain }], guard := none }) (v := ?_) rfl (by kernel_rfl) (by kernel_rfl) (by kernel_rfl) (fun _ _ _ h => h) (Or.inl ⟨by rfl, ?_⟩) (by assumption) ?_
        rotate_left
        · (intro w hSw; (try dsimp only at hSw); go_simp; (try with_reducible rfl))
        (try simp only [Act.put, List.setIfInBounds_toArray, List.set_cons_zero, List.set_cons_succ])
        refine wpAnyH_take (i := 11) (oi := { dst := some 28, op := Op.fieldAddr 59 (Operand.tmp 7) 1, type := 0, pos := "ckpt.go:41", after := #[{ on := 10, ground := Ground.guard }], guard := some (10, false) }) (v := ?_) rfl (by kernel_rfl) (by kernel_rfl) (by kernel_rfl) (fun _ _ _ h => h) (Or.inl ⟨by rfl, ?_⟩) (by assumption) ?_
        rotate_left
        · (intro w hSw; (try dsimp only at hSw); go_simp; (try with_reducible rfl))
        (try simp only [Act.put, List.setIfInBounds_toArray, List.set_cons_zero, List.set_cons_succ])
        refine wpAnyH_take (i := 12) (oi := { dst := some 29, op := Op.load 3 (Operand.tmp 28), type := 3, pos := "ckpt.go:41", after := #[{ on := 11, ground := Ground.data }, { on := 10, ground := Ground.guard }], guard := some (10, false) }) (v := ?_) rfl (by kernel_rfl) (by kernel_rfl) (by kernel_rfl) (fun _ _ _ h => h) (Or.inl ⟨by rfl, ?_⟩) (by assumption) ?_
        rotate_left
        · (intro w hSw; (try dsimp only at hSw); go_simp; (try with_reducible rfl))
        (try simp only [Act.put, List.setIfInBounds_toArray, List.set_cons_zero, List.set_cons_succ])
        refine wpAnyH_take (i := 13) (oi := { dst := some 30, op := Op.binOp BinOp.lss 3 (Operand.tmp 29) (Operand.const (Value.int IntKind.i64 0)) 3, type := 4, pos := "ckpt.go:41", after := #[{ on := 12, ground := Ground.data }, { on := 10, ground := Ground.guard }], guard := some (10, false) }) (v := ?_) rfl (by kernel_rfl) (by kernel_rfl) (by kernel_rfl) (fun _ _ _ h => h) (Or.inl ⟨by rfl, ?_⟩) (by assumption) ?_
        rotate_left
        · (intro w hSw; (try dsimp only at hSw); go_simp; (try with_reducible rfl))
        (try simp only [Act.put, List.setIfInBounds_toArray, List.set_cons_zero, List.set_cons_succ])
        refine wpAnyH_take (i := 14) (oi := { dst := some 31, op := Op.pick (Operand.tmp 27) (Operand.const (Value.bool true)) (Operand.tmp 30), type := 4, pos := "ckpt.go:41", after := #[{ on := 10, ground := Ground.data }, { on := 13, ground := Ground.data }], guard := none }) (v := ?_) rfl (by kernel_rfl) (by kernel_rfl) (by kernel_rfl) (fun _ _ _ h => h) (Or.inl ⟨by rfl, ?_⟩) (by assumption) ?_
        rotate_left
        · (intro w hSw; (try dsimp only at hSw); go_simp; (try with_reducible rfl))
        (try simp only [Act.put, List.setIfInBounds_toArray, List.set_cons_zero, List.set_cons_succ])
        refine wpAnyH_take (i := 15) (oi := { dst := some 32, op := Op.move (Operand.tmp 31), type := 4, pos := "ckpt.go:41", after := #[{ on := 14, ground := Ground.data }, { on := 10, ground := Ground.chain }], guard := none }) (v := ?_) rfl (by kernel_rfl) (by kernel_rfl) (by kernel_rfl) (fun _ _ _ h => h) (Or.inl ⟨by rfl, ?_⟩) (by assumption) ?_
        rotate_left
        · (intro w hSw; (try dsimp only at hSw); go_simp; (try with_reducible rfl))
        (try simp only [Act.put, List.setIfInBounds_toArray, List.set_cons_zero, List.set_cons_succ])
        refine wpAnyH_take (i := 16) (oi := { dst := some 33, op := Op.fieldAddr 59 (Operand.tmp 7) 1, type := 0, pos := "ckpt.go:41", after := #[{ on := 15, ground := Ground.guard }], guard := some (15, false) }) (v := ?_) rfl (by kernel_rfl) (by kernel_rfl) (by kernel_rfl) (fun _ _ _ h => h) (Or.inl ⟨by rfl, ?_⟩) (by assumption) ?_
        rotate_left
        · (intro w hSw; (try dsimp only at hSw); go_simp; (try with_reducible rfl))
        (try simp only [Act.put, List.setIfInBounds_toArray, List.set_cons_zero, List.set_cons_succ])
        refine wpAnyH_take (i := 17) (oi := { dst := some 34, op := Op.load 3 (Operand.tmp 33), type := 3, pos := "ckpt.go:41", after := #[{ on := 16, ground := Ground.data }, { on := 15, ground := Ground.guard }], guard := some (15, false) }) (v := ?_) rfl (by kernel_rfl) (by kernel_rfl) (by kernel_rfl) (fun _ _ _ h => h) (Or.inl ⟨by rfl, ?_⟩) (by assumption) ?_
        rotate_left
        · (intro w hSw; (try dsimp only at hSw); go_simp; (try with_reducible rfl))
        (try simp only [Act.put, List.setIfInBounds_toArray, List.set_cons_zero, List.set_cons_succ])
        refine wpAnyH_take (i := 18) (oi := { dst := some 35, op := Op.fieldAddr 23 (Operand.tmp 2) 1, type := 0, pos := "ckpt.go:41", after := #[{ on := 15, ground := Ground.guard }], guard := some (15, false) }) (v := ?_) rfl (by kernel_rfl) (by kernel_rfl) (by kernel_rfl) (fun _ _ _ h => h) (Or.inl ⟨by rfl, ?_⟩) (by assumption) ?_
        rotate_left
        · (intro w hSw; (try dsimp only at hSw); go_simp; (try with_reducible rfl))
        (try simp only [Act.put, List.setIfInBounds_toArray, List.set_cons_zero, List.set_cons_succ])
        refine wpAnyH_take (i := 19) (oi := { dst := some 36, op := Op.load 3 (Operand.tmp 35), type := 3, pos := "ckpt.go:41", after := #[{ on := 18, ground := Ground.data }, { on := 15, ground := Ground.guard }], guard := some (15, false) }) (v := ?_) rfl (by kernel_rfl) (by kernel_rfl) (by kernel_rfl) (fun _ _ _ h => h) (Or.inl ⟨by rfl, ?_⟩) (by assumption) ?_
        rotate_left
        · (intro w hSw; (try dsimp only at hSw); go_simp; (try with_reducible rfl))
        (try simp only [Act.put, List.setIfInBounds_toArray, List.set_cons_zero, List.set_cons_succ])
        refine wpAnyH_take (i := 20) (oi := { dst := some 37, op := Op.binOp BinOp.geq 3 (Operand.tmp 34) (Operand.tmp 36) 3, type := 4, pos := "ckpt.go:41", after := #[{ on := 17, ground := Ground.data }, { on := 19, ground := Ground.data }, { on := 15, ground := Ground.guard }], guard := some (15, false) }) (v := ?_) rfl (by kernel_rfl) (by kernel_rfl) (by kernel_rfl) (fun _ _ _ h => h) (Or.inl ⟨by rfl, ?_⟩) (by assumption) ?_
        rotate_left
        · (intro w hSw; (try dsimp only at hSw); go_simp; (try with_reducible rfl))
        (try simp only [Act.put, List.setIfInBounds_toArray, List.set_cons_zero, List.set_cons_succ])
        refine wpAnyH_take (i := 21) (oi := { dst := some 38, op := Op.pick (Operand.tmp 32) (Operand.const (Value.bool true)) (Operand.tmp 37), type := 4, pos := "ckpt.go:41", after := #[{ on := 15, ground := Ground.data }, { on := 20, ground := Ground.data }], guard := none }) (v := ?_) rfl (by kernel_rfl) (by kernel_rfl) (by kernel_rfl) (fun _ _ _ h => h) (Or.inl ⟨by rfl, ?_⟩) (by assumption) ?_
        rotate_left
        · (intro w hSw; (try dsimp only at hSw); go_simp; (try with_reducible rfl))
        (try simp only [Act.put, List.setIfInBounds_toArray, List.set_cons_zero, List.set_cons_succ])
        refine wpAnyH_take (i := 22) (oi := { dst := some 39, op := Op.move (Operand.tmp 38), type := 4, pos := "ckpt.go:41", after := #[{ on := 21, ground := Ground.data }, { on := 15, ground := Ground.chain }], guard := none }) (v := ?_) rfl (by kernel_rfl) (by kernel_rfl) (by kernel_rfl) (fun _ _ _ h => h) (Or.inl ⟨by rfl, ?_⟩) (by assumption) ?_
        rotate_left
        · (intro w hSw; (try dsimp only at hSw); go_simp; (try with_reducible rfl))
        (try simp only [Act.put, List.setIfInBounds_toArray, List.set_cons_zero, List.set_cons_succ])
        refine wpAnyH_take (i := 23) (oi := { dst := some 40, op := Op.move (Operand.tmp 5), type := 3, pos := "ckpt.go:41", after := #[{ on := 22, ground := Ground.guard }], guard := some (22, false) }) (v := ?_) rfl (by kernel_rfl) (by kernel_rfl) (by kernel_rfl) (fun _ _ _ h => h) (Or.inl ⟨by rfl, ?_⟩) (by assumption) ?_
        rotate_left
        · (intro w hSw; (try dsimp only at hSw); go_simp; (try with_reducible rfl))
        (try simp only [Act.put, List.setIfInBounds_toArray, List.set_cons_zero, List.set_cons_succ])
        refine wpAnyH_take (i := 24) (oi := { dst := some 41, op := Op.binOp BinOp.gtr 3 (Operand.tmp 40) (Operand.const (Value.int IntKind.i64 0)) 3, type := 4, pos := "ckpt.go:41", after := #[{ on := 23, ground := Ground.data }, { on := 22, ground := Ground.guard }], guard := some (22, false) }) (v := ?_) rfl (by kernel_rfl) (by kernel_rfl) (by kernel_rfl) (fun _ _ _ h => h) (Or.inl ⟨by rfl, ?_⟩) (by assumption) ?_
        rotate_left
        · (intro w hSw; (try dsimp only at hSw); go_simp; (try with_reducible rfl))
        (try simp only [Act.put, List.setIfInBounds_toArray, List.set_cons_zero, List.set_cons_succ])
        refine wpAnyH_take (i := 25) (oi := { dst := some 42, op := Op.move (Operand.tmp 41), type := 4, pos := "ckpt.go:41", after := #[{ on := 24, ground := Ground.data }, { on := 22, ground := Ground.chain }, { on := 22, ground := Ground.guard }], guard := some (22, false) }) (v := ?_) rfl (by kernel_rfl) (by kernel_rfl) (by kernel_rfl) (fun _ _ _ h => h) (Or.inl ⟨by rfl, ?_⟩) (by assumption) ?_
        rotate_left
        · (intro w hSw; (try dsimp only at hSw); go_simp; (try with_reducible rfl))
        (try simp only [Act.put, List.setIfInBounds_toArray, List.set_cons_zero, List.set_cons_succ])
        refine wpAnyH_take (i := 26) (oi := { dst := some 43, op := Op.move (Operand.tmp 1), type := 25, pos := "ckpt.go:41", after := #[{ on := 25, ground := Ground.guard }], guard := some (25, true) }) (v := undef) rfl (by kernel_rfl) (by kernel_rfl) (by kernel_rfl) (fun _ _ _ h => h) (Or.inr ⟨by rfl, rfl⟩) (by assumption) ?_
        (try simp only [Act.put, List.setIfInBounds_toArray, List.set_cons_zero, List.set_cons_succ])
        refine wpAnyH_take (i := 27) (oi := { dst := some 44, op := Op.move (Operand.tmp 5), type := 3, pos := "ckpt.go:41", after := #[{ on := 25, ground := Ground.guard }], guard := some (25, true) }) (v := undef) rfl (by kernel_rfl) (by kernel_rfl) (by kernel_rfl) (fun _ _ _ h => h) (Or.inr ⟨by rfl, rfl⟩) (by assumption) ?_
        (try simp only [Act.put, List.setIfInBounds_toArray, List.set_cons_zero, List.set_cons_succ])
        refine wpAnyH_take (i := 28) (oi := { dst := some 45, op := Op.binOp BinOp.sub 3 (Operand.tmp 44) (Operand.const (Value.int IntKind.i64 1)) 3, type := 3, pos := "ckpt.go:41", after := #[{ on := 27, ground := Ground.data }, { on := 25, ground := Ground.guard }], guard := some (25, true) }) (v := undef) rfl (by kernel_rfl) (by kernel_rfl) (by kernel_rfl) (fun _ _ _ h => h) (Or.inr ⟨by rfl, rfl⟩) (by assumption) ?_
        (try simp only [Act.put, List.setIfInBounds_toArray, List.set_cons_zero, List.set_cons_succ])
        refine wpAnyH_take (i := 29) (oi := { dst := some 46, op := Op.indexAddr 25 (Operand.tmp 43) (Operand.tmp 45), type := 0, pos := "ckpt.go:41", after := #[{ on := 26, ground := Ground.data }, { on := 28, ground := Ground.data }, { on := 25, ground := Ground.guard }], guard := some (25, true) }) (v := undef) rfl (by kernel_rfl) (by kernel_rfl) (by kernel_rfl) (fun _ _ _ h => h) (Or.inr ⟨by rfl, rfl⟩) (by assumption) ?_
        (try simp only [Act.put, List.setIfInBounds_toArray, List.set_cons_zero, List.set_cons_succ])
        refine wpAnyH_take (i := 30) (oi := { dst := some 47, op := Op.load 88 (Operand.tmp 46), type := 88, pos := "ckpt.go:41", after := #[{ on := 29, ground := Ground.data }, { on := 25, ground := Ground.guard }], guard := some (25, true) }) (v := undef) rfl (by kernel_rfl) (by kernel_rfl) (by kernel_rfl) (fun _ _ _ h => h) (Or.inr ⟨by rfl, rfl⟩) (by assumption) ?_
        (try simp only [Act.put, List.setIfInBounds_toArray, List.set_cons_zero, List.set_cons_succ])
        refine wpAnyH_take (i := 31) (oi := { dst := some 48, op := Op.load 88 (Operand.tmp 6), type := 88, pos := "ckpt.go:41", after := #[{ on := 25, ground := Ground.guard }], guard := some (25, true) }) (v := undef) rfl (by kernel_rfl) (by kernel_rfl) (by kernel_rfl) (fun _ _ _ h => h) (Or.inr ⟨by rfl, rfl⟩) (by assumption) ?_
        (try simp only [Act.put, List.setIfInBounds_toArray, List.set_cons_zero, List.set_cons_succ])
        refine wpAnyH_take (i := 32) (oi := { dst := some 49, op := Op.call { callee := Callee.value (Operand.func 68), args := #[Operand.tmp 47, Operand.tmp 48], argTypes := #[88, 88] }, type := 3, pos := "ckpt.go:41", after := #[{ on := 30, ground := Ground.data }, { on := 31, ground := Ground.data }, { on := 25, ground := Ground.chain }, { on := 25, ground := Ground.guard }], guard := some (25, true) }) (v := undef) rfl (by kernel_rfl) (by kernel_rfl) (by kernel_rfl) (fun _ _ _ h => h) (Or.inr ⟨by rfl, rfl⟩) (by assumption) ?_
        (try simp only [Act.put, List.setIfInBounds_toArray, List.set_cons_zero, List.set_cons_succ])
        refine wpAnyH_take (i := 33) (oi := { dst := some 50, op := Op.binOp BinOp.geq 3 (Operand.tmp 49) (Operand.const (Value.int IntKind.i64 0)) 3, type := 4, pos := "ckpt.go:41", after := #[{ on := 32, ground := Ground.data }, { on := 25, ground := Ground.guard }], guard := some (25, true) }) (v := undef) rfl (by kernel_rfl) (by kernel_rfl) (by kernel_rfl) (fun _ _ _ h => h) (Or.inr ⟨by rfl, rfl⟩) (by assumption) ?_
        (try simp only [Act.put, List.setIfInBounds_toArray, List.set_cons_zero, List.set_cons_succ])
        refine wpAnyH_take (i := 34) (oi := { dst := some 51, op := Op.pick (Operand.tmp 42) (Operand.tmp 50) (Operand.const (Value.bool false)), type := 4, pos := "ckpt.go:41", after := #[{ on := 25, ground := Ground.data }, { on := 33, ground := Ground.data }, { on := 22, ground := Ground.guard }], guard := some (22, false) }) (v := ?_) rfl (by kernel_rfl) (by kernel_rfl) (by kernel_rfl) (fun _ _ _ h => h) (Or.inl ⟨by rfl, ?_⟩) (by assumption) ?_
        rotate_left
        · (intro w hSw; (try dsimp only at hSw); go_simp; (try with_reducible rfl))
        (try simp only [Act.put, List.setIfInBounds_toArray, List.set_cons_zero, List.set_cons_succ])
        refine wpAnyH_take (i := 35) (oi := { dst := some 52, op := Op.pick (Operand.tmp 39) (Operand.const (Value.bool true)) (Operand.tmp 51), type := 4, pos := "ckpt.go:41", after := #[{ on := 22, ground := Ground.data }, { on := 34, ground := Ground.data }], guard := none }) (v := ?_) rfl (by kernel_rfl) (by kernel_rfl) (by kernel_rfl) (fun _ _ _ h => h) (Or.inl ⟨by rfl, ?_⟩) (by assumption) ?_
        rotate_left
        · (intro w hSw; (try dsimp only at hSw); go_simp; (try with_reducible rfl))
        (try simp only [Act.put, List.setIfInBounds_toArray, List.set_cons_zero, List.set_cons_succ])
        refine wpAnyH_done (by kernel_rfl) ?_ _
        go_wp2
        go_roundg (gk - 1)
        case measure => have := HK.out; omega
        case rel => exact ⟨1, rfl, by omega, ⟨by have := HK.out; omega⟩, ⟨HIN2.out⟩, ⟨fun j hj => by omega⟩, ⟨HXS.out⟩, ⟨below_drew HBX.out⟩⟩
      | succ k =>
        obtain ⟨q, hq⟩ : ∃ q, l.getD k plc0 = q := ⟨_, rfl⟩
        obtain ⟨ad', e', -, -, -, f0, f1, f2, f3⟩ := pl_at (Kd.C_below HC.out HBX.out) k (by omega) hq
        obtain rfl := Option.some.inj e'
        have HQ := Aside0.mk hq
        obtain ⟨qt, qb, qz, qk⟩ := q
        have HQ4 := Aside0.mk (show P4 X (ad.add (k * 4)) (qt, qb, qz, qk) from ⟨f0, f1, f2, f3⟩)
        clear e' hq f0 f1 f2 f3
        obtain ⟨cc, hcc⟩ : ∃ c, cmpP (qt, qb, qz, qk) (pt, pb, pz, pk) = c := ⟨_, rfl⟩
        have HCC := Aside0.mk hcc
        obtain ⟨t6, ht6⟩ : ∃ t, decide ((0 : Int) ≤ cc) = t := ⟨_, rfl⟩
        have HT6 := Aside0.mk (show (!decide (Below2 (qt, qb, qz, qk) (pt, pb, pz, pk))) = t6 by rw [← cmpP_ge, hcc]; exact ht6)
        clear hcc
        have qi : decide ((0 : Int) < ((k + 1 : Nat) : Int)) = true := decide_eq_true (by omega)
        have hk0 : (0 : Int) ≤ (k : Int) := by omega
        have hk1 : (k : Int) < (n : Int) := by omega
        have hkw : IntKind.i64.wrap (k : Int) = (k : Int) := IntWalk.i64_in _ (by omega)
        refine wp_region_held_drew (S := fun w' => w'.cell? ⟨g, 0, none⟩ = some (.int .i64 z) ∧ w'.cell? ⟨g, 1, none⟩ = some (.int .i64 zb) ∧ w'.cell? ⟨gp + 1, 0, none⟩ = some (.int .i64 pz) ∧ w'.cell? ⟨gp + 1, 1, none⟩ = some (.int .i64 pk) ∧ w'.cell? ⟨gp, 0, none⟩ = some (.int .u32 (pt : Int)) ∧ w'.cell? ⟨gp, 1, none⟩ = some (.int .u64 (pb : Int)) ∧ w'.cell? ⟨gp, 2, none⟩ = some (.int .i64 pz) ∧ w'.cell? ⟨gp, 3, none⟩ = some (.int .i64 pk) ∧ w'.cell? (ad.add (k * 4)) = some (.int .u32 (qt : Int)) ∧ w'.cell? ⟨(ad.add (k * 4)).block, (ad.add (k * 4)).off + 1, none⟩ = some (.int .u64 (qb : Int)) ∧ w'.cell? ⟨(ad.add (k * 4)).block, (ad.add (k * 4)).off + 2, none⟩ = some (.int .i64 qz) ∧ w'.cell? ⟨(ad.add (k * 4)).block, (ad.add (k * 4)).off + 3, none⟩ = some (.int .i64 qk)) (by kernel_rfl) (M12 (HM4.out.below (below_drew (Below.refl X.heap.size X))) (HP4.out.below (below_drew (Below.refl X.heap.size X))) (HQ4.out.below (below_drew (Below.refl X.heap.size X)))) (fun hHeld => ?_)
        refine wpAnyH_take (i := 0) (oi := { dst := some 17, op := Op.fieldAddr 59 (Operand.tmp 7) 0, type := 0, pos := "ckpt.go:41", after := #[], guard := none }) (v := ?_) rfl (by kernel_rfl) (by kernel_rfl) (by kernel_rfl) (fun _ _ _ h => h) (Or.inl ⟨by rfl, ?_⟩) (by assumption) ?_
        rotate_left
        · (intro w hSw; (try dsimp only at hSw); go_simp; (try with_reducible rfl))
        (try simp only [Act.put, List.setIfInBounds_toArray, List.set_cons_zero, List.set_cons_succ])
        refine wpAnyH_take (i := 1) (oi := { dst := some 18, op := Op.load 3 (Operand.tmp 17), type := 3, pos := "ckpt.go:41", after := #[{ on := 0, ground := Ground.data }], guard := none }) (v := ?_) rfl (by kernel_rfl) (by kernel_rfl) (by kernel_rfl) (fun _ _ _ h => h) (Or.inl ⟨by rfl, ?_⟩) (by assumption) ?_
        rotate_left
        · (intro w hSw; (try dsimp only at hSw); go_simp; (try with_reducible rfl))
        (try simp only [Act.put, List.setIfInBounds_toArray, List.set_cons_zero, List.set_cons_succ])
        refine wpAnyH_take (i := 2) (oi := { dst := some 19, op := Op.binOp BinOp.lss 3 (Operand.tmp 18) (Operand.const (Value.int IntKind.i64 2)) 3, type := 4, pos := "ckpt.go:41", after := #[{ on := 1, ground := Ground.data }], guard := none }) (v := ?_) rfl (by kernel_rfl) (by kernel_rfl) (by kernel_rfl) (fun _ _ _ h => h) (Or.inl ⟨by rfl, ?_⟩) (by assumption) ?_
        rotate_left
        · (intro w hSw; (try dsimp only at hSw); go_simp; (try with_reducible rfl))
        (try simp only [Act.put, List.setIfInBounds_toArray, List.set_cons_zero, List.set_cons_succ])
        refine wpAnyH_take (i := 3) (oi := { dst := some 20, op := Op.move (Operand.tmp 19), type := 4, pos := "ckpt.go:41", after := #[{ on := 2, ground := Ground.data }], guard := none }) (v := ?_) rfl (by kernel_rfl) (by kernel_rfl) (by kernel_rfl) (fun _ _ _ h => h) (Or.inl ⟨by rfl, ?_⟩) (by assumption) ?_
        rotate_left
        · (intro w hSw; (try dsimp only at hSw); go_simp; (try with_reducible rfl))
        (try simp only [Act.put, List.setIfInBounds_toArray, List.set_cons_zero, List.set_cons_succ])
        refine wpAnyH_take (i := 4) (oi := { dst := some 21, op := Op.fieldAddr 59 (Operand.tmp 7) 0, type := 0, pos := "ckpt.go:41", after := #[{ on := 3, ground := Ground.guard }], guard := some (3, false) }) (v := ?_) rfl (by kernel_rfl) (by kernel_rfl) (by kernel_rfl) (fun _ _ _ h => h) (Or.inl ⟨by rfl, ?_⟩) (by assumption) ?_
        rotate_left
        · (intro w hSw; (try dsimp only at hSw); go_simp; (try with_reducible rfl))
        (try simp only [Act.put, List.setIfInBounds_toArray, List.set_cons_zero, List.set_cons_succ])
        refine wpAnyH_take (i := 5) (oi := { dst := some 22, op := Op.load 3 (Operand.tmp 21), type := 3, pos := "ckpt.go:41", after := #[{ on := 4, ground := Ground.data }, { on := 3, ground := Ground.guard }], guard := some (3, false) }) (v := ?_) rfl (by kernel_rfl) (by kernel_rfl) (by kernel_rfl) (fun _ _ _ h => h) (Or.inl ⟨by rfl, ?_⟩) (by assumption) ?_
        rotate_left
        · (intro w hSw; (try dsimp only at hSw); go_simp; (try with_reducible rfl))
        (try simp only [Act.put, List.setIfInBounds_toArray, List.set_cons_zero, List.set_cons_succ])
        refine wpAnyH_take (i := 6) (oi := { dst := some 23, op := Op.fieldAddr 23 (Operand.tmp 2) 0, type := 0, pos := "ckpt.go:41", after := #[{ on := 3, ground := Ground.guard }], guard := some (3, false) }) (v := ?_) rfl (by kernel_rfl) (by kernel_rfl) (by kernel_rfl) (fun _ _ _ h => h) (Or.inl ⟨by rfl, ?_⟩) (by assumption) ?_
        rotate_left
        · (intro w hSw; (try dsimp only at hSw); go_simp; (try with_reducible rfl))
        (try simp only [Act.put, List.setIfInBounds_toArray, List.set_cons_zero, List.set_cons_succ])
        refine wpAnyH_take (i := 7) (oi := { dst := some 24, op := Op.load 3 (Operand.tmp 23), type := 3, pos := "ckpt.go:41", after := #[{ on := 6, ground := Ground.data }, { on := 3, ground := Ground.guard }], guard := some (3, false) }) (v := ?_) rfl (by kernel_rfl) (by kernel_rfl) (by kernel_rfl) (fun _ _ _ h => h) (Or.inl ⟨by rfl, ?_⟩) (by assumption) ?_
        rotate_left
        · (intro w hSw; (try dsimp only at hSw); go_simp; (try with_reducible rfl))
        (try simp only [Act.put, List.setIfInBounds_toArray, List.set_cons_zero, List.set_cons_succ])
        refine wpAnyH_take (i := 8) (oi := { dst := some 25, op := Op.binOp BinOp.geq 3 (Operand.tmp 22) (Operand.tmp 24) 3, type := 4, pos := "ckpt.go:41", after := #[{ on := 5, ground := Ground.data }, { on := 7, ground := Ground.data }, { on := 3, ground := Ground.guard }], guard := some (3, false) }) (v := ?_) rfl (by kernel_rfl) (by kernel_rfl) (by kernel_rfl) (fun _ _ _ h => h) (Or.inl ⟨by rfl, ?_⟩) (by assumption) ?_
        rotate_left
        · (intro w hSw; (try dsimp only at hSw); go_simp; (try with_reducible rfl))
        (try simp only [Act.put, List.setIfInBounds_toArray, List.set_cons_zero, List.set_cons_succ])
        refine wpAnyH_take (i := 9) (oi := { dst := some 26, op := Op.pick (Operand.tmp 20) (Operand.const (Value.bool true)) (Operand.tmp 25), type := 4, pos := "ckpt.go:41", after := #[{ on := 3, ground := Ground.data }, { on := 8, ground := Ground.data }], guard := none }) (v := ?_) rfl (by kernel_rfl) (by kernel_rfl) (by kernel_rfl) (fun _ _ _ h => h) (Or.inl ⟨by rfl, ?_⟩) (by assumption) ?_
        rotate_left
        · (intro w hSw; (try dsimp only at hSw); go_simp; (try with_reducible rfl))
        (try simp only [Act.put, List.setIfInBounds_toArray, List.set_cons_zero, List.set_cons_succ])
        refine wpAnyH_take (i := 10) (oi := { dst := some 27, op := Op.move (Operand.tmp 26), type := 4, pos := "ckpt.go:41", after := #[{ on := 9, ground := Ground.data }, { on := 3, ground := Ground.chain }], guard := none }) (v := ?_) rfl (by kernel_rfl) (by kernel_rfl) (by kernel_rfl) (fun _ _ _ h => h) (Or.inl ⟨by rfl, ?_⟩) (by assumption) ?_
        rotate_left
        · (intro w hSw; (try dsimp only at hSw); go_simp; (try with_reducible rfl))
        (try simp only [Act.put, List.setIfInBounds_toArray, List.set_cons_zero, List.set_cons_succ])
        refine wpAnyH_take (i := 11) (oi := { dst := some 28, op := Op.fieldAddr 59 (Operand.tmp 7) 1, type := 0, pos := "ckpt.go:41", after := #[{ on := 10, ground := Ground.guard }], guard := some (10, false) }) (v := ?_) rfl (by kernel_rfl) (by kernel_rfl) (by kernel_rfl) (fun _ _ _ h => h) (Or.inl ⟨by rfl, ?_⟩) (by assumption) ?_
        rotate_left
        · (intro w hSw; (try dsimp only at hSw); go_simp; (try with_reducible rfl))
        (try simp only [Act.put, List.setIfInBounds_toArray, List.set_cons_zero, List.set_cons_succ])
        refine wpAnyH_take (i := 12) (oi := { dst := some 29, op := Op.load 3 (Operand.tmp 28), type := 3, pos := "ckpt.go:41", after := #[{ on := 11, ground := Ground.data }, { on := 10, ground := Ground.guard }], guard := some (10, false) }) (v := ?_) rfl (by kernel_rfl) (by kernel_rfl) (by kernel_rfl) (fun _ _ _ h => h) (Or.inl ⟨by rfl, ?_⟩) (by assumption) ?_
        rotate_left
        · (intro w hSw; (try dsimp only at hSw); go_simp; (try with_reducible rfl))
        (try simp only [Act.put, List.setIfInBounds_toArray, List.set_cons_zero, List.set_cons_succ])
        refine wpAnyH_take (i := 13) (oi := { dst := some 30, op := Op.binOp BinOp.lss 3 (Operand.tmp 29) (Operand.const (Value.int IntKind.i64 0)) 3, type := 4, pos := "ckpt.go:41", after := #[{ on := 12, ground := Ground.data }, { on := 10, ground := Ground.guard }], guard := some (10, false) }) (v := ?_) rfl (by kernel_rfl) (by kernel_rfl) (by kernel_rfl) (fun _ _ _ h => h) (Or.inl ⟨by rfl, ?_⟩) (by assumption) ?_
        rotate_left
        · (intro w hSw; (try dsimp only at hSw); go_simp; (try with_reducible rfl))
        (try simp only [Act.put, List.setIfInBounds_toArray, List.set_cons_zero, List.set_cons_succ])
        refine wpAnyH_take (i := 14) (oi := { dst := some 31, op := Op.pick (Operand.tmp 27) (Operand.const (Value.bool true)) (Operand.tmp 30), type := 4, pos := "ckpt.go:41", after := #[{ on := 10, ground := Ground.data }, { on := 13, ground := Ground.data }], guard := none }) (v := ?_) rfl (by kernel_rfl) (by kernel_rfl) (by kernel_rfl) (fun _ _ _ h => h) (Or.inl ⟨by rfl, ?_⟩) (by assumption) ?_
        rotate_left
        · (intro w hSw; (try dsimp only at hSw); go_simp; (try with_reducible rfl))
        (try simp only [Act.put, List.setIfInBounds_toArray, List.set_cons_zero, List.set_cons_succ])
        refine wpAnyH_take (i := 15) (oi := { dst := some 32, op := Op.move (Operand.tmp 31), type := 4, pos := "ckpt.go:41", after := #[{ on := 14, ground := Ground.data }, { on := 10, ground := Ground.chain }], guard := none }) (v := ?_) rfl (by kernel_rfl) (by kernel_rfl) (by kernel_rfl) (fun _ _ _ h => h) (Or.inl ⟨by rfl, ?_⟩) (by assumption) ?_
        rotate_left
        · (intro w hSw; (try dsimp only at hSw); go_simp; (try with_reducible rfl))
        (try simp only [Act.put, List.setIfInBounds_toArray, List.set_cons_zero, List.set_cons_succ])
        refine wpAnyH_take (i := 16) (oi := { dst := some 33, op := Op.fieldAddr 59 (Operand.tmp 7) 1, type := 0, pos := "ckpt.go:41", after := #[{ on := 15, ground := Ground.guard }], guard := some (15, false) }) (v := ?_) rfl (by kernel_rfl) (by kernel_rfl) (by kernel_rfl) (fun _ _ _ h => h) (Or.inl ⟨by rfl, ?_⟩) (by assumption) ?_
        rotate_left
        · (intro w hSw; (try dsimp only at hSw); go_simp; (try with_reducible rfl))
        (try simp only [Act.put, List.setIfInBounds_toArray, List.set_cons_zero, List.set_cons_succ])
        refine wpAnyH_take (i := 17) (oi := { dst := some 34, op := Op.load 3 (Operand.tmp 33), type := 3, pos := "ckpt.go:41", after := #[{ on := 16, ground := Ground.data }, { on := 15, ground := Ground.guard }], guard := some (15, false) }) (v := ?_) rfl (by kernel_rfl) (by kernel_rfl) (by kernel_rfl) (fun _ _ _ h => h) (Or.inl ⟨by rfl, ?_⟩) (by assumption) ?_
        rotate_left
        · (intro w hSw; (try dsimp only at hSw); go_simp; (try with_reducible rfl))
        (try simp only [Act.put, List.setIfInBounds_toArray, List.set_cons_zero, List.set_cons_succ])
        refine wpAnyH_take (i := 18) (oi := { dst := some 35, op := Op.fieldAddr 23 (Operand.tmp 2) 1, type := 0, pos := "ckpt.go:41", after := #[{ on := 15, ground := Ground.guard }], guard := some (15, false) }) (v := ?_) rfl (by kernel_rfl) (by kernel_rfl) (by kernel_rfl) (fun _ _ _ h => h) (Or.inl ⟨by rfl, ?_⟩) (by assumption) ?_
        rotate_left
        · (intro w hSw; (try dsimp only at hSw); go_simp; (try with_reducible rfl))
        (try simp only [Act.put, List.setIfInBounds_toArray, List.set_cons_zero, List.set_cons_succ])
        refine wpAnyH_take (i := 19) (oi := { dst := some 36, op := Op.load 3 (Operand.tmp 35), type := 3, pos := "ckpt.go:41", after := #[{ on := 18, ground := Ground.data }, { on := 15, ground := Ground.guard }], guard := some (15, false) }) (v := ?_) rfl (by kernel_rfl) (by kernel_rfl) (by kernel_rfl) (fun _ _ _ h => h) (Or.inl ⟨by rfl, ?_⟩) (by assumption) ?_
        rotate_left
        · (intro w hSw; (try dsimp only at hSw); go_simp; (try with_reducible rfl))
        (try simp only [Act.put, List.setIfInBounds_toArray, List.set_cons_zero, List.set_cons_succ])
        refine wpAnyH_take (i := 20) (oi := { dst := some 37, op := Op.binOp BinOp.geq 3 (Operand.tmp 34) (Operand.tmp 36) 3, type := 4, pos := "ckpt.go:41", after := #[{ on := 17, ground := Ground.data }, { on := 19, ground := Ground.data }, { on := 15, ground := Ground.guard }], guard := some (15, false) }) (v := ?_) rfl (by kernel_rfl) (by kernel_rfl) (by kernel_rfl) (fun _ _ _ h => h) (Or.inl ⟨by rfl, ?_⟩) (by assumption) ?_
        rotate_left
        · (intro w hSw; (try dsimp only at hSw); go_simp; (try with_reducible rfl))
        (try simp only [Act.put, List.setIfInBounds_toArray, List.set_cons_zero, List.set_cons_succ])
        refine wpAnyH_take (i := 21) (oi := { dst := some 38, op := Op.pick (Operand.tmp 32) (Operand.const (Value.bool true)) (Operand.tmp 37), type := 4, pos := "ckpt.go:41", after := #[{ on := 15, ground := Ground.data }, { on := 20, ground := Ground.data }], guard := none }) (v := ?_) rfl (by kernel_rfl) (by kernel_rfl) (by kernel_rfl) (fun _ _ _ h => h) (Or.inl ⟨by rfl, ?_⟩) (by assumption) ?_
        rotate_left
        · (intro w hSw; (try dsimp only at hSw); go_simp; (try with_reducible rfl))
        (try simp only [Act.put, List.setIfInBounds_toArray, List.set_cons_zero, List.set_cons_succ])
        refine wpAnyH_take (i := 22) (oi := { dst := some 39, op := Op.move (Operand.tmp 38), type := 4, pos := "ckpt.go:41", after := #[{ on := 21, ground := Ground.data }, { on := 15, ground := Ground.chain }], guard := none }) (v := ?_) rfl (by kernel_rfl) (by kernel_rfl) (by kernel_rfl) (fun _ _ _ h => h) (Or.inl ⟨by rfl, ?_⟩) (by assumption) ?_
        rotate_left
        · (intro w hSw; (try dsimp only at hSw); go_simp; (try with_reducible rfl))
        (try simp only [Act.put, List.setIfInBounds_toArray, List.set_cons_zero, List.set_cons_succ])
        refine wpAnyH_take (i := 23) (oi := { dst := some 40, op := Op.move (Operand.tmp 5), type := 3, pos := "ckpt.go:41", after := #[{ on := 22, ground := Ground.guard }], guard := some (22, false) }) (v := ?_) rfl (by kernel_rfl) (by kernel_rfl) (by kernel_rfl) (fun _ _ _ h => h) (Or.inl ⟨by rfl, ?_⟩) (by assumption) ?_
        rotate_left
        · (intro w hSw; (try dsimp only at hSw); go_simp; (try with_reducible rfl))
        (try simp only [Act.put, List.setIfInBounds_toArray, List.set_cons_zero, List.set_cons_succ])
        refine wpAnyH_take (i := 24) (oi := { dst := some 41, op := Op.binOp BinOp.gtr 3 (Operand.tmp 40) (Operand.const (Value.int IntKind.i64 0)) 3, type := 4, pos := "ckpt.go:41", after := #[{ on := 23, ground := Ground.data }, { on := 22, ground := Ground.guard }], guard := some (22, false) }) (v := ?_) rfl (by kernel_rfl) (by kernel_rfl) (by kernel_rfl) (fun _ _ _ h => h) (Or.inl ⟨by rfl, ?_⟩) (by assumption) ?_
        rotate_left
        · (intro w hSw; (try dsimp only at hSw); go_simp; (try with_reducible rfl))
        (try simp only [Act.put, List.setIfInBounds_toArray, List.set_cons_zero, List.set_cons_succ])
        refine wpAnyH_take (i := 25) (oi := { dst := some 42, op := Op.move (Operand.tmp 41), type := 4, pos := "ckpt.go:41", after := #[{ on := 24, ground := Ground.data }, { on := 22, ground := Ground.chain }, { on := 22, ground := Ground.guard }], guard := some (22, false) }) (v := ?_) rfl (by kernel_rfl) (by kernel_rfl) (by kernel_rfl) (fun _ _ _ h => h) (Or.inl ⟨by rfl, ?_⟩) (by assumption) ?_
        rotate_left
        · (intro w hSw; (try dsimp only at hSw); go_simp; (try with_reducible rfl))
        (try simp only [Act.put, List.setIfInBounds_toArray, List.set_cons_zero, List.set_cons_succ])
        refine wpAnyH_take (i := 26) (oi := { dst := some 43, op := Op.move (Operand.tmp 1), type := 25, pos := "ckpt.go:41", after := #[{ on := 25, ground := Ground.guard }], guard := some (25, true) }) (v := ?_) rfl (by kernel_rfl) (by kernel_rfl) (by kernel_rfl) (fun _ _ _ h => h) (Or.inl ⟨by rfl, ?_⟩) (by assumption) ?_
        rotate_left
        · (intro w hSw; (try dsimp only at hSw); go_simp; (try with_reducible rfl))
        (try simp only [Act.put, List.setIfInBounds_toArray, List.set_cons_zero, List.set_cons_succ])
        refine wpAnyH_take (i := 27) (oi := { dst := some 44, op := Op.move (Operand.tmp 5), type := 3, pos := "ckpt.go:41", after := #[{ on := 25, ground := Ground.guard }], guard := some (25, true) }) (v := ?_) rfl (by kernel_rfl) (by kernel_rfl) (by kernel_rfl) (fun _ _ _ h => h) (Or.inl ⟨by rfl, ?_⟩) (by assumption) ?_
        rotate_left
        · (intro w hSw; (try dsimp only at hSw); go_simp; (try with_reducible rfl))
        (try simp only [Act.put, List.setIfInBounds_toArray, List.set_cons_zero, List.set_cons_succ])
        refine wpAnyH_take (i := 28) (oi := { dst := some 45, op := Op.binOp BinOp.sub 3 (Operand.tmp 44) (Operand.const (Value.int IntKind.i64 1)) 3, type := 3, pos := "ckpt.go:41", after := #[{ on := 27, ground := Ground.data }, { on := 25, ground := Ground.guard }], guard := some (25, true) }) (v := ?_) rfl (by kernel_rfl) (by kernel_rfl) (by kernel_rfl) (fun _ _ _ h => h) (Or.inl ⟨by rfl, ?_⟩) (by assumption) ?_
        rotate_left
        · (intro w hSw; (try dsimp only at hSw); go_simp; (try with_reducible rfl))
        (try simp only [Act.put, List.setIfInBounds_toArray, List.set_cons_zero, List.set_cons_succ])
        refine wpAnyH_take (i := 29) (oi := { dst := some 46, op := Op.indexAddr 25 (Operand.tmp 43) (Operand.tmp 45), type := 0, pos := "ckpt.go:41", after := #[{ on := 26, ground := Ground.data }, { on := 28, ground := Ground.data }, { on := 25, ground := Ground.guard }], guard := some (25, true) }) (v := ?_) rfl (by kernel_rfl) (by kernel_rfl) (by kernel_rfl) (fun _ _ _ h => h) (Or.inl ⟨by rfl, ?_⟩) (by assumption) ?_
        rotate_left
        · (intro w hSw; (try dsimp only at hSw); go_simp; (try with_reducible rfl))
        (try simp only [Act.put, List.setIfInBounds_toArray, List.set_cons_zero, List.set_cons_succ])
        refine wpAnyH_take (i := 30) (oi := { dst := some 47, op := Op.load 88 (Operand.tmp 46), type := 88, pos := "ckpt.go:41", after := #[{ on := 29, ground := Ground.data }, { on := 25, ground := Ground.guard }], guard := some (25, true) }) (v := ?_) rfl (by kernel_rfl) (by kernel_rfl) (by kernel_rfl) (fun _ _ _ h => h) (Or.inl ⟨by rfl, ?_⟩) (by assumption) ?_
        rotate_left
        · (intro w hSw; (try dsimp only at hSw); go_simp; (try with_reducible rfl))
        (try simp only [Act.put, List.setIfInBounds_toArray, List.set_cons_zero, List.set_cons_succ])
        refine wpAnyH_take (i := 31) (oi := { dst := some 48, op := Op.load 88 (Operand.tmp 6), type := 88, pos := "ckpt.go:41", after := #[{ on := 25, ground := Ground.guard }], guard := some (25, true) }) (v := ?_) rfl (by kernel_rfl) (by kernel_rfl) (by kernel_rfl) (fun _ _ _ h => h) (Or.inl ⟨by rfl, ?_⟩) (by assumption) ?_
        rotate_left
        · (intro w hSw; (try dsimp only at hSw); go_simp; (try with_reducible rfl))
        (try simp only [Act.put, List.setIfInBounds_toArray, List.set_cons_zero, List.set_cons_succ])
        refine wpAnyH_ready (rs := [32]) (by kernel_rfl) (by simp) ?_
        refine (AllReadyH.cons (o := { dst := some 49, op := Op.call { callee := Callee.value (Operand.func 68), args := #[Operand.tmp 47, Operand.tmp 48], argTypes := #[88, 88] }, type := 3, pos := "ckpt.go:41", after := #[{ on := 30, ground := Ground.data }, { on := 31, ground := Ground.data }, { on := 25, ground := Ground.chain }, { on := 25, ground := Ground.guard }], guard := some (25, true) }) rfl (fun K hK => ?_) AllReadyH.nil)
        go_simp
        refine (compare_calls (qt, qb, qz, qk) (pt, pb, pz, pk) _).mono ?_
        rintro e w8 ⟨rfl, hb8⟩
        rw [HCC.out]
        have HB8 := Aside0.mk (below_go (below_drew (Below.refl X.heap.size X)) hb8)
        clear hb8
        refine hK.out _ _ ?_ (fun hHeld => ?_)
        · exact M12 (HM4.out.below HB8.out) (HP4.out.below HB8.out) (HQ4.out.below HB8.out)
        clear hK K
        (try simp only [Act.put, List.setIfInBounds_toArray, List.set_cons_zero, List.set_cons_succ])
        refine wpAnyH_take (i := 33) (oi := { dst := some 50, op := Op.binOp BinOp.geq 3 (Operand.tmp 49) (Operand.const (Value.int IntKind.i64 0)) 3, type := 4, pos := "ckpt.go:41", after := #[{ on := 32, ground := Ground.data }, { on := 25, ground := Ground.guard }], guard := some (25, true) }) (v := ?_) rfl (by kernel_rfl) (by kernel_rfl) (by kernel_rfl) (fun _ _ _ h => h) (Or.inl ⟨by rfl, ?_⟩) (by assumption) ?_
        rotate_left
        · (intro w hSw; (try dsimp only at hSw); go_simp; (try with_reducible rfl))
        (try simp only [Act.put, List.setIfInBounds_toArray, List.set_cons_zero, List.set_cons_succ])
        refine wpAnyH_take (i := 34) (oi := { dst := some 51, op := Op.pick (Operand.tmp 42) (Operand.tmp 50) (Operand.const (Value.bool false)), type := 4, pos := "ckpt.go:41", after := #[{ on := 25, ground := Ground.data }, { on := 33, ground := Ground.data }, { on := 22, ground := Ground.guard }], guard := some (22, false) }) (v := ?_) rfl (by kernel_rfl) (by kernel_rfl) (by kernel_rfl) (fun _ _ _ h => h) (Or.inl ⟨by rfl, ?_⟩) (by assumption) ?_
        rotate_left
        · (intro w hSw; (try dsimp only at hSw); go_simp; (try with_reducible rfl))
        (try simp only [Act.put, List.setIfInBounds_toArray, List.set_cons_zero, List.set_cons_succ])
        refine wpAnyH_take (i := 35) (oi := { dst := some 52, op := Op.pick (Operand.tmp 39) (Operand.const (Value.bool true)) (Operand.tmp 51), type := 4, pos := "ckpt.go:41", after := #[{ on := 22, ground := Ground.data }, { on := 34, ground := Ground.data }], guard := none }) (v := ?_) rfl (by kernel_rfl) (by kernel_rfl) (by kernel_rfl) (fun _ _ _ h => h) (Or.inl ⟨by rfl, ?_⟩) (by assumption) ?_
        rotate_left
        · (intro w hSw; (try dsimp only at hSw); go_simp; (try with_reducible rfl))
        (try simp only [Act.put, List.setIfInBounds_toArray, List.set_cons_zero, List.set_cons_succ])
        refine wpAnyH_done (by kernel_rfl) ?_ _
        cases t6 with
        | true =>
          have HNM := Aside0.mk (show decide (MayP z zb l) = false from decide_eq_false (fun hh => by
            have h1 := (rises_iff l).1 hh.2 k (by rw [HL.out]; exact hlt)
            rw [HQ.out, HP.out] at h1
            have h2 := HT6.out
            rw [decide_eq_true h1] at h2
            cases h2))
          go_wp2
          go_ret
          exact ⟨by rw [HNM.out]; rfl, below_go HBX.out HB8.out⟩
        | false =>
          go_wp2
          go_roundg (gk - 1)
          case measure => have := HK.out; omega
          case rel => exact ⟨k + 1 + 1, by congr 1, by omega, ⟨by have := HK.out; omega⟩, ⟨HIN2.out⟩, ⟨fun j hj => by
            by_cases hjk : j + 1 < k + 1
            · exact HRI.out j hjk
            · obtain rfl : j = k := by omega
              rw [HQ.out, HP.out]
              have h2 := HT6.out
              by_cases hb : Below2 (qt, qb, qz, qk) (pt, pb, pz, pk)
              · exact hb
              · rw [decide_eq_false hb] at h2
                cases h2⟩, ⟨(HB8.out.block g (Array.getElem?_eq_some_iff.1 HXS.out).1).trans HXS.out⟩, ⟨below_go HBX.out HB8.out⟩⟩
    · obtain rfl : i = n := by omega
      have hd0 : decide ((i : Int) < (i : Int)) = false := decide_eq_false (by omega)
      have HM := Aside0.mk (show decide (MayP z zb l) = true from decide_eq_true ⟨fun p hp => by
        obtain ⟨j, hj, rfl⟩ := List.mem_iff_getElem.1 hp
        have := HIN.out j (by rw [← HL.out]; exact hj)
        rwa [List.getD_eq_getElem?_getD, List.getElem?_eq_getElem hj] at this, (rises_iff l).2 (fun j hj => HRI.out j (by rw [← HL.out]; exact hj))⟩)
      go_wp2
      go_ret
      exact ⟨by rw [HM.out]; rfl, HBr.out⟩
end Go.Proofs.Ytkmeipblgdahoaa.Ck

/- What the program's check sums compute: crc.half, crc.Next, crc.Sum, coamingref01.Next, coamingref01.Sum: one contract each. -/
namespace Go.Proofs.Ytkmeipblgdahoaa.Crc
open Go.RowKit Go.Proofs.YtkmeipblgdahoaaW.PrintWords Go.Proofs.Ytkmeipblgdahoaa.Base
set_option linter.unusedVariables false
set_option linter.unusedSimpArgs false

def stpN : Nat → Nat → Nat
  | 0, x => x
  | k + 1, x => stpN k (stp x)

theorem half_calls (c : Nat) (hc : c < 4294967296) (w : World) :
    Calls Try.prog 92 #[.int .u32 (c : Int)] w fun e w' => e = .returned (.int .u32 (half c : Int)) ∧ w = w' := by
  go_enter Try.func92, Try.ntmps92
  go_wp2
  go_loopg [0, 3] 4 (fun k v0 v3 w' => ∃ (x : Nat), v0 = .int .u32 (x : Int) ∧ v3 = .int .i64 (4 - (k : Int)) ∧ x < 4294967296 ∧ k ≤ 4 ∧ Aside0 (stpN k x = half c) ∧ w = w')
  case atStart => exact ⟨c, rfl, rfl, hc, Nat.le_refl _, ⟨rfl⟩, rfl⟩
  case round =>
    obtain ⟨x, rfl, rfl, hx, hk, HA, rfl⟩ := hrel
    cases gk with
    | zero =>
      have he : x = half c := HA.out
      subst he
      go_wp2
      go_ret
      exact ⟨rfl, rfl⟩
    | succ k =>
      have hs := Aside0.mk (step_code x hx)
      have hl := stp_lt x hx
      go_wp2
      go_roundg k
      case measure => omega
      case rel => exact ⟨stp x, by rw [hs.out], by congr 1; omega, hl, by omega, HA, rfl⟩

theorem inv_code (c : Nat) (hc : c < 4294967296) : bits .xor .u32 IntKind.u32.max (c : Int) = ((inv c : Nat) : Int) := by
  have h := u32_xor_nat 4294967295 c (by omega) hc
  have e : (4294967295 ^^^ c) = inv c := by
    unfold inv
    apply Nat.eq_of_testBit_eq
    intro i
    have h1 := Nat.testBit_two_pow_sub_succ (x := c) (n := 32) hc i
    rw [show 2 ^ 32 - (c + 1) = 4294967295 - c by omega] at h1
    rw [h1, Nat.testBit_xor]
    have h2 := Nat.testBit_two_pow_sub_one 32 i
    rw [show 2 ^ 32 - 1 = 4294967295 by decide] at h2
    rw [h2]
    by_cases hi : i < 32
    · simp [hi]
    · have : c.testBit i = false := Nat.testBit_lt_two_pow (Nat.lt_of_lt_of_le hc (by
        rw [show 4294967296 = 2 ^ 32 by decide]; exact Nat.pow_le_pow_right (by omega) (by omega)))
      simp [hi, this]
  rw [e] at h
  exact h

theorem next_calls (c b : Nat) (hc : c < 4294967296) (hb : b < 256) (w : World) :
    Calls Try.prog 86 #[.int .u32 (c : Int), .int .u8 (b : Int)] w fun e w' => e = .returned (.int .u32 (nxt c b : Int)) ∧ w = w' := by
  have hsg : IntKind.u32.signed = false := rfl
  have e1 := inv_code c hc
  have hx := xor_byte_lt c b hb
  have e2 := u32_xor_nat (inv c) b (inv_lt c) (by omega)
  have h1 := half_lt _ hx
  have h2 := half_lt _ h1
  have e3 := inv_code _ h2
  have E3 := Aside0.mk e3
  clear e3
  go_enter Try.func86, Try.ntmps86
  go_wp2_with fail
  refine (half_calls _ hx _).mono ?_
  rintro e w1 ⟨rfl, rfl⟩
  go_wp2_with fail
  refine (half_calls _ h1 _).mono ?_
  rintro e w1 ⟨rfl, rfl⟩
  go_wp2
  go_ret
  refine ⟨?_, rfl⟩
  show Ending.returned (.int .u32 _) = _
  rw [E3.out]
  rfl

/-- The reference's: one round. -/
theorem ref_next_calls (c b : Nat) (hc : c < 4294967296) (hb : b < 256) (w : World) :
    Calls Try.prog 73 #[.int .u32 (c : Int), .int .u8 (b : Int)] w fun e w' => e = .returned (.int .u32 (nxt c b : Int)) ∧ w = w' := by
  have hsg : IntKind.u32.signed = false := rfl
  have e1 := inv_code c hc
  have hx := xor_byte_lt c b hb
  have e2 := u32_xor_nat (inv c) b (inv_lt c) (by omega)
  have h2 := half_lt _ (half_lt _ hx)
  have E3 := Aside0.mk (inv_code _ h2)
  go_enter Try.func73, Try.ntmps73
  go_wp2
  clear e1 e2
  go_loopg [5, 6, 7] 8 (fun k v3 v4 v5 w' => ∃ (x : Nat), v3 = .int .u32 (x : Int) ∧ v4 = .int .i64 (8 - (k : Int)) ∧ x < 4294967296 ∧ k ≤ 8 ∧ Aside0 (stpN k x = half (half (inv c ^^^ b))) ∧ w = w')
  case atStart => exact ⟨inv c ^^^ b, rfl, rfl, hx, Nat.le_refl _, ⟨rfl⟩, rfl⟩
  case round =>
    obtain ⟨x, rfl, rfl, hxx, hk, HA, rfl⟩ := hrel
    cases gk with
    | zero =>
      have he : x = half (half (inv c ^^^ b)) := HA.out
      subst he
      go_wp2
      go_ret
      refine ⟨?_, rfl⟩
      show Ending.returned (.int .u32 _) = _
      rw [E3.out]
      rfl
    | succ k =>
      have hl := stp_lt x hxx
      rcases Nat.mod_two_eq_zero_or_one x with h0 | h0
      · have hq : ((x : Int) % 2 == 1) = false := by rw [show (x : Int) % 2 = 0 by omega]; rfl
        have hv := Aside0.mk (stp_even x (by omega))
        go_wp2
        go_roundg k
        case measure => omega
        case rel => exact ⟨stp x, by rw [← hv.out]; congr 1, by congr 1; omega, hl, by omega, HA, rfl⟩
      · have hq : ((x : Int) % 2 == 1) = true := by rw [show (x : Int) % 2 = 1 by omega]; rfl
        have ho := Aside0.mk (stp_odd x h0)
        have e4 := u32_xor_nat (x / 2) 3988292384 (by omega) (by omega)
        rw [show ((x / 2 : Nat) : Int) = (x : Int) / 2 by omega, show ((3988292384 : Nat) : Int) = 3988292384 from rfl] at e4
        have E4 := Aside0.mk e4
        clear e4
        go_wp2
        go_roundg k
        case measure => omega
        case rel => exact ⟨stp x, by rw [E4.out, ho.out], by congr 1; omega, hl, by omega, HA, rfl⟩

theorem ref_sum_calls (A : Option Addr) (n cap : Nat) (xs : List UInt8) (w : World) (h : byte.C w A n xs) :
    Calls Try.prog 42 #[.slice A n cap] w fun e w' => e = .returned (.int .u32 (sum (nat xs) : Int)) ∧ w = w' := by
  obtain ⟨hlen, hmax⟩ := C_len h
  have HC := Aside0.mk h
  have HL := Aside0.mk hlen
  clear h hlen
  go_enter Try.func42, Try.ntmps42
  go_wp2
  go_loopg [3, 4] n (fun k v3 v4 w' => ∃ (x i : Nat), v3 = .int .u32 (x : Int) ∧ v4 = .int .i64 (i : Int) ∧ x < 4294967296 ∧ i ≤ n ∧ Aside0 (k + i = n) ∧ Aside0 (sumFrom x (nat (xs.drop i)) = sum (nat xs)) ∧ w = w')
  case atStart => exact ⟨0, 0, rfl, rfl, by omega, by omega, ⟨rfl⟩, ⟨rfl⟩, rfl⟩
  case round =>
    obtain ⟨x, i, rfl, rfl, hx, hi, HK, HA, rfl⟩ := hrel
    by_cases hlt : i < n
    · obtain ⟨ad, rfl, hc⟩ := byte_at HC.out i hlt
      have hb := (xs.getD i 0).toNat_lt
      have hn := nxt_lt x (xs.getD i 0).toNat
      have hd := Aside0.mk (drop_getD xs i 0 (by rw [HL.out]; exact hlt))
      generalize xs.getD i 0 = b at *
      go_wp2_with fail
      refine (ref_next_calls _ _ hx hb _).mono ?_
      rintro e w1 ⟨rfl, rfl⟩
      go_wp2
      go_roundg (gk - 1)
      case measure => have := HK.out; omega
      case rel => exact ⟨nxt x b.toNat, i + 1, rfl, by congr 1, hn, by omega, ⟨by have := HK.out; omega⟩, ⟨by rw [← HA.out, hd.out]; rfl⟩, rfl⟩
    · have he : x = sum (nat xs) := by have := HA.out; rw [List.drop_of_length_le (by rw [HL.out]; omega)] at this; exact this
      subst he
      go_wp2
      go_ret
      exact ⟨rfl, rfl⟩

def sumAll (c : Nat) (xss : List (List UInt8)) : Nat := xss.foldl (fun c xs => sumFrom c (nat xs)) c
theorem sumAll_flat (xss : List (List UInt8)) : ∀ c, sumAll c xss = sumFrom c (nat xss.flatten) := by
  induction xss with
  | nil => intro c; rfl
  | cons x l ih =>
    intro c
    rw [List.flatten_cons, nat_append, sumFrom_append, ← ih]
    rfl

theorem crc_sum_calls (A : Option Addr) (n cap : Nat) (xss : List (List UInt8)) (w : World) (h : (Kd.slice 5 byte).C w A n xss) :
    Calls Try.prog 70 #[.slice A n cap] w fun e w' => e = .returned (.int .u32 (sum (nat xss.flatten) : Int)) ∧ w = w' := by
  obtain ⟨hlen, hmax⟩ := C_len h
  have HC := Aside0.mk h
  have HL := Aside0.mk hlen
  have HF := Aside0.mk (sumAll_flat xss 0)
  clear h hlen
  go_enter Try.func70, Try.ntmps70
  go_wp2
  go_loopg [3, 10] n (fun k v3 v4 w' => ∃ (x i : Nat), v3 = .int .u32 (x : Int) ∧ v4 = .int .i64 (i : Int) ∧ x < 4294967296 ∧ i ≤ n ∧ Aside0 (k + i = n) ∧ Aside0 (sumAll x (xss.drop i) = sumAll 0 xss) ∧ w = w')
  case atStart => exact ⟨0, 0, rfl, rfl, by omega, by omega, ⟨rfl⟩, ⟨rfl⟩, rfl⟩
  case round =>
    obtain ⟨x, i, rfl, rfl, hx, hi, HK, HA, rfl⟩ := hrel
    by_cases hlt : i < n
    · obtain ⟨ad, A0, c0, rfl, hc, hl0, hr0⟩ := bytes_at HC.out i hlt
      have hd := Aside0.mk (drop_getD xss i [] (by rw [HL.out]; exact hlt))
      have HA1 : Aside0 (sumAll (sumFrom x (nat (xss.getD i []))) (xss.drop (i + 1)) = sumAll 0 xss) := ⟨by rw [← HA.out, hd.out]; rfl⟩
      clear HA hd
      generalize xss.getD i [] = xs at *
      obtain ⟨_, hmax0⟩ := C_len hr0
      have HC0 := Aside0.mk hr0
      clear hr0
      go_wp2
      go_loopg [3, 16] xs.length (fun k v3 v4 w' => ∃ (y j : Nat), v3 = .int .u32 (y : Int) ∧ v4 = .int .i64 (j : Int) ∧ y < 4294967296 ∧ j ≤ xs.length ∧ Aside0 (k + j = xs.length) ∧ Aside0 (sumFrom y (nat (xs.drop j)) = sumFrom x (nat xs)) ∧ w = w')
      case atStart => exact ⟨x, 0, rfl, rfl, hx, by omega, ⟨rfl⟩, ⟨rfl⟩, rfl⟩
      case round =>
        rename_i gk0 _ _ _ _ _
        obtain ⟨y, j, rfl, rfl, hy, hj, HK2, HA2, rfl⟩ := hrel
        by_cases hlt2 : j < xs.length
        · obtain ⟨ad0, rfl, hc0⟩ := byte_at HC0.out j hlt2
          have hb := (xs.getD j 0).toNat_lt
          have hn := nxt_lt y (xs.getD j 0).toNat
          have hd := Aside0.mk (drop_getD xs j 0 hlt2)
          generalize xs.getD j 0 = b at *
          go_wp2_with fail
          refine (next_calls _ _ hy hb _).mono ?_
          rintro e w1 ⟨rfl, rfl⟩
          go_wp2
          go_roundg (gk - 1)
          case measure => have := HK2.out; omega
          case rel => exact ⟨nxt y b.toNat, j + 1, rfl, by congr 1, hn, by omega, ⟨by have := HK2.out; omega⟩, ⟨by rw [← HA2.out, hd.out]; rfl⟩, rfl⟩
        · have he : y = sumFrom x (nat xs) := by have := HA2.out; rw [List.drop_of_length_le (by omega)] at this; exact this
          subst he
          go_wp2
          go_roundg (n - (i + 1))
          case measure => have := HK.out; omega
          case rel => exact ⟨sumFrom x (nat xs), i + 1, rfl, by congr 1, hy, by omega, ⟨by omega⟩, HA1, rfl⟩
    · have he : x = sumAll 0 xss := by have := HA.out; rw [List.drop_of_length_le (by rw [HL.out]; omega)] at this; exact this
      go_wp2
      go_ret
      refine ⟨?_, rfl⟩
      rw [he, HF.out]
      rfl
end Go.Proofs.Ytkmeipblgdahoaa.Crc

/- ckpt.block: places as a block. -/
namespace Go.Proofs.Ytkmeipblgdahoaa.Ck
open Go.RowKit Go.Proofs.YtkmeipblgdahoaaW.PrintWords Go.Proofs.YtkmeipblgdahoaaW.PrintMore Go.Proofs.Ytkmeipblgdahoaa.Base Go.Proofs.Ytkmeipblgdahoaa.Rc
set_option maxRecDepth 100000
set_option linter.unusedVariables false
set_option linter.unusedSimpArgs false
theorem set_lastC (at_ many q : Nat) (l : List Plc) (hd p : List UInt8) (i n7 bn : Nat) (h1 : pack [4, 4, 4, 4, 8, 2] [cmagic, 0, at_, many, q, i] = hd) (h2 : l.length = i) (h3 : p = hd ++ plsB l) (h4 : n7 = 26 + 16 * i) (hb : 16 * i + 27 ≤ bn) :
    (p ++ List.replicate ((bn : Int) - (n7 : Int)).toNat (0 : UInt8)).set (bn - 1) 231 = cpre at_ many q l bn := by
  have hpl : p.length = 26 + 16 * i := by
    rw [h3, List.length_append, plsB_len, h2, ← h1]
    simp [pack, wd, be_len]
  obtain ⟨k, hk⟩ : ∃ k, ((bn : Int) - (n7 : Int)).toNat = k + 1 := ⟨((bn : Int) - (n7 : Int)).toNat - 1, by omega⟩
  rw [hk, List.set_append, if_neg (by omega), show bn - 1 - p.length = k from by omega, List.replicate_succ', List.set_append, if_neg (by simp), List.length_replicate, Nat.sub_self]
  show p ++ (List.replicate k 0 ++ [231]) = _
  have hk2 : bn - 27 - 16 * l.length = k := by omega
  unfold cpre
  rw [hk2, h3, ← h1, h2]
  simp [pack, wd]
theorem copy_preC (at_ many q : Nat) (l : List Plc) (bn sm : Nat) (h : Crc.sum (Crc.nat (cpre at_ many q l bn)) = sm) : (cpre at_ many q l bn).take 4 ++ (pack [4] [sm] ++ (cpre at_ many q l bn).drop (4 + 4)) = cblk at_ many q l bn := by
  unfold cblk put4
  rw [h]
  simp [pack, wd]
theorem one_lit (W : World) (g n c : Nat) (xs : List UInt8) (h : byte.C W (some ⟨g, 0, none⟩) n xs) (hc : n ≤ c) :
    (Kd.slice 5 byte).C (W.alloc (.cells #[.slice (some ⟨g, 0, none⟩) n c] 39)) (some ⟨W.heap.size, 0, none⟩) 1 [xs] :=
  C_lit rfl (by exact ⟨K_bytes h hc, trivial⟩) rfl rfl (by simp)
set_option maxHeartbeats 4000000 in
theorem block_calls (z zb r : Int) (bn at_ many q : Nat) (A : Option Addr) (n c : Nat) (l : List Plc) (w : World) (h : plK.C w A n l) (hb : 16 * n + 27 ≤ bn) (hb2 : bn ≤ 4096) (hat : at_ < 65536) (hmany : many < 65536) (hq : q < 18446744073709551616) (hfit : ∀ x ∈ l, PlcFit x) :
    Calls Try.prog 37 #[.agg #[.int .i64 z, .int .i64 zb, .int .i64 (bn : Int), .int .i64 r], .agg #[.int .i64 (at_ : Int), .int .i64 (many : Int), .int .u64 (q : Int)], .slice A n c] w
      fun e w' => ∃ v, e = .returned v ∧ Base.Own w' w.heap.size v (cblk at_ many q l bn) ∧ Below w.heap.size w w' := by
  obtain ⟨hl, hm⟩ := C_len h
  have HL := Aside0.mk hl
  have HC := Aside0.mk h
  have HF := Aside0.mk hfit
  have HA := Aside0.mk (below_alloc (alloc_below w (.cells #[.int .i64 z, .int .i64 zb, .int .i64 (bn : Int), .int .i64 r] 23)) (.cells #[.int .i64 (at_ : Int), .int .i64 (many : Int), .int .u64 (q : Int)] 82))
  have HS := Aside0.mk (show ((w.alloc (.cells #[.int .i64 z, .int .i64 zb, .int .i64 (bn : Int), .int .i64 r] 23)).alloc (.cells #[.int .i64 (at_ : Int), .int .i64 (many : Int), .int .u64 (q : Int)] 82)).cell? ⟨w.heap.size, 2, none⟩ = some (.int .i64 (bn : Int)) by go_simp)
  clear h hl hfit
  have w1 : IntKind.u64.wrap (at_ : Int) = (at_ : Int) := wrap_u64_in (by omega) (by omega)
  have w2 : IntKind.u64.wrap (many : Int) = (many : Int) := wrap_u64_in (by omega) (by omega)
  have w3 : IntKind.u64.wrap (n : Int) = (n : Int) := wrap_u64_in (by omega) (by omega)
  go_enter Try.func37, Try.ntmps37
  go_wp2_with fail
  obtain ⟨W2, hW2⟩ : ∃ W2, ((w.alloc (.cells #[.int .i64 z, .int .i64 zb, .int .i64 (bn : Int), .int .i64 r] 23)).alloc (.cells #[.int .i64 (at_ : Int), .int .i64 (many : Int), .int .u64 (q : Int)] 82)) = W2 := ⟨_, rfl⟩
  have HZ := Aside0.mk (show W2.heap.size = w.heap.size + 1 + 1 by rw [← hW2]; simp)
  rw [hW2] at HA HS ⊢
  have HC := Aside0.mk (Kd.C_below HC.out HA.out)
  clear hW2
  refine (pack_lits W2 W2 [4, 4, 4, 4, 8, 2] [cmagic, 0, at_, many, q, n] _ _ _ rfl _ _ _ _ HZ.out.symm (by rw [HZ.out]) rfl rfl rfl (by decide) rfl ?hv (by decide) (by simp) (Below.refl _ _)).mono ?_
  case hv =>
    intro x hx
    simp only [List.mem_cons, List.not_mem_nil, or_false] at hx
    rcases hx with rfl | rfl | rfl | rfl | rfl | rfl
    · decide
    · omega
    · omega
    · omega
    · exact hq
    · omega
  rintro e w4 ⟨v3, rfl, hO3, hb3, hb23⟩
  have HO3 := Aside0.mk hO3
  have HB3 := Aside0.mk hb3
  clear hO3 hb3 hb23 w1 w2 w3
  obtain ⟨g, hg⟩ : ∃ g, w.heap.size = g := ⟨_, rfl⟩
  rw [hg]
  have HG := Aside0.mk hg
  clear hg
  obtain ⟨hd, hhd⟩ : ∃ hd, pack [4, 4, 4, 4, 8, 2] [cmagic, 0, at_, many, q, n] = hd := ⟨_, rfl⟩
  rw [hhd] at HO3
  have HHD := Aside0.mk hhd
  have HHL := Aside0.mk (show hd.length = 26 by rw [← hhd]; simp [pack, wd, be_len])
  clear hhd
  go_wp2
  go_loopg [7, 26] n (fun g1 v7 v26 wr => ∃ (i : Nat) (p : List UInt8), v26 = .int .i64 (i : Int) ∧ i ≤ n ∧ Aside0 (g1 + i = n) ∧ Aside0 (p = hd ++ plsB (l.take i)) ∧ Aside0 (Base.Own wr W2.heap.size v7 p) ∧ Aside0 (Below W2.heap.size W2 wr))
  case atStart => exact ⟨0, hd, rfl, by omega, ⟨rfl⟩, ⟨by simp [plsB]⟩, HO3, HB3⟩
  case round =>
    obtain ⟨i, p, rfl, hi, HK, HP, HO, HBW⟩ := hrel
    by_cases hlt : i < n
    · obtain ⟨x, hx⟩ : ∃ x, l.getD i plc0 = x := ⟨_, rfl⟩
      obtain ⟨pa, rfl, hok, -, -, e0, e1, e2, e3⟩ := pl_at (Kd.C_below HC.out HBW.out) i hlt hx
      have HTK := Aside0.mk (take_snocD l plc0 i (by rw [HL.out]; exact hlt))
      have HX := Aside0.mk hx
      have hft : PlcFit x := HF.out x (by rw [← hx, List.getD_eq_getElem?_getD, List.getElem?_eq_getElem (by rw [HL.out]; exact hlt)]; exact List.getElem_mem _)
      obtain ⟨x1, x2, x3, x4⟩ := x
      obtain ⟨⟨k1, k2⟩, k3, k4, k5, k6⟩ := hft
      dsimp only at e0 e1 e2 e3 k1 k2 k3 k4 k5 k6
      obtain ⟨y3, rfl⟩ := Int.eq_ofNat_of_zero_le k3
      obtain ⟨y4, rfl⟩ := Int.eq_ofNat_of_zero_le k5
      have hlt' : (i : Int) < (n : Int) := by omega
      have hd0 : decide ((i : Int) < (n : Int)) = true := decide_eq_true hlt'
      have q1 : (x1 : Int) < 4294967296 := by omega
      have q2 : (x2 : Int) < 18446744073709551616 := by omega
      have q3 : IntKind.u64.wrap (y3 : Int) = (y3 : Int) := wrap_u64_in (by omega) (by omega)
      have q4 : IntKind.u64.wrap (y4 : Int) = (y4 : Int) := wrap_u64_in (by omega) (by omega)
      clear hx hok
      go_wp2_with fail
      refine (pack_lits W2 (wr.alloc (.cells #[.int .u32 (x1 : Int), .int .u64 (x2 : Int), .int .i64 (y3 : Int), .int .i64 (y4 : Int)] 88)) [4, 8, 2, 2] [x1, x2, y3, y4] _ _ _ rfl _ _ _ _ (by simp) (by simp) rfl rfl rfl (by decide) rfl ?hv (by decide) (by simp) (below_alloc HBW.out _)).mono ?_
      case hv =>
        intro y hy
        simp only [List.mem_cons, List.not_mem_nil, or_false] at hy
        rcases hy with rfl | rfl | rfl | rfl <;> omega
      rintro e w5 ⟨v5, rfl, hO5, hb5, hb25⟩
      have HO5 := Aside0.mk hO5
      have HB5 := Aside0.mk hb5
      have HB25 := Aside0.mk hb25
      clear hO5 hb5 hb25
      obtain ⟨A5, n5, c5, rfl, -, hC5⟩ := HO5.out.reads
      have HC5 := Aside0.mk hC5
      have HOW := Aside0.mk ((HO.out.below (alloc_below _ _)).below HB25.out)
      have HPL := Aside0.mk (show p.length + n5 ≤ 140737488355328 by
        have h1 := (C_len HC5.out).1
        have h2 : (pack [4, 8, 2, 2] [x1, x2, y3, y4]).length ≤ 32 := pack_len _ _
        rw [HP.out, List.length_append, HHL.out, plsB_len, List.length_take]
        omega)
      clear hC5 e0 e1 e2 e3
      go_wp2_with (at_builtin; (refine app_row (w0 := W2) W2.heap.size (.tmp 30) (.tmp 46) rfl rfl _ p (pack [4, 8, 2, 2] [x1, x2, y3, y4]) A5 n5 c5 rfl rfl HOW.out HC5.out HB5.out HB5.out.size HPL.out ?_); intro v6 w6 hO6 hB6 hg6; (have HO6 := Aside0.mk hO6; have HB6 := Aside0.mk hB6; have HG6 := Aside0.mk hg6; clear hO6 hB6 hg6))
      go_wp2
      go_roundg (gk - 1)
      case measure => have := HK.out; omega
      case rel =>
        refine ⟨i + 1, _, by congr 1, by omega, ⟨by have := HK.out; omega⟩, ⟨?_⟩, HO6, HB6⟩
        rw [HP.out, HTK.out, HX.out, plsB_snoc, List.append_assoc]
        congr 2
    · obtain rfl : i = n := by omega
      have hd0 : decide ((i : Int) < (i : Int)) = false := decide_eq_false (by omega)
      have hs5 := pw_cell_below HBW.out HS.out
      rw [HG.out] at hs5
      have HP2 := Aside0.mk (show p = hd ++ plsB l by have := HP.out; rw [List.take_of_length_le (by rw [HL.out]; omega)] at this; exact this)
      have HPL := Aside0.mk (show p.length = 26 + 16 * i by rw [HP2.out, List.length_append, HHL.out, plsB_len, HL.out])
      obtain ⟨A7, n7, c7, rfl, -, hC7⟩ := HO.out.reads
      have hn7 : n7 = 26 + 16 * i := by have := (C_len hC7).1; have := HPL.out; omega
      have HN7 := Aside0.mk hn7
      have hnb : n7 ≤ bn := by omega
      clear hC7 hn7
      go_wp2_with (at_builtin; (refine app_zeros2 (w0 := W2) W2.heap.size (.tmp 49) (.tmp 54) rfl rfl _ p ((bn : Int) - (n7 : Int)) rfl (by rfl) HO.out (by omega) HBW.out HBW.out.size (by have h1 := HPL.out; have h2 := hb2; omega) bn (by have h1 := HPL.out; have h2 := HN7.out; omega) (by omega) 0xe7 ?_); intro g8 c8 w8 hg8 hc8 hz8 hO8 hcc8 hB8; (have HB8 := Aside0.mk hB8; have HO8 := Aside0.mk hO8; have HG8 := Aside0.mk hg8; have hs6 := pw_cell_below HB8.out HS.out; clear hO8 hB8 hg8; rw [HG.out] at hs6))
      obtain ⟨Wq, hWq⟩ : ∃ Wq, (w8.setCell ⟨g8, bn - 1, none⟩ (.int .u8 231)) = Wq := ⟨_, rfl⟩
      have HPQ := Aside0.mk (set_lastC at_ many q l hd p i n7 bn HHD.out HL.out HP2.out HN7.out (by omega))
      have HOq := Aside0.mk (show Base.Own Wq W2.heap.size (.slice (some ⟨g8, 0, none⟩) bn c8) (cpre at_ many q l bn) by
        have h1 := HO8.out
        rw [HPQ.out] at h1
        rw [← hWq]
        exact h1)
      have HBq := Aside0.mk (show Below W2.heap.size W2 Wq by rw [← hWq]; exact HB8.out.setCell HG8.out _)
      rw [hWq]
      obtain ⟨sm, hsm⟩ : ∃ sm, Crc.sum (Crc.nat (cpre at_ many q l bn)) = sm := ⟨_, rfl⟩
      have hsml : (sm : Int) < 4294967296 := by
        have : Crc.sum (Crc.nat (cpre at_ many q l bn)) < 4294967296 := sum_lt _
        omega
      have HSM := Aside0.mk hsm
      have hwr : IntKind.u64.wrap (sm : Int) = (sm : Int) := wrap_u64_in (by omega) (by omega)
      have HCC := Aside0.mk hcc8
      have k1 : (4 : Int) ≤ (bn : Int) := by omega
      have k2 : (4 : Int) ≤ (c8 : Int) := by omega
      have k3 : ¬ c8 = 4 := by omega
      clear hWq hsm hc8 hz8
      refine wp_region_any (by kernel_rfl) ?_
      rw [show ({ Wq with drawn := Wq.drawn + 1 } : World) = Wq.drew from rfl]
      obtain ⟨X, hX⟩ : ∃ X, Wq.drew = X := ⟨_, rfl⟩
      have HX : Aside0 (Below Wq.heap.size Wq X) := ⟨by rw [← hX]; exact below_drew (Below.refl _ _)⟩
      rw [hX]
      clear hX
      refine wpAny_take (i := 0) (oi := { dst := some 61, op := Op.move (Operand.tmp 7), type := 39, pos := "ckpt.go:62", after := #[], guard := none }) (v := ?_) rfl (by kernel_rfl) (by kernel_rfl) (by kernel_rfl) (fun _ _ _ h => h) (Or.inl ⟨by rfl, ?_⟩) ?_
      rotate_left
      · (intro w; go_simp; (try with_reducible rfl))
      (try simp only [Act.put, List.setIfInBounds_toArray, List.set_cons_zero, List.set_cons_succ])
      refine wpAny_take (i := 1) (oi := { dst := some 62, op := Op.slice 39 (Operand.tmp 61) (some (Operand.const (Value.int IntKind.i64 4))) none none, type := 39, pos := "ckpt.go:62", after := #[{ on := 0, ground := Ground.data }], guard := none }) (v := ?_) rfl (by kernel_rfl) (by kernel_rfl) (by kernel_rfl) (fun _ _ _ h => h) (Or.inl ⟨by rfl, ?_⟩) ?_
      rotate_left
      · (intro w; go_simp; (try with_reducible rfl))
      (try simp only [Act.put, List.setIfInBounds_toArray, List.set_cons_zero, List.set_cons_succ])
      refine wpAny_take (i := 3) (oi := { dst := some 64, op := Op.move (Operand.tmp 7), type := 39, pos := "ckpt.go:62", after := #[], guard := none }) (v := ?_) rfl (by kernel_rfl) (by kernel_rfl) (by kernel_rfl) (fun _ _ _ h => h) (Or.inl ⟨by rfl, ?_⟩) ?_
      rotate_left
      · (intro w; go_simp; (try with_reducible rfl))
      (try simp only [Act.put, List.setIfInBounds_toArray, List.set_cons_zero, List.set_cons_succ])
      refine wpAny_ready (rs := [2, 4]) (by kernel_rfl) (by simp) ?_
      refine (AllReady.cons (o := { dst := some 63, op := Op.buildSlice 91 1 #[(0, Operand.const (Value.int IntKind.i64 4))], type := 91, pos := "ckpt.go:62", after := #[], guard := none }) rfl (fun K hK => ?_) (AllReady.cons (o := { dst := some 65, op := Op.buildSlice 28 1 #[(0, Operand.tmp 64)], type := 28, pos := "ckpt.go:62", after := #[{ on := 3, ground := Ground.data }], guard := none }) rfl (fun K hK => ?_) AllReady.nil))
      · go_simp
        refine hK _ _ ?_
        clear hK K
        (try simp only [Act.put, List.setIfInBounds_toArray, List.set_cons_zero, List.set_cons_succ])
        obtain ⟨X2, hX2⟩ : ∃ Y, X.alloc (.cells #[.int .i64 4] 3) = Y := ⟨_, rfl⟩
        have hb : Below X.heap.size X X2 := by rw [← hX2]; exact alloc_below _ _
        have HX2 := Aside0.mk (below_go HX.out hb)
        have HL2 : Aside0 ((num .i64).C X2 (some ⟨X.heap.size, 0, none⟩) 1 [4]) := ⟨by rw [← hX2]; exact wid_lit _ [4] _ rfl (by decide) (by decide)⟩
        rw [hX2]
        clear hX2 hb
        refine wpAny_ready (rs := [4]) (by kernel_rfl) (by simp) ?_
        refine (AllReady.cons (o := { dst := some 65, op := Op.buildSlice 28 1 #[(0, Operand.tmp 64)], type := 28, pos := "ckpt.go:62", after := #[{ on := 3, ground := Ground.data }], guard := none }) rfl (fun K hK => ?_) AllReady.nil)
        go_simp
        refine hK _ _ ?_
        clear hK K
        (try simp only [Act.put, List.setIfInBounds_toArray, List.set_cons_zero, List.set_cons_succ])
        obtain ⟨X24, hX24⟩ : ∃ Y, X2.alloc (.cells #[.slice (some ⟨g8, 0, none⟩) bn c8] 39) = Y := ⟨_, rfl⟩
        have hb : Below X2.heap.size X2 X24 := by rw [← hX24]; exact alloc_below _ _
        have HX24 := Aside0.mk (below_go HX2.out hb)
        have HL2 := Aside0.mk (Kd.C_below HL2.out hb)
        have HL4 : Aside0 ((Kd.slice 5 byte).C X24 (some ⟨X2.heap.size, 0, none⟩) 1 [cpre at_ many q l bn]) := ⟨by rw [← hX24]; exact one_lit _ g8 bn c8 _ (Kd.C_below (own_C HOq.out) HX2.out) HCC.out⟩
        rw [hX24]
        clear hX24 hb
        refine wpAny_ready (rs := [5]) (by kernel_rfl) (by simp) ?_
        refine (AllReady.cons (o := { dst := some 66, op := Op.call { callee := Callee.value (Operand.func 70), args := #[Operand.tmp 65], argTypes := #[28] }, type := 86, pos := "ckpt.go:62", after := #[{ on := 4, ground := Ground.data }], guard := none }) rfl (fun K hK => ?_) AllReady.nil)
        go_simp
        refine (Crc.crc_sum_calls _ 1 1 [cpre at_ many q l bn] X24 HL4.out).mono ?_
        rintro e w9 ⟨rfl, rfl⟩
        rw [List.flatten_singleton, HSM.out]
        refine hK _ _ ?_
        clear hK K
        (try simp only [Act.put, List.setIfInBounds_toArray, List.set_cons_zero, List.set_cons_succ])
        refine wpAny_take (i := 6) (oi := { dst := some 67, op := Op.convert 86 24 (Operand.tmp 66), type := 24, pos := "ckpt.go:62", after := #[{ on := 5, ground := Ground.data }], guard := none }) (v := ?_) rfl (by kernel_rfl) (by kernel_rfl) (by kernel_rfl) (fun _ _ _ h => h) (Or.inl ⟨by rfl, ?_⟩) ?_
        rotate_left
        · (intro w; go_simp; (try with_reducible rfl))
        (try simp only [Act.put, List.setIfInBounds_toArray, List.set_cons_zero, List.set_cons_succ])
        refine wpAny_ready (rs := [7]) (by kernel_rfl) (by simp) ?_
        refine (AllReady.cons (o := { dst := some 68, op := Op.buildSlice 92 1 #[(0, Operand.tmp 67)], type := 92, pos := "ckpt.go:62", after := #[{ on := 6, ground := Ground.data }], guard := none }) rfl (fun K hK => ?_) AllReady.nil)
        go_simp
        refine hK _ _ ?_
        clear hK K
        (try simp only [Act.put, List.setIfInBounds_toArray, List.set_cons_zero, List.set_cons_succ])
        obtain ⟨X247, hX247⟩ : ∃ Y, X24.alloc (.cells #[.int .u64 (sm : Int)] 24) = Y := ⟨_, rfl⟩
        have hb : Below X24.heap.size X24 X247 := by rw [← hX247]; exact alloc_below _ _
        have HX247 := Aside0.mk (below_go HX24.out hb)
        have HL2 := Aside0.mk (Kd.C_below HL2.out hb)
        have HL4 := Aside0.mk (Kd.C_below HL4.out hb)
        have HL7 : Aside0 ((nat .u64).C X247 (some ⟨X24.heap.size, 0, none⟩) 1 [sm]) := ⟨by rw [← hX247]; exact val_lit _ [sm] _ rfl (by intro x hx; rw [List.mem_singleton.1 hx]; omega) (by simp)⟩
        rw [hX247]
        clear hX247 hb
        refine wpAny_ready (rs := [8]) (by kernel_rfl) (by simp) ?_
        refine (AllReady.cons (o := { dst := some 69, op := Op.call { callee := Callee.value (Operand.func 69), args := #[Operand.tmp 63, Operand.tmp 68], argTypes := #[91, 92] }, type := 39, pos := "ckpt.go:62", after := #[{ on := 2, ground := Ground.data }, { on := 7, ground := Ground.data }, { on := 5, ground := Ground.chain }], guard := none }) rfl (fun K hK => ?_) AllReady.nil)
        go_simp
        refine (pack_calls _ 1 1 [4] _ 1 1 [sm] X247 HL2.out HL7.out (by omega) (by omega)).mono ?_
        rintro e X2478 ⟨v7, rfl, hO7, hb⟩
        obtain ⟨A9, n9, c9, rfl, -, hC9⟩ := hO7.reads
        have HX2478 := Aside0.mk (below_go HX247.out hb)
        have HL2 := Aside0.mk (Kd.C_below HL2.out hb)
        have HL4 := Aside0.mk (Kd.C_below HL4.out hb)
        have HL7 := Aside0.mk (Kd.C_below HL7.out hb)
        have HC9 := Aside0.mk (pack4_C hC9)
        obtain rfl : n9 = 4 := HC9.out.2
        clear hO7 hb hC9
        refine hK _ _ ?_
        clear hK K
        (try simp only [Act.put, List.setIfInBounds_toArray, List.set_cons_zero, List.set_cons_succ])
        refine wpAny_ready (rs := [9]) (by kernel_rfl) (by simp) ?_
        refine (AllReady.cons (o := { dst := some 70, op := Op.call { callee := Callee.builtin Builtin.copy, args := #[Operand.tmp 62, Operand.tmp 69], argTypes := #[39, 39] }, type := 3, pos := "ckpt.go:62", after := #[{ on := 1, ground := Ground.data }, { on := 8, ground := Ground.data }, { on := 8, ground := Ground.chain }], guard := none }) rfl (fun K hK => ?_) AllReady.nil)
        refine copy_step (w0 := W2) W2.heap.size rfl (.tmp 62) (.tmp 69) rfl g8 bn c8 (cpre at_ many q l bn) (pack [4] [sm]) 4 A9 4 c9 rfl rfl (HOq.out.below HX2478.out) HC9.out.1 (by omega) (by omega) (below_go HBq.out HX2478.out) ?_
        intro w9 hO9 hB9
        have HO9 := Aside0.mk hO9
        have HB9 := Aside0.mk hB9
        clear hO9 hB9
        refine hK _ _ ?_
        clear hK K
        (try simp only [Act.put, List.setIfInBounds_toArray, List.set_cons_zero, List.set_cons_succ])
        refine wpAny_done (by kernel_rfl) ?_ _
        go_wp2
        go_ret
        refine ⟨_, rfl, ?_, below_go HA.out HB9.out⟩
        have h9 := HO9.out
        rw [copy_preC at_ many q l bn sm HSM.out] at h9
        exact Kd.R_lower h9 HA.out.size
      · go_simp
        refine hK _ _ ?_
        clear hK K
        (try simp only [Act.put, List.setIfInBounds_toArray, List.set_cons_zero, List.set_cons_succ])
        obtain ⟨X4, hX4⟩ : ∃ Y, X.alloc (.cells #[.slice (some ⟨g8, 0, none⟩) bn c8] 39) = Y := ⟨_, rfl⟩
        have hb : Below X.heap.size X X4 := by rw [← hX4]; exact alloc_below _ _
        have HX4 := Aside0.mk (below_go HX.out hb)
        have HL4 : Aside0 ((Kd.slice 5 byte).C X4 (some ⟨X.heap.size, 0, none⟩) 1 [cpre at_ many q l bn]) := ⟨by rw [← hX4]; exact one_lit _ g8 bn c8 _ (Kd.C_below (own_C HOq.out) HX.out) HCC.out⟩
        rw [hX4]
        clear hX4 hb
        refine wpAny_ready (rs := [2, 5]) (by kernel_rfl) (by simp) ?_
        refine (AllReady.cons (o := { dst := some 63, op := Op.buildSlice 91 1 #[(0, Operand.const (Value.int IntKind.i64 4))], type := 91, pos := "ckpt.go:62", after := #[], guard := none }) rfl (fun K hK => ?_) (AllReady.cons (o := { dst := some 66, op := Op.call { callee := Callee.value (Operand.func 70), args := #[Operand.tmp 65], argTypes := #[28] }, type := 86, pos := "ckpt.go:62", after := #[{ on := 4, ground := Ground.data }], guard := none }) rfl (fun K hK => ?_) AllReady.nil))
        · go_simp
          refine hK _ _ ?_
          clear hK K
          (try simp only [Act.put, List.setIfInBounds_toArray, List.set_cons_zero, List.set_cons_succ])
          obtain ⟨X24, hX24⟩ : ∃ Y, X4.alloc (.cells #[.int .i64 4] 3) = Y := ⟨_, rfl⟩
          have hb : Below X4.heap.size X4 X24 := by rw [← hX24]; exact alloc_below _ _
          have HX24 := Aside0.mk (below_go HX4.out hb)
          have HL4 := Aside0.mk (Kd.C_below HL4.out hb)
          have HL2 : Aside0 ((num .i64).C X24 (some ⟨X4.heap.size, 0, none⟩) 1 [4]) := ⟨by rw [← hX24]; exact wid_lit _ [4] _ rfl (by decide) (by decide)⟩
          rw [hX24]
          clear hX24 hb
          refine wpAny_ready (rs := [5]) (by kernel_rfl) (by simp) ?_
          refine (AllReady.cons (o := { dst := some 66, op := Op.call { callee := Callee.value (Operand.func 70), args := #[Operand.tmp 65], argTypes := #[28] }, type := 86, pos := "ckpt.go:62", after := #[{ on := 4, ground := Ground.data }], guard := none }) rfl (fun K hK => ?_) AllReady.nil)
          go_simp
          refine (Crc.crc_sum_calls _ 1 1 [cpre at_ many q l bn] X24 HL4.out).mono ?_
          rintro e w9 ⟨rfl, rfl⟩
          rw [List.flatten_singleton, HSM.out]
          refine hK _ _ ?_
          clear hK K
          (try simp only [Act.put, List.setIfInBounds_toArray, List.set_cons_zero, List.set_cons_succ])
          refine wpAny_take (i := 6) (oi := { dst := some 67, op := Op.convert 86 24 (Operand.tmp 66), type := 24, pos := "ckpt.go:62", after := #[{ on := 5, ground := Ground.data }], guard := none }) (v := ?_) rfl (by kernel_rfl) (by kernel_rfl) (by kernel_rfl) (fun _ _ _ h => h) (Or.inl ⟨by rfl, ?_⟩) ?_
          rotate_left
          · (intro w; go_simp; (try with_reducible rfl))
          (try simp only [Act.put, List.setIfInBounds_toArray, List.set_cons_zero, List.set_cons_succ])
          refine wpAny_ready (rs := [7]) (by kernel_rfl) (by simp) ?_
          refine (AllReady.cons (o := { dst := some 68, op := Op.buildSlice 92 1 #[(0, Operand.tmp 67)], type := 92, pos := "ckpt.go:62", after := #[{ on := 6, ground := Ground.data }], guard := none }) rfl (fun K hK => ?_) AllReady.nil)
          go_simp
          refine hK _ _ ?_
          clear hK K
          (try simp only [Act.put, List.setIfInBounds_toArray, List.set_cons_zero, List.set_cons_succ])
          obtain ⟨X247, hX247⟩ : ∃ Y, X24.alloc (.cells #[.int .u64 (sm : Int)] 24) = Y := ⟨_, rfl⟩
          have hb : Below X24.heap.size X24 X247 := by rw [← hX247]; exact alloc_below _ _
          have HX247 := Aside0.mk (below_go HX24.out hb)
          have HL2 := Aside0.mk (Kd.C_below HL2.out hb)
          have HL4 := Aside0.mk (Kd.C_below HL4.out hb)
          have HL7 : Aside0 ((nat .u64).C X247 (some ⟨X24.heap.size, 0, none⟩) 1 [sm]) := ⟨by rw [← hX247]; exact val_lit _ [sm] _ rfl (by intro x hx; rw [List.mem_singleton.1 hx]; omega) (by simp)⟩
          rw [hX247]
          clear hX247 hb
          refine wpAny_ready (rs := [8]) (by kernel_rfl) (by simp) ?_
          refine (AllReady.cons (o := { dst := some 69, op := Op.call { callee := Callee.value (Operand.func 69), args := #[Operand.tmp 63, Operand.tmp 68], argTypes := #[91, 92] }, type := 39, pos := "ckpt.go:62", after := #[{ on := 2, ground := Ground.data }, { on := 7, ground := Ground.data }, { on := 5, ground := Ground.chain }], guard := none }) rfl (fun K hK => ?_) AllReady.nil)
          go_simp
          refine (pack_calls _ 1 1 [4] _ 1 1 [sm] X247 HL2.out HL7.out (by omega) (by omega)).mono ?_
          rintro e X2478 ⟨v7, rfl, hO7, hb⟩
          obtain ⟨A9, n9, c9, rfl, -, hC9⟩ := hO7.reads
          have HX2478 := Aside0.mk (below_go HX247.out hb)
          have HL2 := Aside0.mk (Kd.C_below HL2.out hb)
          have HL4 := Aside0.mk (Kd.C_below HL4.out hb)
          have HL7 := Aside0.mk (Kd.C_below HL7.out hb)
          have HC9 := Aside0.mk (pack4_C hC9)
          obtain rfl : n9 = 4 := HC9.out.2
          clear hO7 hb hC9
          refine hK _ _ ?_
          clear hK K
          (try simp only [Act.put, List.setIfInBounds_toArray, List.set_cons_zero, List.set_cons_succ])
          refine wpAny_ready (rs := [9]) (by kernel_rfl) (by simp) ?_
          refine (AllReady.cons (o := { dst := some 70, op := Op.call { callee := Callee.builtin Builtin.copy, args := #[Operand.tmp 62, Operand.tmp 69], argTypes := #[39, 39] }, type := 3, pos := "ckpt.go:62", after := #[{ on := 1, ground := Ground.data }, { on := 8, ground := Ground.data }, { on := 8, ground := Ground.chain }], guard := none }) rfl (fun K hK => ?_) AllReady.nil)
          refine copy_step (w0 := W2) W2.heap.size rfl (.tmp 62) (.tmp 69) rfl g8 bn c8 (cpre at_ many q l bn) (pack [4] [sm]) 4 A9 4 c9 rfl rfl (HOq.out.below HX2478.out) HC9.out.1 (by omega) (by omega) (below_go HBq.out HX2478.out) ?_
          intro w9 hO9 hB9
          have HO9 := Aside0.mk hO9
          have HB9 := Aside0.mk hB9
          clear hO9 hB9
          refine hK _ _ ?_
          clear hK K
          (try simp only [Act.put, List.setIfInBounds_toArray, List.set_cons_zero, List.set_cons_succ])
          refine wpAny_done (by kernel_rfl) ?_ _
          go_wp2
          go_ret
          refine ⟨_, rfl, ?_, below_go HA.out HB9.out⟩
          have h9 := HO9.out
          rw [copy_preC at_ many q l bn sm HSM.out] at h9
          exact Kd.R_lower h9 HA.out.size
        · go_simp
          refine (Crc.crc_sum_calls _ 1 1 [cpre at_ many q l bn] X4 HL4.out).mono ?_
          rintro e w9 ⟨rfl, rfl⟩
          rw [List.flatten_singleton, HSM.out]
          refine hK _ _ ?_
          clear hK K
          (try simp only [Act.put, List.setIfInBounds_toArray, List.set_cons_zero, List.set_cons_succ])
          refine wpAny_take (i := 6) (oi := { dst := some 67, op := Op.convert 86 24 (Operand.tmp 66), type := 24, pos := "ckpt.go:62", after := #[{ on := 5, ground := Ground.data }], guard := none }) (v := ?_) rfl (by kernel_rfl) (by kernel_rfl) (by kernel_rfl) (fun _ _ _ h => h) (Or.inl ⟨by rfl, ?_⟩) ?_
          rotate_left
          · (intro w; go_simp; (try with_reducible rfl))
          (try simp only [Act.put, List.setIfInBounds_toArray, List.set_cons_zero, List.set_cons_succ])
          refine wpAny_ready (rs := [2, 7]) (by kernel_rfl) (by simp) ?_
          refine (AllReady.cons (o := { dst := some 63, op := Op.buildSlice 91 1 #[(0, Operand.const (Value.int IntKind.i64 4))], type := 91, pos := "ckpt.go:62", after := #[], guard := none }) rfl (fun K hK => ?_) (AllReady.cons (o := { dst := some 68, op := Op.buildSlice 92 1 #[(0, Operand.tmp 67)], type := 92, pos := "ckpt.go:62", after := #[{ on := 6, ground := Ground.data }], guard := none }) rfl (fun K hK => ?_) AllReady.nil))
          · go_simp
            refine hK _ _ ?_
            clear hK K
            (try simp only [Act.put, List.setIfInBounds_toArray, List.set_cons_zero, List.set_cons_succ])
            obtain ⟨X24, hX24⟩ : ∃ Y, X4.alloc (.cells #[.int .i64 4] 3) = Y := ⟨_, rfl⟩
            have hb : Below X4.heap.size X4 X24 := by rw [← hX24]; exact alloc_below _ _
            have HX24 := Aside0.mk (below_go HX4.out hb)
            have HL4 := Aside0.mk (Kd.C_below HL4.out hb)
            have HL2 : Aside0 ((num .i64).C X24 (some ⟨X4.heap.size, 0, none⟩) 1 [4]) := ⟨by rw [← hX24]; exact wid_lit _ [4] _ rfl (by decide) (by decide)⟩
            rw [hX24]
            clear hX24 hb
            refine wpAny_ready (rs := [7]) (by kernel_rfl) (by simp) ?_
            refine (AllReady.cons (o := { dst := some 68, op := Op.buildSlice 92 1 #[(0, Operand.tmp 67)], type := 92, pos := "ckpt.go:62", after := #[{ on := 6, ground := Ground.data }], guard := none }) rfl (fun K hK => ?_) AllReady.nil)
            go_simp
            refine hK _ _ ?_
            clear hK K
            (try simp only [Act.put, List.setIfInBounds_toArray, List.set_cons_zero, List.set_cons_succ])
            obtain ⟨X247, hX247⟩ : ∃ Y, X24.alloc (.cells #[.int .u64 (sm : Int)] 24) = Y := ⟨_, rfl⟩
            have hb : Below X24.heap.size X24 X247 := by rw [← hX247]; exact alloc_below _ _
            have HX247 := Aside0.mk (below_go HX24.out hb)
            have HL2 := Aside0.mk (Kd.C_below HL2.out hb)
            have HL4 := Aside0.mk (Kd.C_below HL4.out hb)
            have HL7 : Aside0 ((nat .u64).C X247 (some ⟨X24.heap.size, 0, none⟩) 1 [sm]) := ⟨by rw [← hX247]; exact val_lit _ [sm] _ rfl (by intro x hx; rw [List.mem_singleton.1 hx]; omega) (by simp)⟩
            rw [hX247]
            clear hX247 hb
            refine wpAny_ready (rs := [8]) (by kernel_rfl) (by simp) ?_
            refine (AllReady.cons (o := { dst := some 69, op := Op.call { callee := Callee.value (Operand.func 69), args := #[Operand.tmp 63, Operand.tmp 68], argTypes := #[91, 92] }, type := 39, pos := "ckpt.go:62", after := #[{ on := 2, ground := Ground.data }, { on := 7, ground := Ground.data }, { on := 5, ground := Ground.chain }], guard := none }) rfl (fun K hK => ?_) AllReady.nil)
            go_simp
            refine (pack_calls _ 1 1 [4] _ 1 1 [sm] X247 HL2.out HL7.out (by omega) (by omega)).mono ?_
            rintro e X2478 ⟨v7, rfl, hO7, hb⟩
            obtain ⟨A9, n9, c9, rfl, -, hC9⟩ := hO7.reads
            have HX2478 := Aside0.mk (below_go HX247.out hb)
            have HL2 := Aside0.mk (Kd.C_below HL2.out hb)
            have HL4 := Aside0.mk (Kd.C_below HL4.out hb)
            have HL7 := Aside0.mk (Kd.C_below HL7.out hb)
            have HC9 := Aside0.mk (pack4_C hC9)
            obtain rfl : n9 = 4 := HC9.out.2
            clear hO7 hb hC9
            refine hK _ _ ?_
            clear hK K
            (try simp only [Act.put, List.setIfInBounds_toArray, List.set_cons_zero, List.set_cons_succ])
            refine wpAny_ready (rs := [9]) (by kernel_rfl) (by simp) ?_
            refine (AllReady.cons (o := { dst := some 70, op := Op.call { callee := Callee.builtin Builtin.copy, args := #[Operand.tmp 62, Operand.tmp 69], argTypes := #[39, 39] }, type := 3, pos := "ckpt.go:62", after := #[{ on := 1, ground := Ground.data }, { on := 8, ground := Ground.data }, { on := 8, ground := Ground.chain }], guard := none }) rfl (fun K hK => ?_) AllReady.nil)
            refine copy_step (w0 := W2) W2.heap.size rfl (.tmp 62) (.tmp 69) rfl g8 bn c8 (cpre at_ many q l bn) (pack [4] [sm]) 4 A9 4 c9 rfl rfl (HOq.out.below HX2478.out) HC9.out.1 (by omega) (by omega) (below_go HBq.out HX2478.out) ?_
            intro w9 hO9 hB9
            have HO9 := Aside0.mk hO9
            have HB9 := Aside0.mk hB9
            clear hO9 hB9
            refine hK _ _ ?_
            clear hK K
            (try simp only [Act.put, List.setIfInBounds_toArray, List.set_cons_zero, List.set_cons_succ])
            refine wpAny_done (by kernel_rfl) ?_ _
            go_wp2
            go_ret
            refine ⟨_, rfl, ?_, below_go HA.out HB9.out⟩
            have h9 := HO9.out
            rw [copy_preC at_ many q l bn sm HSM.out] at h9
            exact Kd.R_lower h9 HA.out.size
          · go_simp
            refine hK _ _ ?_
            clear hK K
            (try simp only [Act.put, List.setIfInBounds_toArray, List.set_cons_zero, List.set_cons_succ])
            obtain ⟨X47, hX47⟩ : ∃ Y, X4.alloc (.cells #[.int .u64 (sm : Int)] 24) = Y := ⟨_, rfl⟩
            have hb : Below X4.heap.size X4 X47 := by rw [← hX47]; exact alloc_below _ _
            have HX47 := Aside0.mk (below_go HX4.out hb)
            have HL4 := Aside0.mk (Kd.C_below HL4.out hb)
            have HL7 : Aside0 ((nat .u64).C X47 (some ⟨X4.heap.size, 0, none⟩) 1 [sm]) := ⟨by rw [← hX47]; exact val_lit _ [sm] _ rfl (by intro x hx; rw [List.mem_singleton.1 hx]; omega) (by simp)⟩
            rw [hX47]
            clear hX47 hb
            refine wpAny_ready (rs := [2]) (by kernel_rfl) (by simp) ?_
            refine (AllReady.cons (o := { dst := some 63, op := Op.buildSlice 91 1 #[(0, Operand.const (Value.int IntKind.i64 4))], type := 91, pos := "ckpt.go:62", after := #[], guard := none }) rfl (fun K hK => ?_) AllReady.nil)
            go_simp
            refine hK _ _ ?_
            clear hK K
            (try simp only [Act.put, List.setIfInBounds_toArray, List.set_cons_zero, List.set_cons_succ])
            obtain ⟨X247, hX247⟩ : ∃ Y, X47.alloc (.cells #[.int .i64 4] 3) = Y := ⟨_, rfl⟩
            have hb : Below X47.heap.size X47 X247 := by rw [← hX247]; exact alloc_below _ _
            have HX247 := Aside0.mk (below_go HX47.out hb)
            have HL4 := Aside0.mk (Kd.C_below HL4.out hb)
            have HL7 := Aside0.mk (Kd.C_below HL7.out hb)
            have HL2 : Aside0 ((num .i64).C X247 (some ⟨X47.heap.size, 0, none⟩) 1 [4]) := ⟨by rw [← hX247]; exact wid_lit _ [4] _ rfl (by decide) (by decide)⟩
            rw [hX247]
            clear hX247 hb
            refine wpAny_ready (rs := [8]) (by kernel_rfl) (by simp) ?_
            refine (AllReady.cons (o := { dst := some 69, op := Op.call { callee := Callee.value (Operand.func 69), args := #[Operand.tmp 63, Operand.tmp 68], argTypes := #[91, 92] }, type := 39, pos := "ckpt.go:62", after := #[{ on := 2, ground := Ground.data }, { on := 7, ground := Ground.data }, { on := 5, ground := Ground.chain }], guard := none }) rfl (fun K hK => ?_) AllReady.nil)
            go_simp
            refine (pack_calls _ 1 1 [4] _ 1 1 [sm] X247 HL2.out HL7.out (by omega) (by omega)).mono ?_
            rintro e X2478 ⟨v7, rfl, hO7, hb⟩
            obtain ⟨A9, n9, c9, rfl, -, hC9⟩ := hO7.reads
            have HX2478 := Aside0.mk (below_go HX247.out hb)
            have HL2 := Aside0.mk (Kd.C_below HL2.out hb)
            have HL4 := Aside0.mk (Kd.C_below HL4.out hb)
            have HL7 := Aside0.mk (Kd.C_below HL7.out hb)
            have HC9 := Aside0.mk (pack4_C hC9)
            obtain rfl : n9 = 4 := HC9.out.2
            clear hO7 hb hC9
            refine hK _ _ ?_
            clear hK K
            (try simp only [Act.put, List.setIfInBounds_toArray, List.set_cons_zero, List.set_cons_succ])
            refine wpAny_ready (rs := [9]) (by kernel_rfl) (by simp) ?_
            refine (AllReady.cons (o := { dst := some 70, op := Op.call { callee := Callee.builtin Builtin.copy, args := #[Operand.tmp 62, Operand.tmp 69], argTypes := #[39, 39] }, type := 3, pos := "ckpt.go:62", after := #[{ on := 1, ground := Ground.data }, { on := 8, ground := Ground.data }, { on := 8, ground := Ground.chain }], guard := none }) rfl (fun K hK => ?_) AllReady.nil)
            refine copy_step (w0 := W2) W2.heap.size rfl (.tmp 62) (.tmp 69) rfl g8 bn c8 (cpre at_ many q l bn) (pack [4] [sm]) 4 A9 4 c9 rfl rfl (HOq.out.below HX2478.out) HC9.out.1 (by omega) (by omega) (below_go HBq.out HX2478.out) ?_
            intro w9 hO9 hB9
            have HO9 := Aside0.mk hO9
            have HB9 := Aside0.mk hB9
            clear hO9 hB9
            refine hK _ _ ?_
            clear hK K
            (try simp only [Act.put, List.setIfInBounds_toArray, List.set_cons_zero, List.set_cons_succ])
            refine wpAny_done (by kernel_rfl) ?_ _
            go_wp2
            go_ret
            refine ⟨_, rfl, ?_, below_go HA.out HB9.out⟩
            have h9 := HO9.out
            rw [copy_preC at_ many q l bn sm HSM.out] at h9
            exact Kd.R_lower h9 HA.out.size
end Go.Proofs.Ytkmeipblgdahoaa.Ck

/- Which shapes may be: zone.Right and coamingref10.Right: one plain test. -/
namespace Go.Proofs.Ytkmeipblgdahoaa.Shp
open Go.RowKit Go.Proofs.YtkmeipblgdahoaaW.PrintWords Go.Proofs.YtkmeipblgdahoaaW.PrintMore Go.Proofs.Ytkmeipblgdahoaa.Base
set_option linter.unusedVariables false
set_option linter.unusedSimpArgs false

def Pow (b : Int) : Prop := b = 64 ∨ b = 128 ∨ b = 256 ∨ b = 512 ∨ b = 1024 ∨ b = 2048 ∨ b = 4096
def pw : Nat → Int
  | 0 => 64
  | j + 1 => 2 * pw j
def pOf (b : Int) : Nat → Bool
  | 0 => false
  | j + 1 => pOf b j || (pw j == b)
instance (b : Int) : Decidable (Pow b) := by unfold Pow; infer_instance
def Rt (z zb b r : Int) : Prop := 6 ≤ z ∧ z ≤ 256 ∧ 8 ≤ zb ∧ zb ≤ 4096 ∧ Pow b ∧ 2 ≤ r ∧ r ≤ z - 4
instance (z zb b r : Int) : Decidable (Rt z zb b r) := by unfold Rt; infer_instance
def ck (b : Nat) : Bool := decide ((b &&& (b - 1)) = 0) == decide (b = 64 ∨ b = 128 ∨ b = 256 ∨ b = 512 ∨ b = 1024 ∨ b = 2048 ∨ b = 4096)
theorem and_cut : ((List.range 65).all fun k => (List.range 64).all fun j => decide (64 * k + j < 64) || decide (4096 < 64 * k + j) || ck (64 * k + j)) = true := by decide +kernel
theorem and_nat (b : Nat) (h : b < 4097) (h' : 64 ≤ b) : ((b &&& (b - 1)) = 0 ↔ b = 64 ∨ b = 128 ∨ b = 256 ∨ b = 512 ∨ b = 1024 ∨ b = 2048 ∨ b = 4096) := by
  have h1 := List.all_eq_true.1 and_cut (b / 64) (List.mem_range.2 (by omega))
  have h2 := List.all_eq_true.1 h1 (b % 64) (List.mem_range.2 (by omega))
  rw [Nat.div_add_mod, decide_eq_false (show ¬ b < 64 by omega), decide_eq_false (show ¬ 4096 < b by omega), Bool.false_or, Bool.false_or] at h2
  unfold ck at h2
  exact decide_eq_decide.1 (beq_iff_eq.1 h2)
theorem and_code (b : Int) (h1 : 64 ≤ b) (h2 : b ≤ 4096) : (bits .and .i64 b (b - 1) != 0) = !(decide (Pow b)) := by
  obtain ⟨n, rfl⟩ := Int.eq_ofNat_of_zero_le (show 0 ≤ b by omega)
  have e := bits_nat .i64 13 (by decide) (fun n h0 h1 => by rw [IntKind.wrap_i64]; omega) n (n - 1) (by omega) (by omega)
  have h := and_nat n (by omega) (by omega)
  have e' : bits .and .i64 (n : Int) ((n : Int) - 1) = ((n &&& (n - 1) : Nat) : Int) := by
    rw [show ((n : Int) - 1) = ((n - 1 : Nat) : Int) by omega]
    exact e.1
  rw [e']
  have hp : Pow (n : Int) ↔ (n &&& (n - 1)) = 0 := by rw [h]; unfold Pow; omega
  by_cases h0 : (n &&& (n - 1)) = 0
  · rw [h0, decide_eq_true (hp.2 h0)]; rfl
  · rw [decide_eq_false (fun x => h0 (hp.1 x)), Bool.not_false, bne_iff_ne]
    omega

/-- A shape's value. -/
def shV (z zb b r : Int) : Value := .agg #[.int .i64 z, .int .i64 zb, .int .i64 b, .int .i64 r]
def IsI (x : Int) : Prop := -9223372036854775808 ≤ x ∧ x ≤ 9223372036854775807

theorem right_calls (z zb b r : Int) (hz : IsI z) (hzb : IsI zb) (hb : IsI b) (hr : IsI r) (w : World) :
    Calls Try.prog 35 #[.agg #[.int .i64 z, .int .i64 zb, .int .i64 b, .int .i64 r]] w fun e w' => e = .returned (.bool (decide (Rt z zb b r))) ∧ Below w.heap.size w w' := by
  obtain ⟨hz1, hz2⟩ := hz
  obtain ⟨hzb1, hzb2⟩ := hzb
  obtain ⟨hb1, hb2⟩ := hb
  obtain ⟨hr1, hr2⟩ := hr
  have hA := Aside0.mk (alloc_below w (.cells #[.int .i64 z, .int .i64 zb, .int .i64 b, .int .i64 r] 23))
  by_cases h1 : 6 ≤ z ∧ z ≤ 256 ∧ 8 ≤ zb ∧ zb ≤ 4096
  · obtain ⟨a1, a2, a3, a4⟩ := h1
    by_cases h2 : 64 ≤ b ∧ b ≤ 4096
    · obtain ⟨a5, a6⟩ := h2
      have hc := and_code b a5 a6
      by_cases h3 : Pow b
      · rw [decide_eq_true h3] at hc
        by_cases h4 : 2 ≤ r
        · by_cases h5 : r ≤ z - 4
          · have hR := Aside0.mk (decide_eq_true (show Rt z zb b r from ⟨a1, a2, a3, a4, h3, h4, h5⟩))
            clear h3
            go_enter Try.func35, Try.ntmps35
            go_wp2
            go_ret
            exact ⟨by rw [hR.out]; simp [h4, h5], hA.out⟩
          · have hR := Aside0.mk (decide_eq_false (show ¬ Rt z zb b r from fun h => h5 h.2.2.2.2.2.2))
            clear h3
            go_enter Try.func35, Try.ntmps35
            go_wp2
            go_ret
            exact ⟨by rw [hR.out]; simp [h4, h5], hA.out⟩
        · have hR := Aside0.mk (decide_eq_false (show ¬ Rt z zb b r from fun h => h4 h.2.2.2.2.2.1))
          clear h3
          go_enter Try.func35, Try.ntmps35
          go_wp2
          go_ret
          exact ⟨by rw [hR.out]; simp [h4], hA.out⟩
      · rw [decide_eq_false h3] at hc
        have hR := Aside0.mk (decide_eq_false (show ¬ Rt z zb b r from fun h => h3 h.2.2.2.2.1))
        clear h3
        go_enter Try.func35, Try.ntmps35
        go_wp2
        go_ret
        exact ⟨by rw [hR.out]; rfl, hA.out⟩
    · have hR := Aside0.mk (decide_eq_false (show ¬ Rt z zb b r from fun h => h2 (by have := h.2.2.2.2.1; unfold Pow at this; omega)))
      by_cases h3 : b < 64
      · go_enter Try.func35, Try.ntmps35
        go_wp2
        go_ret
        exact ⟨by rw [hR.out]; rfl, hA.out⟩
      · have h4 : 4096 < b := by omega
        go_enter Try.func35, Try.ntmps35
        go_wp2
        go_ret
        exact ⟨by rw [hR.out]; rfl, hA.out⟩
  · have hR := Aside0.mk (decide_eq_false (show ¬ Rt z zb b r from fun h => h1 ⟨h.1, h.2.1, h.2.2.1, h.2.2.2.1⟩))
    have h1' := Aside0.mk h1
    clear h1
    go_enter Try.func35, Try.ntmps35
    go_wp2
    all_goals
      first
        | (go_ret; exact ⟨by rw [hR.out]; rfl, hA.out⟩)
        | (exfalso; have := h1'.out; omega)

theorem ref_right_calls (z zb b r : Int) (hz : IsI z) (hzb : IsI zb) (hb : IsI b) (hr : IsI r) (w : World) :
    Calls Try.prog 39 #[.agg #[.int .i64 z, .int .i64 zb, .int .i64 b, .int .i64 r]] w fun e w' => e = .returned (.bool (decide (Rt z zb b r))) ∧ Below w.heap.size w w' := by
  obtain ⟨hz1, hz2⟩ := hz
  obtain ⟨hzb1, hzb2⟩ := hzb
  obtain ⟨hb1, hb2⟩ := hb
  obtain ⟨hr1, hr2⟩ := hr
  have hA := Aside0.mk (alloc_below w (.cells #[.int .i64 z, .int .i64 zb, .int .i64 b, .int .i64 r] 23))
  have hP : pOf b 7 = decide (Pow b) := by
    rw [show pOf b 7 = (((((((64 : Int) == b) || ((128 : Int) == b)) || ((256 : Int) == b)) || ((512 : Int) == b)) || ((1024 : Int) == b)) || ((2048 : Int) == b) || ((4096 : Int) == b)) from rfl, Bool.eq_iff_iff]
    simp only [Bool.or_eq_true, beq_iff_eq, decide_eq_true_eq]
    unfold Pow
    omega
  have HP := Aside0.mk hP
  clear hP
  go_enter Try.func39, Try.ntmps39
  go_wp2
  have hb0 : (w.alloc (.cells #[.int .i64 z, .int .i64 zb, .int .i64 b, .int .i64 r] 23)).cell? ⟨w.heap.size, 2, none⟩ = some (.int .i64 b) := by go_simp
  have hb0' : (w.alloc (.cells #[.int .i64 z, .int .i64 zb, .int .i64 b, .int .i64 r] 23)).cell? ⟨w.heap.size, 0, none⟩ = some (.int .i64 z) := by go_simp
  have hb0'' : (w.alloc (.cells #[.int .i64 z, .int .i64 zb, .int .i64 b, .int .i64 r] 23)).cell? ⟨w.heap.size, 1, none⟩ = some (.int .i64 zb) := by go_simp
  have hb0r : (w.alloc (.cells #[.int .i64 z, .int .i64 zb, .int .i64 b, .int .i64 r] 23)).cell? ⟨w.heap.size, 3, none⟩ = some (.int .i64 r) := by go_simp
  generalize w.alloc (.cells #[.int .i64 z, .int .i64 zb, .int .i64 b, .int .i64 r] 23) = W at *
  go_loopg [3, 4] 7 (fun k v3 v4 wr => ∃ (j : Nat) (p : Bool) (x : Int), v3 = .bool p ∧ v4 = .int .i64 x ∧ Aside0 (k + j = 7 ∧ p = pOf b j ∧ x = pw j) ∧ wr = W)
  case atStart => exact ⟨0, false, 64, rfl, rfl, ⟨rfl, rfl, rfl⟩, rfl⟩
  case round =>
    obtain ⟨j, p, x, rfl, rfl, HJ, rfl⟩ := hrel
    by_cases h7 : j = 7
    · have hx : x = 8192 := by rw [HJ.out.2.2, h7]; rfl
      subst hx
      have hp : p = decide (Pow b) := by rw [HJ.out.2.1, h7]; exact HP.out
      subst hp
      by_cases a1 : 6 ≤ z
      · by_cases a2 : z ≤ 256
        · by_cases a3 : 8 ≤ zb
          · by_cases a4 : zb ≤ 4096
            · by_cases h3 : Pow b
              · rw [decide_eq_true h3]
                by_cases h4 : 2 ≤ r
                · have hR := Aside0.mk (show decide (r ≤ z - 4) = decide (Rt z zb b r) from by
                    rw [decide_eq_decide]; exact ⟨fun h => ⟨a1, a2, a3, a4, h3, h4, h⟩, fun h => h.2.2.2.2.2.2⟩)
                  clear h3
                  go_wp2
                  go_ret
                  exact ⟨by rw [← hR.out]; simp [a1, a2, a3, a4, h4], hA.out⟩
                · have hR := Aside0.mk (decide_eq_false (show ¬ Rt z zb b r from fun h => h4 h.2.2.2.2.2.1))
                  clear h3
                  go_wp2
                  go_ret
                  exact ⟨by rw [hR.out]; simp [h4], hA.out⟩
              · rw [decide_eq_false h3]
                have hR := Aside0.mk (decide_eq_false (show ¬ Rt z zb b r from fun h => h3 h.2.2.2.2.1))
                clear h3
                go_wp2
                go_ret
                exact ⟨by rw [hR.out]; simp, hA.out⟩
            · have hR := Aside0.mk (decide_eq_false (show ¬ Rt z zb b r from fun h => a4 h.2.2.2.1))
              go_wp2
              go_ret
              exact ⟨by rw [hR.out]; simp [a4], hA.out⟩
          · have hR := Aside0.mk (decide_eq_false (show ¬ Rt z zb b r from fun h => a3 h.2.2.1))
            go_wp2
            go_ret
            exact ⟨by rw [hR.out]; simp [a3], hA.out⟩
        · have hR := Aside0.mk (decide_eq_false (show ¬ Rt z zb b r from fun h => a2 h.2.1))
          go_wp2
          go_ret
          exact ⟨by rw [hR.out]; simp [a2], hA.out⟩
      · have hR := Aside0.mk (decide_eq_false (show ¬ Rt z zb b r from fun h => a1 h.1))
        go_wp2
        go_ret
        exact ⟨by rw [hR.out]; simp [a1], hA.out⟩
    · have hx : x ≤ 4096 ∧ 0 ≤ x := by
        rw [HJ.out.2.2]
        have h1 := HJ.out.1
        have : j = 0 ∨ j = 1 ∨ j = 2 ∨ j = 3 ∨ j = 4 ∨ j = 5 ∨ j = 6 := by omega
        rcases this with rfl | rfl | rfl | rfl | rfl | rfl | rfl <;> decide
      obtain ⟨hx1, hx2⟩ := hx
      cases p with
      | true =>
        go_wp2
        go_roundg (gk - 1)
        case measure => have := HJ.out.1; omega
        case rel => exact ⟨j + 1, true, 2 * x, rfl, rfl, ⟨by have := HJ.out.1; omega, by rw [pOf, ← HJ.out.2.1]; rfl, by rw [pw, HJ.out.2.2]⟩, rfl⟩
      | false =>
        go_wp2
        go_roundg (gk - 1)
        case measure => have := HJ.out.1; omega
        case rel => exact ⟨j + 1, _, 2 * x, rfl, rfl, ⟨by have := HJ.out.1; omega, by rw [pOf, ← HJ.out.2.1, ← HJ.out.2.2]; rfl, by rw [pw, HJ.out.2.2]⟩, rfl⟩

/-- A shape, as a kind. -/
def shK : Kd (Int × Int × Int × Int) := Kd.pair (num .i64) (Kd.pair (num .i64) (Kd.pair (num .i64) (num .i64)))
theorem opn_shape : Opn Try.prog 23 shK :=
  Opn.struct Try.underlying23 (by kernel_rfl) (OpnFs.cons rfl (by kernel_rfl) (Opn.num Try.underlying3) (OpnFs.cons rfl (by kernel_rfl) (Opn.num Try.underlying3)
    (OpnFs.cons rfl (by kernel_rfl) (Opn.num Try.underlying3) (OpnFs.last rfl (by kernel_rfl) (Opn.num Try.underlying3)))))
set_option maxRecDepth 1000000 in
theorem open_shape {H : Type} {enc : TypeId × Value → H} {W : World} {r : Reach} {b0 base : Nat} {sp : Nat → Bool} {held : Bool} {v : Value} {x : DataW H} {p : List MemPlace}
    (hv : Value.okWide Try.prog W r b0 23 v) (h : DataW.Trod enc Try.prog W base sp held 23 v x p) :
    ∃ s : Int × Int × Int × Int, v = .agg #[.int .i64 s.1, .int .i64 s.2.1, .int .i64 s.2.2.1, .int .i64 s.2.2.2] ∧ IsI s.1 ∧ IsI s.2.1 ∧ IsI s.2.2.1 ∧ IsI s.2.2.2 := by
  obtain ⟨s, cs, rfl, hK⟩ := open_agg_kd Try.underlying23 opn_shape hv h
  obtain ⟨c0, c1, hc, ⟨rfl, h0⟩, c2, c3, rfl, ⟨rfl, h1⟩, c4, c5, rfl, ⟨rfl, h2⟩, ⟨rfl, h3⟩⟩ := hK
  refine ⟨s, ?_, wf_i64 h0, wf_i64 h1, wf_i64 h2, wf_i64 h3⟩
  rw [← Array.toArray_toList (xs := cs), hc]
  rfl
end Go.Proofs.Ytkmeipblgdahoaa.Shp

/- The device: its block, its row of parts, each part's bytes a row of its own. has, count, New. -/
namespace Go.Proofs.Ytkmeipblgdahoaa.Dv
open Go.RowKit Go.Proofs.YtkmeipblgdahoaaW.PrintWords Go.Proofs.YtkmeipblgdahoaaW.PrintMore Go.Proofs.Ytkmeipblgdahoaa.Base Go.Proofs.Ytkmeipblgdahoaa.Shp
set_option linter.unusedVariables false
set_option linter.unusedSimpArgs false

/-- A part: its bytes, how many blocks are durable. -/
abbrev Prt := List UInt8 × Int
def partK : Kd Prt := Kd.pair (Kd.slice 5 byte) (num .i64)

/-- The world is as it was but for the blocks of S and what is new. -/
structure Chg (w w' : World) (S : Nat → Prop) : Prop where
  os : w'.os = w.os
  tape : w'.tape = w.tape
  output : w'.output = w.output
  kept : Kept w w' S
theorem Chg.refl (w : World) (S : Nat → Prop) : Chg w w S := ⟨rfl, rfl, rfl, Kept.refl _ _⟩
theorem Chg.of_below {w w' : World} (h : Below w.heap.size w w') (S : Nat → Prop) : Chg w w' S := ⟨h.os, h.tape, h.output, Kept.of_below h S⟩
theorem Chg.of_grown {w w' : World} {row : Option Nat} {S : Nat → Prop} (h : w.grownBy w' row) (hr : ∀ k, row = some k → S k) : Chg w w' S :=
  ⟨h.os, h.tape, h.output, Kept.of_grown h (Kept.refl _ _) (fun k hk => .inl (hr k hk))⟩
theorem Chg.trans {w w1 w2 : World} {S S2 : Nat → Prop} (h : Chg w w1 S) (k : Chg w1 w2 S2) (hs : ∀ j, S2 j → S j ∨ w.heap.size ≤ j) : Chg w w2 S :=
  ⟨k.os.trans h.os, k.tape.trans h.tape, k.output.trans h.output, h.kept.then_ k.kept hs⟩
theorem Chg.below {w w1 w2 : World} {S : Nat → Prop} (h : Chg w w1 S) (k : Below w1.heap.size w1 w2) : Chg w w2 S :=
  ⟨k.os.trans h.os, k.tape.trans h.tape, k.output.trans h.output, h.kept.below k⟩
theorem Chg.set {w w1 : World} {S : Nat → Prop} (h : Chg w w1 S) {p : Addr} (hp : S p.block ∨ w.heap.size ≤ p.block) (u : Value) : Chg w (w1.setCell p u) S :=
  ⟨h.os, h.tape, h.output, h.kept.setCell hp u⟩
theorem Chg.grown {w w1 w2 : World} {S : Nat → Prop} (h : Chg w w1 S) {row : Option Nat} (k : w1.grownBy w2 row) (hr : ∀ j, row = some j → S j ∨ w.heap.size ≤ j) : Chg w w2 S :=
  ⟨k.os.trans h.os, k.tape.trans h.tape, k.output.trans h.output, Kept.of_grown k h.kept hr⟩
theorem Chg.to_below {w w' : World} {S : Nat → Prop} (h : Chg w w' S) {B : Nat} (hB : B ≤ w.heap.size) (hs : ∀ k, S k → B ≤ k) : Below B w w' :=
  ⟨h.os, h.tape, h.output, h.kept.1, fun k hk => h.kept.2 k (by omega) (fun h2 => by have := hs k h2; omega)⟩

/-- A device: its block xb, its parts' blocks all in ok and from base on. -/
structure Dev (w : World) (xb base : Nat) (ok : Nat → Prop) (z zb b r : Int) (ps : List Prt) (v : Value) : Prop where
  blk : w.heap[xb]? = some (.cells #[.int .i64 z, .int .i64 zb, .int .i64 b, .int .i64 r, v] 103 (0, 0))
  row : Kd.S partK 108 w base ok v ps
section
variable {w w1 : World} {xb base : Nat} {ok : Nat → Prop} {z zb b r : Int} {ps : List Prt} {v : Value}
theorem Dev.chg (h : Dev w xb base ok z zb b r ps v) {S : Nat → Prop} (hc : Chg w w1 S) (hx : ¬ S xb) (hs : ∀ k, ok k → ¬ S k) : Dev w1 xb base ok z zb b r ps v :=
  ⟨blk_kept h.blk hc.kept hx, Kd.S_kept h.row hc.kept hs⟩
theorem Dev.below (h : Dev w xb base ok z zb b r ps v) (hb : Below w.heap.size w w1) : Dev w1 xb base ok z zb b r ps v :=
  h.chg (Chg.of_below hb (fun _ => False)) (fun h => h) (fun _ _ h => h)
theorem Dev.cells (h : Dev w xb base ok z zb b r ps v) : w.cell? ⟨xb, 0, none⟩ = some (.int .i64 z) ∧ w.cell? ⟨xb, 1, none⟩ = some (.int .i64 zb) ∧ w.cell? ⟨xb, 2, none⟩ = some (.int .i64 b) ∧ w.cell? ⟨xb, 3, none⟩ = some (.int .i64 r) ∧ w.cell? ⟨xb, 4, none⟩ = some v := by
  have := h.blk
  exact ⟨by simp [World.cell?, this], by simp [World.cell?, this], by simp [World.cell?, this], by simp [World.cell?, this], by simp [World.cell?, this]⟩
/-- The parts' slice. -/
theorem Dev.form (h : Dev w xb base ok z zb b r ps v) : ∃ A n c, v = .slice A n c ∧ n = ps.length ∧ n ≤ c ∧ partK.C w A n ps ∧ n ≤ 9223372036854775807 := by
  obtain ⟨A, c, rfl, h2, h3⟩ := Kd.R_reads (Kd.S_R h.row)
  exact ⟨A, _, c, rfl, rfl, h2, h3, (C_len h3).2⟩
end
theorem Dev.set {w : World} {xb base : Nat} {ok : Nat → Prop} {z zb b r : Int} {ps : List Prt} {v : Value} (h : Dev w xb base ok z zb b r ps v) {g t : Nat} {cells : Array Value} (hb : w.heap[g]? = some (.cells cells t (0, 0))) (ht : ∀ q, q ∈ 108 :: partK.E → q ≠ t) (hx : xb ≠ g) (j : Nat) (u : Value) : Dev (w.setCell ⟨g, j, none⟩ u) xb base ok z zb b r ps v :=
  ⟨blk_far h.blk hx u, Kd.S_set h.row hb ht j u⟩
theorem partK_open {w : World} {p : Prt} {c : List Value} (h : partK.K w p c) : ∃ A k, c = [.slice A p.1.length k, .int .i64 p.2] ∧ p.1.length ≤ k ∧ byte.C w A p.1.length p.1 ∧ IsI p.2 := by
  obtain ⟨c0, c1, rfl, ⟨A, k, rfl, h1, h2⟩, ⟨rfl, h3⟩⟩ := h
  exact ⟨A, k, rfl, h1, h2, wf_i64 h3⟩

def hasB (n : Nat) (i : Int) : Bool := decide (0 ≤ i ∧ i < (n : Int))
theorem hasB_true {n : Nat} {i : Int} (h0 : 0 ≤ i) (h1 : i < (n : Int)) : hasB n i = true := decide_eq_true ⟨h0, h1⟩
theorem hasB_false {n : Nat} {i : Int} (h : ¬ (0 ≤ i ∧ i < (n : Int))) : hasB n i = false := decide_eq_false h
theorem has_calls (xb base : Nat) (ok : Nat → Prop) (z zb b r : Int) (ps : List Prt) (v : Value) (i : Int) (hi : IsI i) (w : World) (h : Dev w xb base ok z zb b r ps v) :
    Calls Try.prog 52 #[.pointer (some ⟨xb, 0, none⟩), .int .i64 i] w fun e w' => e = .returned (.bool (hasB ps.length i)) ∧ w = w' := by
  obtain ⟨c0, c1, c2, c3, c4⟩ := h.cells
  obtain ⟨A, n, c, rfl, hn, hc, _, hmax⟩ := h.form
  have HN := Aside0.mk hn
  clear h hn c0 c1 c2 c3
  obtain ⟨hi1, hi2⟩ := hi
  have HV := Aside0.mk (show hasB ps.length i = hasB n i by rw [HN.out])
  by_cases h0 : 0 ≤ i
  · by_cases h1 : i < (n : Int)
    · have hd : decide (i < (n : Int)) = true := decide_eq_true h1
      have HR := Aside0.mk (hasB_true h0 h1)
      go_enter Try.func52, Try.ntmps52
      go_wp2
      go_ret
      exact ⟨by rw [HV.out, HR.out]; rfl, rfl⟩
    · have hd : decide (i < (n : Int)) = false := decide_eq_false h1
      have HR := Aside0.mk (hasB_false (n := n) (i := i) (fun h => h1 h.2))
      go_enter Try.func52, Try.ntmps52
      go_wp2
      go_ret
      exact ⟨by rw [HV.out, HR.out]; rfl, rfl⟩
  · have h0' : i < 0 := by omega
    have HR := Aside0.mk (hasB_false (n := n) (i := i) (fun h => h0 h.1))
    go_enter Try.func52, Try.ntmps52
    go_wp2
    go_ret
    exact ⟨by rw [HV.out, HR.out]; rfl, rfl⟩
theorem count_calls (xb base : Nat) (ok : Nat → Prop) (z zb b r : Int) (hb1 : 0 < b) (hb2 : b ≤ 9223372036854775807) (ps : List Prt) (v : Value) (A : Option Addr) (n k : Nat) (hnm : n ≤ 9223372036854775807) (du : Int) (w : World) (h : Dev w xb base ok z zb b r ps v) :
    Calls Try.prog 53 #[.pointer (some ⟨xb, 0, none⟩), .agg #[.slice A n k, .int .i64 du]] w fun e w' => e = .returned (.int .i64 ((n : Int) / b)) ∧ Below w.heap.size w w' := by
  have hA := Aside0.mk (alloc_below w (.cells #[.slice A n k, .int .i64 du] 108))
  obtain ⟨c0, c1, c2, c3, c4⟩ := (h.below hA.out).cells
  clear h c0 c1 c3 c4
  have hq1 : 0 ≤ (n : Int) / b := Int.ediv_nonneg (by omega) (by omega)
  have hq2 : (n : Int) / b ≤ (n : Int) := Int.ediv_le_self _ (by omega)
  have hb0 : b ≠ 0 := by omega
  have htd : (n : Int).tdiv b = (n : Int) / b := Int.tdiv_eq_ediv_of_nonneg (by omega)
  go_enter Try.func53, Try.ntmps53
  go_wp2
  go_quiet (fail)
  have HB := Aside0.mk (pw_below_drewN hA.out nq)
  go_wp2
  go_ret
  exact ⟨rfl, HB.out⟩

/-- A part: where it lies, what it leads to, and what the row is once it was written. -/
theorem Dev.part {w : World} {xb base : Nat} {ok : Nat → Prop} {z zb b r : Int} {ps : List Prt} {v : Value} (h : Dev w xb base ok z zb b r ps v) {j : Nat} (hj : j < ps.length) {p : Prt} (hp : ps.getD j ([], 0) = p) :
    ∃ ad cap A k oki, v = .slice (some ad) ps.length cap ∧ w.cell? (ad.add (j * 2)) = some (.slice A p.1.length k) ∧ w.cell? ⟨(ad.add (j * 2)).block, (ad.add (j * 2)).off + 1, none⟩ = some (.int .i64 p.2) ∧ p.1.length ≤ k ∧ IsI p.2 ∧ byte.C w A p.1.length p.1 ∧
      w.frozen? (ad.add (j * 2)) = false ∧ w.frozen? ⟨(ad.add (j * 2)).block, (ad.add (j * 2)).off + 1, none⟩ = false ∧ ok ad.block ∧ ad.block ≠ xb ∧ ad.block < w.heap.size ∧ byte.R 5 w base oki (.slice A p.1.length k) p.1 ∧ (∀ k, oki k → ok k ∧ k ≠ ad.block) ∧
      (∀ (w1 : World) (v1 : Value) (bs : List UInt8), w.grownBy w1 (Value.slice A p.1.length k).ownBlock → byte.R 5 w1 base (fun k => oki k ∨ w.heap.size ≤ k) v1 bs → (∀ k, w.heap.size ≤ k → ok k) →
        Kd.S partK 108 (w1.setCell (ad.add (j * 2)) v1) base ok v (ps.set j (bs, p.2)) ∧ w1.grownBy (w1.setCell (ad.add (j * 2)) v1) (some ad.block) ∧ w1.frozen? (ad.add (j * 2)) = false ∧ w1.cell? (ad.add (j * 2)) = some (.slice A p.1.length k)) ∧
      (∀ d : Int, IsI d → Kd.S partK 108 (w.setCell ⟨(ad.add (j * 2)).block, (ad.add (j * 2)).off + 1, none⟩ (.int .i64 d)) base ok v (ps.set j (p.1, d)) ∧ w.grownBy (w.setCell ⟨(ad.add (j * 2)).block, (ad.add (j * 2)).off + 1, none⟩ (.int .i64 d)) (some ad.block)) := by
  obtain ⟨A0, cap, hv, hcap, hC⟩ := Kd.R_reads (Kd.S_R h.row)
  obtain ⟨ad, c0, e0, _, hK0, hc0⟩ := ReadsRow.get_ hC ([], 0) (j : Int) (by omega) (by omega)
  subst e0
  subst hv
  obtain ⟨g, rfl⟩ := Kd.R_head (Kd.S_R h.row)
  obtain ⟨oki, c, hcl, hM, hcc, hfr, hoki, hH⟩ := Kd.S_elem h.row ([], 0) (j : Int) (by omega) (by omega)
  rw [Int.toNat_natCast] at hM hcc hfr
  have hs : partK.sz = 2 := rfl
  rw [hs] at hcc hfr hcl
  rw [hp] at hM
  have hMK := partK.K_of_M hM
  obtain ⟨A, k, rfl, h1, h2, h3⟩ := partK_open hMK
  have ea : (⟨g, 0, none⟩ : Addr).add (j * 2) = ⟨g, j * 2, none⟩ := by rw [add_plain]
  have hgo : ok g := (Kd.S_R h.row).1 g (by simp [Value.ownBlock])
  have hgl : g < w.heap.size := Kd.S_lt h.row g (by simp [Value.ownBlock])
  have hgx : g ≠ xb := by
    intro e
    obtain ⟨cells, hc⟩ := Kd.S_typed h.row g (by simp [Value.ownBlock])
    rw [e, h.blk] at hc
    simp at hc
  obtain ⟨c0, c1, ec, ⟨v0, rfl, hR⟩, ⟨rfl, _⟩⟩ := hM
  simp only [List.cons_append, List.nil_append, List.cons.injEq, and_true] at ec
  obtain ⟨rfl, _⟩ := ec
  have hown : ∀ k', (Value.slice A p.1.length k).ownBlock = some k' → oki k' := hR.1
  have hgown : some g ≠ (Value.slice A p.1.length k).ownBlock := fun e => (hoki g (hown g e.symm)).2 rfl
  have hz0 : (0 : Int) ≤ (j : Int) := by omega
  have hz1 : (j : Int) < (ps.length : Int) := by omega
  have e1 : ∀ d : Int, IsI d → (Lit.int .i64 d).wf = true := fun d hd => by
    obtain ⟨d1, d2⟩ := hd
    simp [Lit.wf, IntKind.min, IntKind.max, IntKind.bits, IntKind.signed]
    omega
  refine ⟨⟨g, 0, none⟩, cap, A, k, oki, rfl, ?_, ?_, h1, h3, h2, ?_, ?_, hgo, hgx, hgl, hR, hoki, ?_, ?_⟩
  · rw [ea]; exact hcc 0 _ rfl
  · rw [ea]; exact hcc 1 _ rfl
  · rw [ea]; exact hfr 0
  · rw [ea]; exact hfr 1
  · rw [ea]
    intro w1 v1 bs hg hR1 hfresh
    have hb1 : w1.heap[g]? = w.heap[g]? := hg.block g hgl hgown
    have H1 := Kd.H_grown (Kd.H_widen hH) hg (fun k' hk' => .inl (hown k' hk'))
    obtain ⟨H2, hg2⟩ := Kd.H_seg H1 hz0 hz1 (seg := [v1]) (j := 0) (by rw [hs]; exact Nat.le_succ 1) (fun q hq => by rw [List.mem_singleton.1 hq]; exact (Kd.R_val hR1).2)
    rw [Int.toNat_natCast, hs] at H2 hg2
    have es : w1.setCells g (j * 2 + 0) [v1] = w1.setCell ⟨g, j * 2, none⟩ v1 := rfl
    rw [es] at H2 hg2
    refine ⟨?_, hg2, ?_, ?_⟩
    · have := Kd.H_back H2 (x' := (bs, p.2)) (okp := fun k => oki k ∨ w.heap.size ≤ k)
        ⟨[v1], [.int .i64 p.2], rfl, ⟨v1, rfl, Kd.R_far hR1 (fun k hk => by
          rcases hk with hk | hk
          · exact (hoki k hk).2
          · show k ≠ g; omega) _⟩, ⟨rfl, e1 _ h3⟩⟩ (fun k hk => hk.imp id (fun h => ⟨hfresh k h, h⟩))
      rwa [Int.toNat_natCast] at this
    · rw [World.frozen?_of_block hb1]; exact hfr 0
    · rw [World.cell?_of_block hb1]; exact hcc 0 _ rfl
  · rw [ea]
    intro d hd
    obtain ⟨H2, hg2⟩ := Kd.H_seg hH hz0 hz1 (seg := [.int .i64 d]) (j := 1) (by rw [hs]; exact Nat.le_refl 2) (fun q hq => by rw [List.mem_singleton.1 hq]; rfl)
    rw [Int.toNat_natCast, hs] at H2 hg2
    have es : w.setCells g (j * 2 + 1) [.int .i64 d] = w.setCell ⟨g, j * 2 + 1, none⟩ (.int .i64 d) := rfl
    rw [es] at H2 hg2
    refine ⟨?_, hg2⟩
    have := Kd.H_back H2 (x' := (p.1, d)) (okp := oki) ⟨[_], [.int .i64 d], rfl, ⟨_, rfl, Kd.R_far hR (fun k hk => (hoki k hk).2) _⟩, ⟨rfl, e1 _ hd⟩⟩ (fun k hk => hk)
    rwa [Int.toNat_natCast] at this
end Go.Proofs.Ytkmeipblgdahoaa.Dv
