/- Part 5 of 5 of the proof of CkptEncodes: CkptLoad, CkptKnown, Zones, Same, CkptOpn, CkptEncodes, RowCkptEncodes. -/
import Derived.Test.YtkmeipblgdahoaaMCkptEncodes4
import Derived.Laws.BytesArg
import Derived.BigQuiet
import Derived.Test.YtkmeipblgdahoaaRows
import Derived.WalkKit
import Derived.ProofKit
import Derived.OpenShut
import Derived.ShutString
import Derived.ChangeOld
import Derived.Below
import Derived.SizedLaws
import Derived.Lib.SmallJoins
/- ckpt.Load: the newest checkpoint of a device, and its slot. -/
namespace Go.Proofs.Ytkmeipblgdahoaa.Ck
open Go.RowKit Go.Proofs.YtkmeipblgdahoaaW.PrintWords Go.Proofs.YtkmeipblgdahoaaW.PrintMore Go.Proofs.Ytkmeipblgdahoaa.Base Go.Proofs.Ytkmeipblgdahoaa.Shp
open Go.Proofs.Ytkmeipblgdahoaa.Dv (Dev Prt Zn Chg flat ZInv)
set_option maxRecDepth 100000
set_option linter.unusedVariables false
set_option linter.unusedSimpArgs false
/-- The newest of two. -/
def loadC : Option (Nat × List Plc) → Option (Nat × List Plc) → Option ((Nat × List Plc) × Nat)
  | none, none => none
  | none, some b => some (b, 1)
  | some a, none => some (a, 0)
  | some a, some b => if a.1 < b.1 then some (b, 1) else some (a, 0)
def LodP (w : World) (r : Option ((Nat × List Plc) × Nat)) (e : Ending) (w' : World) : Prop :=
  Below w.heap.size w w' ∧ ((∃ q ps v s, r = some ((q, ps), s) ∧ s < 2 ∧ e = .returned (.tuple #[.agg #[.int .u64 (q : Int), v], .int .i64 ((s : Nat) : Int), .int .u16 0]) ∧ OwnP w' w.heap.size v ps) ∨
    (r = none ∧ e = .returned (.tuple #[.agg #[.int .u64 0, .slice none 0 0], .int .i64 0, .int .u16 142])))
theorem st_cells {w : World} {g : Nat} {x y : Value} (hx : x.oneCell' = true) (h : w.heap[g]? = some (.cells #[x, y] 27 (0, 0))) :
    w.cell? ⟨g, 0, none⟩ = some x ∧ w.cell? ⟨g, 1, none⟩ = some y ∧ w.frozen? ⟨g, 0, none⟩ = false ∧ w.frozen? ⟨g, 1, none⟩ = false :=
  ⟨by simp [World.cell?, h], by simp [World.cell?, h], by simp [World.frozen?, h], by simp [World.frozen?, h]⟩
set_option maxHeartbeats 4000000 in
theorem load_calls (xb B : Nat) (D : Nat → Prop) (z r : Int) (zbn bn : Nat) (hrt : Rt z zbn bn r) (hr : IsI r) (zs : List Zn) (v : Value) (h2 : 2 ≤ zs.length)
    (w : World) (hD : Dev w xb B D z zbn bn r (zs.map flat) v) (hz : ZInv bn zbn zs) (hc : ∀ k, k < 2 → (zs.getD k ([], 0)).1.length ≤ 1000) :
    Calls Try.prog 23 #[.pointer (some ⟨xb, 0, none⟩)] w (LodP w (loadC (decC (decide (Rt z zbn bn r)) z zbn bn (zs.getD 0 ([], 0)).1) (decC (decide (Rt z zbn bn r)) z zbn bn (zs.getD 1 ([], 0)).1))) := by
  have HD := Aside0.mk hD
  have HZ := Aside0.mk hz
  have HRT := Aside0.mk hrt
  have HR := Aside0.mk hr
  have HCN := Aside0.mk hc
  have HA := Aside0.mk (alloc_below w (.cells #[.int .u64 0, .slice none 0 0] 27))
  have HST := Aside0.mk (show (w.alloc (.cells #[.int .u64 0, .slice none 0 0] 27)).heap[w.heap.size]? = some (.cells #[.int .u64 0, .slice none 0 0] 27 (0, 0)) from blk_here rfl)
  obtain ⟨da, hda⟩ : ∃ da, decC (decide (Rt z zbn bn r)) z zbn bn (zs.getD 0 ([], 0)).1 = da := ⟨_, rfl⟩
  obtain ⟨db, hdb⟩ : ∃ db, decC (decide (Rt z zbn bn r)) z zbn bn (zs.getD 1 ([], 0)).1 = db := ⟨_, rfl⟩
  rw [hda, hdb]
  have HDA := Aside0.mk hda
  have HDB := Aside0.mk hdb
  clear hD hz hrt hr hc hda hdb
  go_enter Try.func23, Try.ntmps23
  go_wp2_with fail
  obtain ⟨g, hg⟩ : ∃ g, w.heap.size = g := ⟨_, rfl⟩
  obtain ⟨W, hW⟩ : ∃ W, w.alloc (.cells #[.int .u64 0, .slice none 0 0] 27) = W := ⟨_, rfl⟩
  rw [hW] at HA HST ⊢
  rw [hg] at HST ⊢
  have HG := Aside0.mk hg
  clear hW hg
  refine (held_calls xb B D z r zbn bn HRT.out HR.out zs v 0 (by omega) (by omega) _ (HD.out.below HA.out) HZ.out (HCN.out 0 (by omega))).mono ?_
  rw [HDA.out]
  rintro e w1 ⟨hb1, hh1⟩
  have hg1 : g < w1.heap.size := Nat.lt_of_lt_of_le (Array.getElem?_eq_some_iff.1 HST.out).1 hb1.size
  have HB1 := Aside0.mk (below_go HA.out hb1)
  have HST1 := Aside0.mk (Rc.blk_old hb1 HST.out)
  rcases hh1 with ⟨q1, ps1, v1, rfl, rfl, hP1⟩ | ⟨rfl, rfl⟩
  · obtain ⟨Aa, na, ca, rfl⟩ : ∃ Aa na ca, v1 = .slice Aa na ca := by obtain ⟨Ap, cp, hv⟩ := Kd.R_slice hP1; exact ⟨Ap, _, cp, hv⟩
    have HP1 := Aside0.mk (show OwnP w1 w.heap.size (.slice Aa na ca) ps1 from Kd.R_lower hP1 HA.out.size)
    clear hP1
    obtain ⟨W1, hW1⟩ : ∃ W1, w1.alloc (.cells #[.int .u64 (q1 : Int), .slice Aa na ca] 27) = W1 := ⟨_, rfl⟩
    have HBA := Aside0.mk (show Below w1.heap.size w1 W1 by rw [← hW1]; exact alloc_below _ _)
    have HSA := Aside0.mk (show W1.heap[w1.heap.size]? = some (.cells #[.int .u64 (q1 : Int), .slice Aa na ca] 27 (0, 0)) by rw [← hW1]; exact blk_here rfl)
    have HW1 := Aside0.mk hW1
    clear hb1 hW1
    go_wp2_with fail
    rw [HW1.out]
    obtain ⟨g1, hgg⟩ : ∃ g1, w1.heap.size = g1 := ⟨_, rfl⟩
    rw [hgg] at HSA ⊢
    clear hgg hg1 HW1
    refine (held_calls xb B D z r zbn bn HRT.out HR.out zs v 1 (by omega) (by omega) _ (HD.out.below (below_go HB1.out HBA.out)) HZ.out (HCN.out 1 (by omega))).mono ?_
    rw [HDB.out]
    rintro e w2 ⟨hb2, ⟨q2, ps2, v2, rfl, rfl, hP2⟩ | ⟨rfl, rfl⟩⟩
    · obtain ⟨Ab, nb, cb, rfl⟩ : ∃ Ab nb cb, v2 = .slice Ab nb cb := by obtain ⟨Ap, cp, hv⟩ := Kd.R_slice hP2; exact ⟨Ap, _, cp, hv⟩
      have HP2 := Aside0.mk (show OwnP w2 w.heap.size (.slice Ab nb cb) ps2 from Kd.R_lower hP2 (below_go HB1.out HBA.out).size)
      clear hP2
      have HB2 := Aside0.mk (below_go (below_go HB1.out HBA.out) hb2)
      have HST2 := Aside0.mk (Rc.blk_old hb2 (Rc.blk_old HBA.out HST1.out))
      have HSA2 := Aside0.mk (Rc.blk_old hb2 HSA.out)
      obtain ⟨W2, hW2⟩ : ∃ W2, w2.alloc (.cells #[.int .u64 (q2 : Int), .slice Ab nb cb] 27) = W2 := ⟨_, rfl⟩
      have hb2a : Below w2.heap.size w2 W2 := by rw [← hW2]; exact alloc_below _ _
      have hsb : W2.heap[w2.heap.size]? = some (.cells #[.int .u64 (q2 : Int), .slice Ab nb cb] 27 (0, 0)) := by rw [← hW2]; exact blk_here rfl
      have hsa := Rc.blk_old hb2a HSA2.out
      have hst := Rc.blk_old hb2a HST2.out
      have HBW := Aside0.mk (below_go HB2.out hb2a)
      have HST3 := Aside0.mk hst
      obtain ⟨a0, a1, -, -⟩ := st_cells (by rfl) hsa
      obtain ⟨b0, b1, -, -⟩ := st_cells (by rfl) hsb
      obtain ⟨s0, s1, z0, z1⟩ := st_cells (by rfl) hst
      have HW2 := Aside0.mk hW2
      have HPA := Aside0.mk (show OwnP W2 w.heap.size (.slice Aa na ca) ps1 from Kd.R_below (Kd.R_below (Kd.R_below HP1.out HBA.out) hb2) hb2a)
      have HPB := Aside0.mk (show OwnP W2 w.heap.size (.slice Ab nb cb) ps2 from Kd.R_below HP2.out hb2a)
      by_cases hlt : q1 < q2
      · have hd : decide ((q1 : Int) < (q2 : Int)) = true := decide_eq_true (by omega)
        have hd' : decide (q1 < q2) = true := decide_eq_true hlt
        have HLT := Aside0.mk hlt
        clear hb2 hb2a hsb hsa hst hW2 hlt
        rw [← HW2.out] at a0 a1 b0 b1 s0 s1 z0 z1
        go_wp2
        rw [HW2.out]
        have b1' := blk_set HST3.out 0 (.int .u64 (q2 : Int))
        have b2' := blk_set b1' 1 (.slice Ab nb cb)
        have hB9 := (HBW.out.setCell (p := ⟨g, 0, none⟩) (Nat.le_of_eq HG.out) (.int .u64 (q2 : Int))).setCell (p := ⟨g, 1, none⟩) (Nat.le_of_eq HG.out) (.slice Ab nb cb)
        have hP9 : OwnP ((W2.setCell ⟨g, 0, none⟩ (.int .u64 (q2 : Int))).setCell ⟨g, 1, none⟩ (.slice Ab nb cb)) w.heap.size (.slice Ab nb cb) ps2 := Kd.R_set (Kd.R_set HPB.out HST3.out plE_ne 0 _) b1' plE_ne 1 _
        clear b1' a0 a1 b0 b1 s0 s1 z0 z1
        generalize (W2.setCell ⟨g, 0, none⟩ (.int .u64 (q2 : Int))).setCell ⟨g, 1, none⟩ (.slice Ab nb cb) = W9 at *
        have k0 : W9.cell? ⟨g, 0, none⟩ = some (.int .u64 (q2 : Int)) := by simp [World.cell?, b2']
        have k1 : W9.cell? ⟨g, 1, none⟩ = some (.slice Ab nb cb) := by simp [World.cell?, b2']
        refine bodyPost_ret (v := .tuple #[.agg #[.int .u64 (q2 : Int), .slice Ab nb cb], .int .i64 1, .int .u16 0]) (by simp [results, Try.results23, go_sem, k0, k1]) rfl ?_
        exact ⟨hB9, .inl ⟨q2, ps2, _, 1, by show (if q1 < q2 then _ else _) = _; rw [if_pos HLT.out], by omega, rfl, hP9⟩⟩
      · have hd : decide ((q1 : Int) < (q2 : Int)) = false := decide_eq_false (by omega)
        have hd' : decide (q1 < q2) = false := decide_eq_false hlt
        have HLT := Aside0.mk hlt
        clear hb2 hb2a hsb hsa hst hW2 hlt
        rw [← HW2.out] at a0 a1 b0 b1 s0 s1 z0 z1
        go_wp2
        rw [HW2.out]
        have b1' := blk_set HST3.out 0 (.int .u64 (q1 : Int))
        have b2' := blk_set b1' 1 (.slice Aa na ca)
        have hB9 := (HBW.out.setCell (p := ⟨g, 0, none⟩) (Nat.le_of_eq HG.out) (.int .u64 (q1 : Int))).setCell (p := ⟨g, 1, none⟩) (Nat.le_of_eq HG.out) (.slice Aa na ca)
        have hP9 : OwnP ((W2.setCell ⟨g, 0, none⟩ (.int .u64 (q1 : Int))).setCell ⟨g, 1, none⟩ (.slice Aa na ca)) w.heap.size (.slice Aa na ca) ps1 := Kd.R_set (Kd.R_set HPA.out HST3.out plE_ne 0 _) b1' plE_ne 1 _
        clear b1' a0 a1 b0 b1 s0 s1 z0 z1
        generalize (W2.setCell ⟨g, 0, none⟩ (.int .u64 (q1 : Int))).setCell ⟨g, 1, none⟩ (.slice Aa na ca) = W9 at *
        have k0 : W9.cell? ⟨g, 0, none⟩ = some (.int .u64 (q1 : Int)) := by simp [World.cell?, b2']
        have k1 : W9.cell? ⟨g, 1, none⟩ = some (.slice Aa na ca) := by simp [World.cell?, b2']
        refine bodyPost_ret (v := .tuple #[.agg #[.int .u64 (q1 : Int), .slice Aa na ca], .int .i64 0, .int .u16 0]) (by simp [results, Try.results23, go_sem, k0, k1]) rfl ?_
        exact ⟨hB9, .inl ⟨q1, ps1, _, 0, by show (if q1 < q2 then _ else _) = _; rw [if_neg HLT.out], by omega, rfl, hP9⟩⟩
    · have HB2 := Aside0.mk (below_go (below_go HB1.out HBA.out) hb2)
      have HST2 := Aside0.mk (Rc.blk_old hb2 (Rc.blk_old HBA.out HST1.out))
      have HSA2 := Aside0.mk (Rc.blk_old hb2 HSA.out)
      obtain ⟨W2, hW2⟩ : ∃ W2, w2.alloc (.cells #[.int .u64 0, .slice none 0 0] 27) = W2 := ⟨_, rfl⟩
      have hb2a : Below w2.heap.size w2 W2 := by rw [← hW2]; exact alloc_below _ _
      have hsb : W2.heap[w2.heap.size]? = some (.cells #[.int .u64 0, .slice none 0 0] 27 (0, 0)) := by rw [← hW2]; exact blk_here rfl
      have hsa := Rc.blk_old hb2a HSA2.out
      have hst := Rc.blk_old hb2a HST2.out
      have HBW := Aside0.mk (below_go HB2.out hb2a)
      have HST3 := Aside0.mk hst
      obtain ⟨a0, a1, -, -⟩ := st_cells (by rfl) hsa
      obtain ⟨b0, b1, -, -⟩ := st_cells (by rfl) hsb
      obtain ⟨s0, s1, z0, z1⟩ := st_cells (by rfl) hst
      have HW2 := Aside0.mk hW2
      have HPA := Aside0.mk (show OwnP W2 w.heap.size (.slice Aa na ca) ps1 from Kd.R_below (Kd.R_below (Kd.R_below HP1.out HBA.out) hb2) hb2a)
      clear hb2 hb2a hsb hsa hst hW2
      rw [← HW2.out] at a0 a1 b0 b1 s0 s1 z0 z1
      go_wp2
      rw [HW2.out]
      have b1' := blk_set HST3.out 0 (.int .u64 (q1 : Int))
      have b2' := blk_set b1' 1 (.slice Aa na ca)
      have hB9 := (HBW.out.setCell (p := ⟨g, 0, none⟩) (Nat.le_of_eq HG.out) (.int .u64 (q1 : Int))).setCell (p := ⟨g, 1, none⟩) (Nat.le_of_eq HG.out) (.slice Aa na ca)
      have hP9 : OwnP ((W2.setCell ⟨g, 0, none⟩ (.int .u64 (q1 : Int))).setCell ⟨g, 1, none⟩ (.slice Aa na ca)) w.heap.size (.slice Aa na ca) ps1 := Kd.R_set (Kd.R_set HPA.out HST3.out plE_ne 0 _) b1' plE_ne 1 _
      clear b1' a0 a1 b0 b1 s0 s1 z0 z1
      generalize (W2.setCell ⟨g, 0, none⟩ (.int .u64 (q1 : Int))).setCell ⟨g, 1, none⟩ (.slice Aa na ca) = W9 at *
      have k0 : W9.cell? ⟨g, 0, none⟩ = some (.int .u64 (q1 : Int)) := by simp [World.cell?, b2']
      have k1 : W9.cell? ⟨g, 1, none⟩ = some (.slice Aa na ca) := by simp [World.cell?, b2']
      refine bodyPost_ret (v := .tuple #[.agg #[.int .u64 (q1 : Int), .slice Aa na ca], .int .i64 0, .int .u16 0]) (by simp [results, Try.results23, go_sem, k0, k1]) rfl ?_
      exact ⟨hB9, .inl ⟨q1, ps1, _, 0, rfl, by omega, rfl, hP9⟩⟩
  · obtain ⟨W1, hW1⟩ : ∃ W1, w1.alloc (.cells #[.int .u64 0, .slice none 0 0] 27) = W1 := ⟨_, rfl⟩
    have HBA := Aside0.mk (show Below w1.heap.size w1 W1 by rw [← hW1]; exact alloc_below _ _)
    have HSA := Aside0.mk (show W1.heap[w1.heap.size]? = some (.cells #[.int .u64 0, .slice none 0 0] 27 (0, 0)) by rw [← hW1]; exact blk_here rfl)
    have HW1 := Aside0.mk hW1
    clear hb1 hW1
    go_wp2_with fail
    rw [HW1.out]
    obtain ⟨g1, hgg⟩ : ∃ g1, w1.heap.size = g1 := ⟨_, rfl⟩
    rw [hgg] at HSA ⊢
    clear hgg hg1 HW1
    refine (held_calls xb B D z r zbn bn HRT.out HR.out zs v 1 (by omega) (by omega) _ (HD.out.below (below_go HB1.out HBA.out)) HZ.out (HCN.out 1 (by omega))).mono ?_
    rw [HDB.out]
    rintro e w2 ⟨hb2, ⟨q2, ps2, v2, rfl, rfl, hP2⟩ | ⟨rfl, rfl⟩⟩
    · obtain ⟨Ab, nb, cb, rfl⟩ : ∃ Ab nb cb, v2 = .slice Ab nb cb := by obtain ⟨Ap, cp, hv⟩ := Kd.R_slice hP2; exact ⟨Ap, _, cp, hv⟩
      have HP2 := Aside0.mk (show OwnP w2 w.heap.size (.slice Ab nb cb) ps2 from Kd.R_lower hP2 (below_go HB1.out HBA.out).size)
      clear hP2
      have HB2 := Aside0.mk (below_go (below_go HB1.out HBA.out) hb2)
      have HST2 := Aside0.mk (Rc.blk_old hb2 (Rc.blk_old HBA.out HST1.out))
      have HSA2 := Aside0.mk (Rc.blk_old hb2 HSA.out)
      obtain ⟨W2, hW2⟩ : ∃ W2, w2.alloc (.cells #[.int .u64 (q2 : Int), .slice Ab nb cb] 27) = W2 := ⟨_, rfl⟩
      have hb2a : Below w2.heap.size w2 W2 := by rw [← hW2]; exact alloc_below _ _
      have hsb : W2.heap[w2.heap.size]? = some (.cells #[.int .u64 (q2 : Int), .slice Ab nb cb] 27 (0, 0)) := by rw [← hW2]; exact blk_here rfl
      have hsa := Rc.blk_old hb2a HSA2.out
      have hst := Rc.blk_old hb2a HST2.out
      have HBW := Aside0.mk (below_go HB2.out hb2a)
      have HST3 := Aside0.mk hst
      obtain ⟨a0, a1, -, -⟩ := st_cells (by rfl) hsa
      obtain ⟨b0, b1, -, -⟩ := st_cells (by rfl) hsb
      obtain ⟨s0, s1, z0, z1⟩ := st_cells (by rfl) hst
      have HW2 := Aside0.mk hW2
      have HPB := Aside0.mk (show OwnP W2 w.heap.size (.slice Ab nb cb) ps2 from Kd.R_below HP2.out hb2a)
      clear hb2 hb2a hsb hsa hst hW2
      rw [← HW2.out] at a0 a1 b0 b1 s0 s1 z0 z1
      go_wp2
      rw [HW2.out]
      have b1' := blk_set HST3.out 0 (.int .u64 (q2 : Int))
      have b2' := blk_set b1' 1 (.slice Ab nb cb)
      have hB9 := (HBW.out.setCell (p := ⟨g, 0, none⟩) (Nat.le_of_eq HG.out) (.int .u64 (q2 : Int))).setCell (p := ⟨g, 1, none⟩) (Nat.le_of_eq HG.out) (.slice Ab nb cb)
      have hP9 : OwnP ((W2.setCell ⟨g, 0, none⟩ (.int .u64 (q2 : Int))).setCell ⟨g, 1, none⟩ (.slice Ab nb cb)) w.heap.size (.slice Ab nb cb) ps2 := Kd.R_set (Kd.R_set HPB.out HST3.out plE_ne 0 _) b1' plE_ne 1 _
      clear b1' a0 a1 b0 b1 s0 s1 z0 z1
      generalize (W2.setCell ⟨g, 0, none⟩ (.int .u64 (q2 : Int))).setCell ⟨g, 1, none⟩ (.slice Ab nb cb) = W9 at *
      have k0 : W9.cell? ⟨g, 0, none⟩ = some (.int .u64 (q2 : Int)) := by simp [World.cell?, b2']
      have k1 : W9.cell? ⟨g, 1, none⟩ = some (.slice Ab nb cb) := by simp [World.cell?, b2']
      refine bodyPost_ret (v := .tuple #[.agg #[.int .u64 (q2 : Int), .slice Ab nb cb], .int .i64 1, .int .u16 0]) (by simp [results, Try.results23, go_sem, k0, k1]) rfl ?_
      exact ⟨hB9, .inl ⟨q2, ps2, _, 1, rfl, by omega, rfl, hP9⟩⟩
    · have HB2 := Aside0.mk (below_go (below_go HB1.out HBA.out) hb2)
      have HST2 := Aside0.mk (Rc.blk_old hb2 (Rc.blk_old HBA.out HST1.out))
      have HSA2 := Aside0.mk (Rc.blk_old hb2 HSA.out)
      obtain ⟨W2, hW2⟩ : ∃ W2, w2.alloc (.cells #[.int .u64 0, .slice none 0 0] 27) = W2 := ⟨_, rfl⟩
      have hb2a : Below w2.heap.size w2 W2 := by rw [← hW2]; exact alloc_below _ _
      have hsb : W2.heap[w2.heap.size]? = some (.cells #[.int .u64 0, .slice none 0 0] 27 (0, 0)) := by rw [← hW2]; exact blk_here rfl
      have hsa := Rc.blk_old hb2a HSA2.out
      have hst := Rc.blk_old hb2a HST2.out
      have HBW := Aside0.mk (below_go HB2.out hb2a)
      have HST3 := Aside0.mk hst
      obtain ⟨a0, a1, -, -⟩ := st_cells (by rfl) hsa
      obtain ⟨b0, b1, -, -⟩ := st_cells (by rfl) hsb
      obtain ⟨s0, s1, z0, z1⟩ := st_cells (by rfl) hst
      have HW2 := Aside0.mk hW2
      clear hb2 hb2a hsb hsa hst hW2
      rw [← HW2.out] at a0 a1 b0 b1 s0 s1 z0 z1
      go_wp2
      rw [HW2.out]
      have b1' := blk_set HST3.out 0 (.int .u64 0)
      have b2' := blk_set b1' 1 (.slice none 0 0)
      have hB9 := (HBW.out.setCell (p := ⟨g, 0, none⟩) (Nat.le_of_eq HG.out) (.int .u64 0)).setCell (p := ⟨g, 1, none⟩) (Nat.le_of_eq HG.out) (.slice none 0 0)
      clear b1' a0 a1 b0 b1 s0 s1 z0 z1
      generalize (W2.setCell ⟨g, 0, none⟩ (.int .u64 0)).setCell ⟨g, 1, none⟩ (.slice none 0 0) = W9 at *
      have k0 : W9.cell? ⟨g, 0, none⟩ = some (.int .u64 0) := by simp [World.cell?, b2']
      have k1 : W9.cell? ⟨g, 1, none⟩ = some (.slice none 0 0) := by simp [World.cell?, b2']
      refine bodyPost_ret (v := .tuple #[.agg #[.int .u64 0, .slice none 0 0], .int .i64 0, .int .u16 142]) (by simp [results, Try.results23, go_sem, k0, k1]) rfl ?_
      exact ⟨hB9, .inr ⟨rfl, rfl⟩⟩
end Go.Proofs.Ytkmeipblgdahoaa.Ck

/- Save, told of zones; coaminglaw14.known: the chapter's examples. -/
namespace Go.Proofs.Ytkmeipblgdahoaa.Ck
open Go.RowKit Go.Proofs.YtkmeipblgdahoaaW.PrintWords Go.Proofs.YtkmeipblgdahoaaW.PrintMore Go.Proofs.Ytkmeipblgdahoaa.Base Go.Proofs.Ytkmeipblgdahoaa.Shp
open Go.Proofs.Ytkmeipblgdahoaa.Dv (Dev Prt Zn Chg flat ZInv rfluF fluF new_calls flat_flush flat_reset)
set_option maxRecDepth 100000
set_option linter.unusedVariables false
set_option linter.unusedSimpArgs false
/-- The zones behind a Save. -/
def savZ (zs : List Zn) (slot : Nat) (bs : List (List UInt8)) : List Zn := (zs.set slot (bs, 0)).mapIdx rfluF
theorem savZ_len (zs : List Zn) (slot : Nat) (bs : List (List UInt8)) : (savZ zs slot bs).length = zs.length := by unfold savZ; simp
theorem sav_inv {b zb : Nat} {zs : List Zn} (h : ZInv b zb zs) (slot : Nat) {bs : List (List UInt8)} (hl : bs.length ≤ zb) (hb : ∀ x ∈ bs, x.length = b) : ZInv b zb (zs.set slot (bs, 0)) :=
  h.set slot ⟨⟨by simp, by simp⟩, hl, hb⟩
theorem savZ_inv {b zb : Nat} {zs : List Zn} (h : ZInv b zb zs) (slot : Nat) {bs : List (List UInt8)} (hl : bs.length ≤ zb) (hb : ∀ x ∈ bs, x.length = b) : ZInv b zb (savZ zs slot bs) := by
  have h1 := sav_inv h slot hl hb
  intro p hp
  unfold savZ at hp
  obtain ⟨i, hi, rfl⟩ := List.mem_iff_getElem.1 hp
  rw [List.getElem_mapIdx]
  rw [List.length_mapIdx] at hi
  obtain ⟨h2, h3, h4⟩ := h1 _ (List.getElem_mem hi)
  refine ⟨⟨by simp [rfluF], by simp [rfluF]⟩, h3, h4⟩
theorem savZ_flat {b zb : Nat} (hb0 : 0 < b) {zs : List Zn} (h : ZInv b zb zs) (slot : Nat) {bs : List (List UInt8)} (hl : bs.length ≤ zb) (hb : ∀ x ∈ bs, x.length = b) : savP (b : Int) (zs.map flat) slot bs = (savZ zs slot bs).map flat := by
  unfold savP savZ
  rw [flat_flush hb0 (sav_inv h slot hl hb), List.map_set]
  rfl
theorem savZ_get {zs : List Zn} {slot k : Nat} {bs : List (List UInt8)} (hk : k < zs.length) : ((savZ zs slot bs).getD k ([], 0)).1 = if slot = k then bs else (zs.getD k ([], 0)).1 := by
  unfold savZ
  rw [List.getD_eq_getElem?_getD, List.getElem?_mapIdx]
  by_cases h : slot = k
  · subst h
    rw [List.getElem?_set_self hk, if_pos rfl]
    rfl
  · rw [List.getElem?_set_ne h, if_neg h, List.getD_eq_getElem?_getD, List.getElem?_eq_getElem hk]
    rfl
/-- What Save answers, and the zones behind it. -/
def SavZ (z : Int) (zbn bn : Nat) (r : Int) (zs : List Zn) (slot : Int) (q : Nat) (l : List Plc) (e : Ending) (zs' : List Zn) : Prop :=
  (¬ (0 ≤ slot ∧ slot < 2) ∧ e = .returned (.int .u16 1) ∧ zs' = zs) ∨
  ((0 ≤ slot ∧ slot < 2) ∧ ∃ x : Int, encC (decide (Rt z zbn bn r)) z zbn bn q l = .error x ∧ (x = 140 ∨ x = 141) ∧ e = .returned (.int .u16 x) ∧ zs' = zs) ∨
  ((0 ≤ slot ∧ slot < 2) ∧ ∃ bs, encC (decide (Rt z zbn bn r)) z zbn bn q l = .ok bs ∧ e = .returned (.int .u16 0) ∧ zs' = savZ zs slot.toNat bs)
theorem zsave_calls (xb B : Nat) (D : Nat → Prop) (z r : Int) (zbn bn : Nat) (hrt : Rt z zbn bn r) (hr : IsI r) (zs : List Zn) (v : Value) (slot : Int) (hs : IsI slot) (q : Nat) (hq : q < 18446744073709551616) (A : Option Addr) (n c : Nat) (l : List Plc) (hn : n ≤ 10000000) (hnc : n ≤ c)
    (w : World) (hD : Dev w xb B D z zbn bn r (zs.map flat) v) (h : plK.C w A n l) (hDl : ∀ k, D k → k < w.heap.size) (h2 : 2 ≤ zs.length) (hz : ZInv bn zbn zs) :
    Calls Try.prog 22 #[.pointer (some ⟨xb, 0, none⟩), .int .i64 slot, .agg #[.int .u64 (q : Int), .slice A n c]] w
      fun e w' => ∃ zs', SavZ z zbn bn r zs slot q l e zs' ∧ ZInv bn zbn zs' ∧ zs'.length = zs.length ∧ Dev w' xb B (fun k => D k ∨ w.heap.size ≤ k) z zbn bn r (zs'.map flat) v ∧ Chg w w' (fun k => D k ∨ w.heap.size ≤ k) := by
  have hbn : 64 ≤ bn ∧ bn ≤ 4096 := by have h3 := pow_range hrt.2.2.2.2.1; omega
  have hzb4 : zbn ≤ 4096 := by have := hrt.2.2.2.1; omega
  refine (save_calls xb B D z zbn r bn hrt hr (zs.map flat) v slot hs q hq A n c l hn hnc w hD h hDl (by rw [List.length_map]; exact h2) (flat_small hbn.2 hzb4 hz)).mono ?_
  rintro e w' ⟨ps', ⟨h1, rfl, rfl⟩ | ⟨h1, x, he, hx, rfl, rfl⟩ | ⟨h1, bs, he, rfl, rfl⟩, hD', hc⟩
  · exact ⟨zs, .inl ⟨h1, rfl, rfl⟩, hz, rfl, hD', hc⟩
  · exact ⟨zs, .inr (.inl ⟨h1, x, he, hx, rfl, rfl⟩), hz, rfl, hD', hc⟩
  · obtain ⟨e1, e2, -, -⟩ := enc_ok he
    have hlb : ∀ x ∈ bs, x.length = bn := by rw [e1]; exact fun x hx => blks_mem (rmC_pos hrt.2.2.2.2.1) hx
    have hll : bs.length ≤ zbn := by omega
    exact ⟨_, .inr (.inr ⟨h1, bs, he, rfl, rfl⟩), savZ_inv hz _ hll hlb, savZ_len _ _ _, by rw [savZ_flat (by omega) hz _ hll hlb] at hD'; exact hD', hc⟩
/-! The examples. -/
theorem kn_rt : Rt 6 8 64 2 := by decide
theorem kn_enc (q : Nat) : encC (decide (Rt 6 8 64 2)) 6 8 64 q [] = .ok (blks q [] 64) := by
  unfold encC
  have hm : manyN ([] : List Plc).length 64 = 1 := by decide
  rw [if_pos ⟨decide_eq_true kn_rt, ⟨fun p hp => by simp at hp, trivial⟩⟩, hm, if_pos (by decide)]
theorem kn_len (q : Nat) : (blks q [] 64).length = 1 := by rw [blks_len]; decide
theorem kn_dec (q : Nat) (hq : q < 18446744073709551616) : decC (decide (Rt 6 8 64 2)) 6 8 64 (blks q [] 64) = some (q, []) :=
  dec_enc (kn_enc q) (by decide) (by decide) (by decide) hq (fun x hx => by simp at hx)
def kz0 : List Zn := List.replicate 6 ([], 0)
theorem kz0_flat : List.replicate (6 : Int).toNat (([] : List UInt8), (0 : Int)) = kz0.map flat := rfl
theorem kz0_inv : ZInv 64 8 kz0 := fun p hp => by
  rw [List.eq_of_mem_replicate hp]
  exact ⟨⟨by simp, by simp⟩, by simp, fun x hx => by simp at hx⟩
def kz1 : List Zn := savZ kz0 0 (blks 5 [] 64)
def kz2 : List Zn := savZ kz1 1 (blks 6 [] 64)
theorem nil_C (w : World) : plK.C w none 0 [] := ⟨rfl, by omega, fun hp => by simp at hp⟩
theorem kz_mem (q : Nat) : ∀ x ∈ blks q [] 64, x.length = 64 := fun x hx => blks_mem (by decide) hx
theorem kz1_inv : ZInv 64 8 kz1 := savZ_inv kz0_inv _ (by rw [kn_len]; omega) (kz_mem _)
theorem kz2_inv : ZInv 64 8 kz2 := savZ_inv kz1_inv _ (by rw [kn_len]; omega) (kz_mem _)
theorem kz2_0 : (kz2.getD 0 ([], 0)).1 = blks 5 [] 64 := by
  unfold kz2
  rw [savZ_get (by rw [kz1, savZ_len]; decide), if_neg (by decide)]
  unfold kz1
  rw [savZ_get (by decide), if_pos rfl]
theorem kz2_1 : (kz2.getD 1 ([], 0)).1 = blks 6 [] 64 := by
  unfold kz2
  rw [savZ_get (by rw [kz1, savZ_len]; decide), if_pos rfl]
set_option maxHeartbeats 4000000 in
theorem known_calls (w : World) : Calls Try.prog 12 #[] w fun e w' => e = .returned (.bool true) ∧ Below w.heap.size w w' := by
  have HA := Aside0.mk (alloc_below w (.cells #[.int .i64 6, .int .i64 8, .int .i64 64, .int .i64 2] 23))
  have HSH := Aside0.mk (show (w.alloc (.cells #[.int .i64 6, .int .i64 8, .int .i64 64, .int .i64 2] 23)).heap[w.heap.size]? = some (.cells #[.int .i64 6, .int .i64 8, .int .i64 64, .int .i64 2] 23 (0, 0)) from blk_here rfl)
  have HII := Aside0.mk (show IsI 6 ∧ IsI 8 ∧ IsI 64 ∧ IsI 2 ∧ IsI 0 ∧ IsI 1 by unfold IsI; omega)
  go_enter Try.func12, Try.ntmps12
  go_wp2_with fail
  obtain ⟨g, hg⟩ : ∃ g, w.heap.size = g := ⟨_, rfl⟩
  obtain ⟨W, hW⟩ : ∃ W, w.alloc (.cells #[.int .i64 6, .int .i64 8, .int .i64 64, .int .i64 2] 23) = W := ⟨_, rfl⟩
  rw [hW] at HA HSH ⊢
  rw [hg] at HSH ⊢
  have HG := Aside0.mk hg
  clear hW hg
  refine (encode_ok (kn_enc 5) HII.out.1 HII.out.2.1 HII.out.2.2.1 HII.out.2.2.2.1 (by omega) none 0 0 (by omega) (by omega) _ (nil_C _)).mono ?_
  rintro e w1 ⟨hb1, Ab, nb, cb, rfl, hN⟩
  obtain rfl : nb = 1 := by rw [(Kd.N_reads' hN).1, kn_len]
  have HB1 := Aside0.mk (below_go HA.out hb1)
  have hsh := Rc.blk_old hb1 HSH.out
  have c0 : w1.cell? ⟨g, 0, none⟩ = some (.int .i64 6) := by simp [World.cell?, hsh]
  have c1 : w1.cell? ⟨g, 1, none⟩ = some (.int .i64 8) := by simp [World.cell?, hsh]
  have c2 : w1.cell? ⟨g, 2, none⟩ = some (.int .i64 64) := by simp [World.cell?, hsh]
  have c3 : w1.cell? ⟨g, 3, none⟩ = some (.int .i64 2) := by simp [World.cell?, hsh]
  clear hN hb1 hsh
  go_wp2_with fail
  refine (new_calls 6 8 64 2 HII.out.1 HII.out.2.1 HII.out.2.2.1 HII.out.2.2.2.1 _).mono ?_
  rintro e w2 ⟨⟨hno, -⟩ | ⟨-, xb, v, rfl, hD, hxb⟩, hb2⟩
  · exact absurd kn_rt hno
  rw [kz0_flat] at hD
  have HB2 := Aside0.mk (below_go HB1.out hb2)
  have HD2 := Aside0.mk (show Dev w2 xb w1.heap.size (fun k => w1.heap.size ≤ k ∧ k < w2.heap.size) 6 (8 : Nat) (64 : Nat) 2 (kz0.map flat) v from hD.tight (fun k h1 _ h3 => ⟨h1, h3⟩))
  have H12 := Aside0.mk hb2.size
  clear hD hb2 hxb c0 c1 c2 c3
  go_wp2_with fail
  refine (zsave_calls xb w1.heap.size _ 6 2 8 64 kn_rt HII.out.2.2.2.1 kz0 v 0 HII.out.2.2.2.2.1 5 (by omega) none 0 0 [] (by omega) (by omega) _ HD2.out (nil_C _) (fun k hk => hk.2) (by decide) kz0_inv).mono ?_
  rintro e w3 ⟨zs1, hs1, -, -, hD3, hc3⟩
  rcases hs1 with ⟨hn, -, -⟩ | ⟨-, x, he, -, -, -⟩ | ⟨-, bs, he, rfl, hz1⟩
  · exact absurd ⟨by omega, by omega⟩ hn
  · have := he.symm.trans (kn_enc 5); cases this
  have hbs : bs = blks 5 [] 64 := (enc_ok he).1
  subst hbs
  obtain rfl : zs1 = kz1 := hz1
  have hb3 : Below w1.heap.size w2 w3 := hc3.to_below H12.out (fun k hk => hk.elim (fun h => h.1) (fun h => Nat.le_trans H12.out h))
  have HB3 := Aside0.mk (Below.trans HB2.out (hb3.mono HB1.out.size))
  have HD3 := Aside0.mk (show Dev w3 xb w1.heap.size (fun k => w1.heap.size ≤ k ∧ k < w3.heap.size) 6 (8 : Nat) (64 : Nat) 2 (kz1.map flat) v from hD3.tight (fun k h1 h2 h3 => ⟨h2, h3⟩))
  have H13 := Aside0.mk (show w1.heap.size ≤ w3.heap.size from Nat.le_trans H12.out hb3.size)
  clear hc3 hb3 hD3 he
  go_wp2_with fail
  refine (zsave_calls xb w1.heap.size _ 6 2 8 64 kn_rt HII.out.2.2.2.1 kz1 v 1 HII.out.2.2.2.2.2 6 (by omega) none 0 0 [] (by omega) (by omega) _ HD3.out (nil_C _) (fun k hk => hk.2) (by rw [kz1, savZ_len]; decide) kz1_inv).mono ?_
  rintro e w4 ⟨zs2, hs2, -, -, hD4, hc4⟩
  rcases hs2 with ⟨hn, -, -⟩ | ⟨-, x, he, -, -, -⟩ | ⟨-, bs, he, rfl, hz2⟩
  · exact absurd ⟨by omega, by omega⟩ hn
  · have := he.symm.trans (kn_enc 6); cases this
  have hbs : bs = blks 6 [] 64 := (enc_ok he).1
  subst hbs
  obtain rfl : zs2 = kz2 := hz2
  have hb4 : Below w1.heap.size w3 w4 := hc4.to_below H13.out (fun k hk => hk.elim (fun h => h.1) (fun h => Nat.le_trans H13.out h))
  have HB4 := Aside0.mk (Below.trans HB3.out (hb4.mono HB1.out.size))
  have HD4 := Aside0.mk hD4
  clear hc4 hb4 hD4 he
  go_wp2_with fail
  refine (load_calls xb w1.heap.size _ 6 2 8 64 kn_rt HII.out.2.2.2.1 kz2 v (by rw [kz2, savZ_len, kz1, savZ_len]; decide) _ HD4.out kz2_inv (fun k hk => by
    rcases Nat.lt_or_ge k 1 with h | h
    · obtain rfl : k = 0 := by omega
      rw [kz2_0, kn_len]; omega
    · obtain rfl : k = 1 := by omega
      rw [kz2_1, kn_len]; omega)).mono ?_
  rw [kz2_0, kz2_1]
  rintro e w5 ⟨hb5, hr⟩
  have hl : loadC (decC (decide (Rt 6 (8 : Nat) (64 : Nat) 2)) 6 (8 : Nat) 64 (blks 5 [] 64)) (decC (decide (Rt 6 (8 : Nat) (64 : Nat) 2)) 6 (8 : Nat) 64 (blks 6 [] 64)) = some ((6, []), 1) := by
    have h5 := kn_dec 5 (by omega)
    have h6 := kn_dec 6 (by omega)
    exact (congr (congrArg loadC h5) h6).trans rfl
  rw [hl] at hr
  rcases hr with ⟨q, ps, v5, s, he, -, rfl, hP⟩ | ⟨he, -⟩
  case inr => cases he
  simp only [Option.some.injEq, Prod.mk.injEq] at he
  obtain ⟨⟨rfl, rfl⟩, rfl⟩ := he
  obtain ⟨Ap, np, cp, rfl⟩ : ∃ Ap np cp, v5 = .slice Ap np cp := by obtain ⟨Ap, cp, hv⟩ := Kd.R_slice hP; exact ⟨Ap, _, cp, hv⟩
  have HB5 := Aside0.mk (below_alloc (below_go HB4.out hb5) (.cells #[.int .u64 6, .slice Ap np cp] 27))
  have hrm : rm 64 = 2 := by decide
  have HRM := Aside0.mk hrm
  clear hP hb5 hl hrm
  go_wp2_with fail
  refine (room_calls 64 HII.out.2.2.1 _).mono ?_
  rintro e w6 ⟨rfl, rfl⟩
  rw [HRM.out]
  go_wp2
  go_ret
  exact ⟨rfl, HB5.out⟩
end Go.Proofs.Ytkmeipblgdahoaa.Ck

/- Zones of a device: all that it holds. -/
namespace Go.Proofs.Ytkmeipblgdahoaa.Dv
open Go.RowKit Go.Shelf Go.Proofs.YtkmeipblgdahoaaW.PrintWords Go.Proofs.YtkmeipblgdahoaaW.PrintMore Go.Proofs.Ytkmeipblgdahoaa.Base Go.Proofs.Ytkmeipblgdahoaa.Shp
set_option maxRecDepth 100000
set_option linter.unusedVariables false
set_option linter.unusedSimpArgs false
attribute [local go_sem] Oper.semAt_some
/-- What holds at a round's head. -/
structure ZRel (w W : World) (m bn : Nat) (ps : List Prt) (i : Nat) (vo : Value) (ds : List Deferred) (So : Nat → Prop) : Prop where
  le : i ≤ m
  out : Kd.N zoneK 77 W w.heap.size So vo ((ps.take i).map (partZ bn))
  ft : ∀ k, So k → w.heap.size ≤ k ∧ k < W.heap.size ∧ ∀ d ∈ ds, d.target ≠ .collected k
  marks : Marks w.heap.size W ds
  bel : Below w.heap.size w W
def WZ (w : World) (xb m cp bn : Nat) (A0 : Option Addr) (ps : List Prt) (a : Act) (W : World) : Prop :=
  ∃ (i : Nat) (vo : Value) (ds : List Deferred) (u4 u5 u6 u7 u14 u15 u16 u17 u18 u19 u20 u21 u22 u23 u24 u25 u26 u27 u28 u29 u30 u31 u32 u33 u34 u35 u36 u37 u38 u39 u40 u41 : Value), (∃ So, ZRel w W m bn ps i vo ds So) ∧ a = { tmps := #[Value.pointer (some ⟨xb, 0, none⟩), undef, .slice none 0 0, vo, u4, u5, u6, u7, .pointer (some ⟨xb, 0, none⟩), .pointer (some ⟨xb, 0, none⟩), .pointer (some ⟨xb, 4, none⟩), .slice A0 m cp, .int .i64 (m : Int), .int .i64 (i : Int), u14, u15, u16, u17, u18, u19, u20, u21, u22, u23, u24, u25, u26, u27, u28, u29, u30, u31, u32, u33, u34, u35, u36, u37, u38, u39, u40, u41], defers := ds }
def WM (m : Nat) (a : Act) (_ : World) : Nat := m - (intOf (a.tmps.getD 13 undef)).toNat
set_option maxRecDepth 100000 in
set_option maxHeartbeats 4000000 in
theorem zones_calls (xb base : Nat) (ok : Nat → Prop) (z zb r : Int) (bn : Nat) (hb1 : 1 ≤ bn) (hb2 : bn ≤ 4096) (ps : List Prt) (v : Value) (w : World) (h : Dev w xb base ok z zb bn r ps v) (hw : Whole bn 4096 ps) (hn : ps.length ≤ 256) :
    Calls Try.prog 32 #[.pointer (some ⟨xb, 0, none⟩)] w fun e w' => ∃ v', e = .returned v' ∧ Kd.N zoneK 77 w' w.heap.size (fun k => w.heap.size ≤ k ∧ k < w'.heap.size) v' (ps.map (partZ bn)) ∧ Below w.heap.size w w' := by
  have HD := Aside0.mk h
  obtain ⟨-, -, -, -, k4⟩ := h.cells
  obtain ⟨A0, m, cp, rfl, hm, hmc, -, hmm⟩ := h.form
  have HM := Aside0.mk hm
  have HWH := Aside0.mk hw
  clear h hm hw
  refine (callsIn_wide (n := 9)).1 (callsIn_of_wp_marks Try.func32 rfl trivial ?_ rfl)
  refine wpIn_wide.2 ?_
  simp only [Try.ntmps32, List.size_toArray, List.length_cons, List.length_nil, Nat.reduceAdd, Nat.reduceSub, Array.replicate_succ, Array.replicate_zero, List.push_toArray, List.append_toArray, List.nil_append, List.cons_append]
  go_wp2
  clear k4
  refine wp_loop (WZ w xb m cp bn A0 ps) (WM m) ⟨0, .slice none 0 0, [], undef, undef, undef, undef, undef, undef, undef, undef, undef, undef, undef, undef, undef, undef, undef, undef, undef, undef, undef, undef, undef, undef, undef, undef, undef, undef, undef, undef, undef, undef, undef, undef, ⟨fun _ => False, Nat.zero_le _, Kd.N_nil _ _ _ _ _, fun _ h => h.elim, trivial, Below.refl _ _⟩, rfl⟩ ?_
  rintro a W ⟨i, vo, ds, u4, hI⟩
  obtain ⟨u5, hI⟩ := hI
  obtain ⟨u6, hI⟩ := hI
  obtain ⟨u7, u14, u15, u16, u17, u18, u19, u20, hI⟩ := hI
  obtain ⟨u21, u22, u23, u24, u25, u26, u27, u28, hI⟩ := hI
  obtain ⟨u29, u30, u31, u32, u33, u34, u35, u36, hI⟩ := hI
  obtain ⟨u37, u38, u39, u40, u41, ⟨So, hrel⟩, rfl⟩ := hI
  have hle := hrel.le
  have HR := Aside0.mk hrel
  have HDW := Aside0.mk (HD.out.below hrel.bel)
  clear hrel
  by_cases hlt : i < m
  · obtain ⟨p, hp⟩ : ∃ p, ps.getD i ([], 0) = p := ⟨_, rfl⟩
    obtain ⟨-, -, k2, -, k4⟩ := HDW.out.cells
    obtain ⟨ad, cp', B, k, oki, hv, c0, c1, hk, hI, hB, f0, f1, hoa, hax, hal, hR, hoki, -, -⟩ := HDW.out.part (j := i) (by rw [← HM.out]; exact hlt) hp
    obtain ⟨rfl, rfl⟩ : A0 = some ad ∧ cp = cp' := by simp only [Value.slice.injEq] at hv; exact ⟨hv.1, hv.2.2⟩
    have HP := Aside0.mk hp
    have HI := Aside0.mk hI
    obtain ⟨cnt, hcnt4, hlen⟩ := HWH.out.get (i := i) (by rw [← HM.out]; exact hlt)
    rw [hp] at hlen
    have HLEN := Aside0.mk hlen
    have hpm : p.1.length ≤ 100000000 := by
      have : cnt * bn ≤ 4096 * 4096 := Nat.mul_le_mul hcnt4 hb2
      omega
    have K2 := Aside0.mk k2
    have K4 := Aside0.mk k4
    have hlt' : (i : Int) < (m : Int) := by omega
    have hd0 : decide ((i : Int) < (m : Int)) = true := decide_eq_true hlt'
    have HCAP := Aside0.mk hk
    have HRB := Aside0.mk (Kd.R_bound hR)
    clear hp hv hI hB hR hoki hlen f0 f1 hoa hax hal
    go_wp2
    obtain ⟨W2, hW2⟩ : ∃ W2, (W.alloc (.cells #[.slice B p.1.length k, .int .i64 p.2] 108)).alloc (.cells #[.slice none 0 0, .int .i64 p.2] 77) = W2 := ⟨_, rfl⟩
    obtain ⟨gp, hgp⟩ : ∃ gp, W.heap.size = gp := ⟨_, rfl⟩
    have hb2w : Below W.heap.size W W2 := by rw [← hW2]; exact ((Below.refl _ _).alloc (Nat.le_refl _) _).alloc (by simp) _
    have hs2 : W2.heap.size = gp + 2 := by rw [← hW2, ← hgp]; simp
    have p0 : W2.cell? ⟨gp, 0, none⟩ = some (.slice B p.1.length k) := by rw [← hW2, ← hgp]; exact (pw_cell_below (alloc_below _ _) (part_cells rfl (blk_here rfl)).1)
    have hbz : W2.heap[gp + 1]? = some (.cells #[.slice none 0 0, .int .i64 p.2] 77 (0, 0)) := by rw [← hW2, ← hgp]; exact blk_here (by simp)
    have k2 := pw_cell_below hb2w k2
    rw [hW2, hgp]
    have HB2 := Aside0.mk hb2w
    have HS2 := Aside0.mk hs2
    have HBZ := Aside0.mk hbz
    have HGP := Aside0.mk hgp
    have HD2 := Aside0.mk (HDW.out.below hb2w)
    clear hW2 hgp hb2w hs2 hbz c0 c1 k4 hk
    go_region_held3 (fun w' => w'.cell? ⟨gp, 0, none⟩ = some (.slice B p.1.length k) ∧ w'.cell? ⟨xb, 2, none⟩ = some (.int .i64 (bn : Int)))
      (first | exact ⟨p0, k2⟩ | exact ⟨pw_cell_below (((Below.refl _ _).alloc (Nat.le_refl _) _).alloc (by simp) _) p0, pw_cell_below (((Below.refl _ _).alloc (Nat.le_refl _) _).alloc (by simp) _) k2⟩)
      (first | (go_at_call 63; (with_reducible refine (chunk_calls B p.1.length k (bn : Int) (by omega) _).mono ?_); rintro e w8 ⟨rfl, rfl⟩))
    go_wp2
    obtain ⟨gb, hgb⟩ : ∃ gb, W2.heap.size = gb := ⟨_, rfl⟩
    obtain ⟨W3, hW3⟩ : ∃ W3, ((W2.alloc (.cells #[.slice B p.1.length k] 39)).alloc (.cells #[.int .i64 (bn : Int)] 3)).drew = W3 := ⟨_, rfl⟩
    have hb3 : Below W2.heap.size W2 W3 := by rw [← hW3]; exact below_drew (((Below.refl _ _).alloc (Nat.le_refl _) _).alloc (by simp) _)
    have hs3 : W3.heap.size = gb + 2 := by
      rw [← hW3, ← hgb]
      show ((W2.alloc (.cells #[.slice B p.1.length k] 39)).alloc (.cells #[.int .i64 (bn : Int)] 3)).heap.size = _
      simp
    have bx0 : W3.cell? ⟨gb, 0, none⟩ = some (.slice B p.1.length k) := by
      rw [← hW3, ← hgb]
      show ((W2.alloc (.cells #[.slice B p.1.length k] 39)).alloc (.cells #[.int .i64 (bn : Int)] 3)).cell? _ = _
      go_simp
    have bx1 : W3.cell? ⟨gb + 1, 0, none⟩ = some (.int .i64 (bn : Int)) := by
      rw [← hW3, ← hgb]
      show ((W2.alloc (.cells #[.slice B p.1.length k] 39)).alloc (.cells #[.int .i64 (bn : Int)] 3)).cell? _ = _
      go_simp
    rw [hgb, hW3]
    have HGB := Aside0.mk (show gb = gp + 2 by rw [← hgb]; exact HS2.out)
    have HB3 := Aside0.mk hb3
    have HS3 := Aside0.mk hs3
    have HBZ3 := Aside0.mk (show W3.heap[gp + 1]? = some (.cells #[.slice none 0 0, .int .i64 p.2] 77 (0, 0)) from (hb3.block _ (by rw [HS2.out]; omega)).trans HBZ.out)
    have HD3 := Aside0.mk (((HDW.out.tight (ok' := fun j => ok j ∧ j < W.heap.size) (fun j hj h1 h2 => ⟨hj, h2⟩)).below HB2.out).below hb3)
    have HBX := Aside0.mk (And.intro bx0 bx1)
    clear hgb hW3 hb3 hs3 bx0 bx1 p0 k2
    refine (wpIn_wide (n := 9)).1 ?_
    refine wpIn_rangeFunc_ownG (α := Fin cnt) rfl (by decide) (gf := 78) (lb := #[.pointer (some ⟨gb, 0, none⟩), .pointer (some ⟨gb + 1, 0, none⟩)]) rfl trivial (enters_of Try.func78 (by kernel_rfl) rfl)
      (chunk_stops _ gb B p.1.length k bn cnt hb1 HLEN.out HCAP.out hpm W3 (by rw [HS3.out]; omega) HBX.out.1 HBX.out.2) KpB.trans ?hKb (Below.refl _ _) (fun _ => rfl)
      (fun pre Wx => ∃ vz S, ZI W3 Wx (gp + 1) p.2 vz (pre.map fun x => piece bn p.1 x.1) S) (fun _ _ _ => False)
      (fun s A B row hs hg hr => by obtain ⟨vz, S, hz⟩ := hs; exact ⟨vz, S, hz.grown (by rw [HS3.out, HGB.out]; omega) hg hr⟩)
      (fun _ _ _ _ _ hs _ _ => hs) ⟨.slice none 0 0, fun _ => False, HBZ3.out, Kd.N_nil _ _ _ _ _, fun _ h => h.elim, Chg.refl _ _⟩ ?a1 ?assign ?body ?done ?stop
    case assign =>
      intro l x Wx K hK
      gi_wp2
      exact hK
    case hKb =>
      intro Wx l o o' hl ho _ _ j hj
      have hlt := (Array.getElem?_eq_some_iff.1 ho).1
      have := HS3.out
      exact (grownBy_putObj' Wx l o').block j (by omega) (fun e => by injection e with e; omega)
    case body =>
      rintro l pre x Wq ⟨vq, S, hz⟩ hlen
      have HZ := Aside0.mk hz
      clear hz
      have hgl : gp + 1 < W3.heap.size := by rw [HS3.out, HGB.out]; omega
      have hxg : xb ≠ gp + 1 := by
        have h1 := (Array.getElem?_eq_some_iff.1 HDW.out.blk).1
        have h2 := HGP.out
        omega
      have hcap : p.1.length ≤ k ∧ byte.C Wq B p.1.length p.1 := by
        have h1 := Kd.R_below (Kd.R_below HRB.out HB2.out) HB3.out
        have h2 := Kd.R_kept h1 HZ.out.chg.kept (fun j hj e => by have := hj.2.2.1; have := HGP.out; omega)
        have h3 := Kd.R_reads' h2
        exact ⟨h3.2.1, h3.2.2⟩
      have hxl : x.1 * bn + bn ≤ p.1.length := by
        rw [HLEN.out, ← Nat.succ_mul]
        exact Nat.mul_le_mul_right bn x.2
      have HPC := Aside0.mk (show byte.C Wq (B.map (·.add (x.1 * bn))) bn (piece bn p.1 x.1) from by
        have h1 := C_drop hcap.2 hcap.1 (x.1 * bn) (by omega)
        rw [if_neg (by have := hcap.1; omega)] at h1
        have h2 := C_take h1 bn (by omega)
        rw [show x.1 * bn * byte.sz = x.1 * bn from Nat.mul_one _] at h2
        exact h2)
      obtain ⟨Aq, nq, cq, rfl, -, hCq⟩ := N_open HZ.out.row
      have HNQ := Aside0.mk (show (pre.map fun x => piece bn p.1 x.1).length ≤ 100000 by rw [List.length_map]; omega)
      obtain ⟨z0, -, zf, -⟩ : Wq.cell? ⟨gp + 1, 0, none⟩ = some (.slice Aq nq cq) ∧ Wq.cell? ⟨gp + 1, 1, none⟩ = some (.int .i64 p.2) ∧ Wq.frozen? ⟨gp + 1, 0, none⟩ = false ∧ Wq.frozen? ⟨gp + 1, 1, none⟩ = false := by
        have := HZ.out.blk
        exact ⟨by simp [World.cell?, this], by simp [World.cell?, this], by simp [World.frozen?, this], by simp [World.frozen?, this]⟩
      have HZ0 := Aside0.mk z0
      clear hcap hCq zf hxg
      gi_wp2
      refine Brg.region_in (by kernel_rfl) (by simp) (by rintro ⟨a, w, h⟩; exact h) ?_
      unfold chunkV
      refine wpAny_take (i := 0) (oi := { dst := some 29, op := Op.fieldAddr 77 (Operand.tmp 6) 0, type := 0, pos := "zone.go:154", after := #[], guard := none }) (v := ?_) rfl (by kernel_rfl) (by kernel_rfl) (by kernel_rfl) (fun _ _ _ h => h) (Or.inl ⟨by rfl, ?_⟩) ?_
      rotate_left
      · (intro w; go_simp; (try with_reducible rfl))
      (try simp only [Act.put, List.setIfInBounds_toArray, List.set_cons_zero, List.set_cons_succ])
      refine wpAny_take (i := 2) (oi := { dst := some 31, op := Op.move (Operand.tmp 7), type := 39, pos := "zone.go:154", after := #[], guard := none }) (v := ?_) rfl (by kernel_rfl) (by kernel_rfl) (by kernel_rfl) (fun _ _ _ h => h) (Or.inl ⟨by rfl, ?_⟩) ?_
      rotate_left
      · (intro w; go_simp; (try with_reducible rfl))
      (try simp only [Act.put, List.setIfInBounds_toArray, List.set_cons_zero, List.set_cons_succ])
      refine wpAny_ready (rs := [1, 3]) (by kernel_rfl) (by simp) ?_
      refine AllReady.cons (o := { dst := some 30, op := Op.load 28 (Operand.tmp 29), type := 28, pos := "zone.go:154", after := #[{ on := 0, ground := Ground.data }], guard := none }) rfl (fun K hK => ?_) (AllReady.cons (o := { dst := some 32, op := Op.call { callee := Callee.value (Operand.func 64), args := #[Operand.tmp 31], argTypes := #[39] }, type := 39, pos := "zone.go:154", after := #[{ on := 2, ground := Ground.data }], guard := none }) rfl (fun K hK => ?_) AllReady.nil)
      · go_simp
        refine hK _ _ ?_
        clear hK K
        (try simp only [Act.put, List.setIfInBounds_toArray, List.set_cons_zero, List.set_cons_succ])
        refine wpAny_ready (rs := [3]) (by kernel_rfl) (by simp) ?_
        refine AllReady.cons (o := { dst := some 32, op := Op.call { callee := Callee.value (Operand.func 64), args := #[Operand.tmp 31], argTypes := #[39] }, type := 39, pos := "zone.go:154", after := #[{ on := 2, ground := Ground.data }], guard := none }) rfl (fun K hK => ?_) AllReady.nil
        go_simp
        refine (clone_calls _ bn bn _ (by omega) _ (Kd.C_below HPC.out (below_drew (Below.refl _ _)))).mono ?_
        rintro e w8 ⟨v8, rfl, hO8, hw8⟩
        obtain ⟨A8, n8, c8, rfl, -, hC8⟩ := hO8.reads
        have HO8 := Aside0.mk hO8
        have hb8 : Below Wq.heap.size Wq w8 := Below.trans (below_drew (Below.refl _ _)) hw8
        have HZ8 := Aside0.mk (HZ.out.below hgl hb8)
        have HKF8 := Aside0.mk hb8
        have z0 := pw_cell_below hb8 HZ0.out
        clear hO8 hw8 hC8 hb8
        refine hK _ _ ?_
        clear hK K
        (try simp only [Act.put, List.setIfInBounds_toArray, List.set_cons_zero, List.set_cons_succ])
        refine wpAny_ready (rs := [4]) (by kernel_rfl) (by simp) ?_
        refine AllReady.cons (o := { dst := some 33, op := Op.buildSlice 28 1 #[(0, Operand.tmp 32)], type := 28, pos := "zone.go:154", after := #[{ on := 3, ground := Ground.data }], guard := none }) rfl (fun K hK => ?_) AllReady.nil
        go_simp
        refine hK _ _ ?_
        clear hK K
        (try simp only [Act.put, List.setIfInBounds_toArray, List.set_cons_zero, List.set_cons_succ])
        refine wpAny_ready (rs := [5]) (by kernel_rfl) (by simp) ?_
        refine AllReady.cons (o := { dst := some 34, op := Op.call { callee := Callee.builtin Builtin.append, args := #[Operand.tmp 30, Operand.tmp 33], argTypes := #[28, 28] }, type := 28, pos := "zone.go:154", after := #[{ on := 1, ground := Ground.data }, { on := 4, ground := Ground.data }, { on := 3, ground := Ground.chain }], guard := none }) rfl (fun K hK => ?_) AllReady.nil
        refine app_blk_step W3.heap.size S (fun j => some j = (Value.slice A8 n8 c8).ownBlock) (.tmp 30) (.tmp 33) (by rfl) rfl (.slice Aq nq cq) (pre.map fun x => piece bn p.1 x.1) (piece bn p.1 x.1) A8 n8 c8 (own_FK HO8.out) (fun j hj e => by have h1 := Kd.N_lt HZ.out.row j e.symm; have h2 := Kd.R_base HO8.out j hj.symm; have h3 : Wq.drew.heap.size = Wq.heap.size := rfl; omega) rfl (by simp [Act.eval]) HZ8.out.row (Nat.le_trans HZ.out.chg.kept.1 HKF8.out.size) HNQ.out ?_
        intro v9 w9 hN9 hg9
        obtain ⟨A9, n9, c9, rfl, -, -⟩ := N_open hN9
        have HZ9 := Aside0.mk (HZ8.out.add (Wq := Wq) hgl HZ.out.chg.kept.1 hN9 hg9 (fun j hj => Kd.R_base HO8.out j hj.symm) (Nat.le_trans HZ.out.chg.kept.1 HKF8.out.size))
        have hz9 : w9.heap[gp + 1]? = some (.cells #[.slice Aq nq cq, .int .i64 p.2] 77 (0, 0)) := (hg9.block _ HZ8.out.blkEq (fun e => by have := Kd.N_base HZ8.out.row _ e.symm; omega)).trans HZ8.out.blk
        have z9 : w9.cell? ⟨gp + 1, 0, none⟩ = some (.slice Aq nq cq) := by simp [World.cell?, hz9]
        have zf9 : w9.frozen? ⟨gp + 1, 0, none⟩ = false := by simp [World.frozen?, hz9]
        have HG9 := Aside0.mk hg9
        clear hz9 hN9 hg9
        refine hK _ _ ?_
        clear hK K
        (try simp only [Act.put, List.setIfInBounds_toArray, List.set_cons_zero, List.set_cons_succ])
        refine wpAny_take (i := 6) (oi := { dst := some 35, op := Op.fieldAddr 77 (Operand.tmp 6) 0, type := 0, pos := "zone.go:154", after := #[{ on := 0, ground := Ground.phase }, { on := 1, ground := Ground.phase }, { on := 2, ground := Ground.phase }, { on := 3, ground := Ground.phase }, { on := 4, ground := Ground.phase }, { on := 5, ground := Ground.phase }], guard := none }) (v := ?_) rfl (by kernel_rfl) (by kernel_rfl) (by kernel_rfl) (fun _ _ _ h => h) (Or.inl ⟨by rfl, ?_⟩) ?_
        rotate_left
        · (intro w; go_simp; (try with_reducible rfl))
        (try simp only [Act.put, List.setIfInBounds_toArray, List.set_cons_zero, List.set_cons_succ])
        refine wpAny_ready (rs := [7]) (by kernel_rfl) (by simp) ?_
        refine AllReady.cons (o := { dst := none, op := Op.store 28 (Operand.tmp 35) (Operand.tmp 34), type := 0, pos := "zone.go:154", after := #[{ on := 6, ground := Ground.data }, { on := 5, ground := Ground.data }, { on := 5, ground := Ground.chain }, { on := 0, ground := Ground.phase }, { on := 1, ground := Ground.phase }, { on := 2, ground := Ground.phase }, { on := 3, ground := Ground.phase }, { on := 4, ground := Ground.phase }, { on := 5, ground := Ground.phase }], guard := none }) rfl (fun K hK => ?_) AllReady.nil
        go_simp
        refine hK _ _ ?_
        clear hK K
        (try simp only [Act.put, List.setIfInBounds_toArray, List.set_cons_zero, List.set_cons_succ])
        refine wpAny_done (by kernel_rfl) ?_ _
        obtain ⟨S9, hz⟩ := HZ9.out
        have hkk : KeepsOthers Wq (w9.setCell ⟨gp + 1, 0, none⟩ (.slice A9 n9 c9)) := ((KeepsOthers.of_grownBy (row := none) ⟨HKF8.out.os, HKF8.out.tape, HKF8.out.output, HKF8.out.size, fun k hk _ => HKF8.out.block k hk⟩ (fun j o e => by cases e)).trans (KeepsOthers.of_grownBy HG9.out (fun j o e ho => by obtain ⟨cells, hc⟩ := Kd.N_typed HZ8.out.row j e; rw [hc] at ho; injection ho with ho; rw [← ho]; rfl))).trans (KeepsOthers.setCell _ _ _)
        refine ⟨hkk.from _, fun j hj => ?_, ⟨_, S9, by rw [List.map_append]; exact hz⟩⟩
        have hj3 : j < W3.heap.size ∧ j ≠ gp + 1 := by have := HS3.out; have := HGB.out; omega
        rw [Below.heap_setCell _ _ _ _ hj3.2, HG9.out.block j (by have := HZ.out.chg.kept.1; have := HKF8.out.size; omega) (fun e => by have := Kd.N_base HZ8.out.row j e.symm; omega)]
        exact HKF8.out.block j (by have := HZ.out.chg.kept.1; omega)
      · go_simp
        refine (clone_calls _ bn bn _ (by omega) _ (Kd.C_below HPC.out (below_drew (Below.refl _ _)))).mono ?_
        rintro e w8 ⟨v8, rfl, hO8, hw8⟩
        obtain ⟨A8, n8, c8, rfl, -, hC8⟩ := hO8.reads
        have HO8 := Aside0.mk hO8
        have hb8 : Below Wq.heap.size Wq w8 := Below.trans (below_drew (Below.refl _ _)) hw8
        have HZ8 := Aside0.mk (HZ.out.below hgl hb8)
        have HKF8 := Aside0.mk hb8
        have z0 := pw_cell_below hb8 HZ0.out
        clear hO8 hw8 hC8 hb8
        refine hK _ _ ?_
        clear hK K
        (try simp only [Act.put, List.setIfInBounds_toArray, List.set_cons_zero, List.set_cons_succ])
        refine wpAny_ready (rs := [1, 4]) (by kernel_rfl) (by simp) ?_
        refine AllReady.cons (o := { dst := some 30, op := Op.load 28 (Operand.tmp 29), type := 28, pos := "zone.go:154", after := #[{ on := 0, ground := Ground.data }], guard := none }) rfl (fun K hK => ?_) (AllReady.cons (o := { dst := some 33, op := Op.buildSlice 28 1 #[(0, Operand.tmp 32)], type := 28, pos := "zone.go:154", after := #[{ on := 3, ground := Ground.data }], guard := none }) rfl (fun K hK => ?_) AllReady.nil)
        · go_simp
          refine hK _ _ ?_
          clear hK K
          (try simp only [Act.put, List.setIfInBounds_toArray, List.set_cons_zero, List.set_cons_succ])
          refine wpAny_ready (rs := [4]) (by kernel_rfl) (by simp) ?_
          refine AllReady.cons (o := { dst := some 33, op := Op.buildSlice 28 1 #[(0, Operand.tmp 32)], type := 28, pos := "zone.go:154", after := #[{ on := 3, ground := Ground.data }], guard := none }) rfl (fun K hK => ?_) AllReady.nil
          go_simp
          refine hK _ _ ?_
          clear hK K
          (try simp only [Act.put, List.setIfInBounds_toArray, List.set_cons_zero, List.set_cons_succ])
          refine wpAny_ready (rs := [5]) (by kernel_rfl) (by simp) ?_
          refine AllReady.cons (o := { dst := some 34, op := Op.call { callee := Callee.builtin Builtin.append, args := #[Operand.tmp 30, Operand.tmp 33], argTypes := #[28, 28] }, type := 28, pos := "zone.go:154", after := #[{ on := 1, ground := Ground.data }, { on := 4, ground := Ground.data }, { on := 3, ground := Ground.chain }], guard := none }) rfl (fun K hK => ?_) AllReady.nil
          refine app_blk_step W3.heap.size S (fun j => some j = (Value.slice A8 n8 c8).ownBlock) (.tmp 30) (.tmp 33) (by rfl) rfl (.slice Aq nq cq) (pre.map fun x => piece bn p.1 x.1) (piece bn p.1 x.1) A8 n8 c8 (own_FK HO8.out) (fun j hj e => by have h1 := Kd.N_lt HZ.out.row j e.symm; have h2 := Kd.R_base HO8.out j hj.symm; have h3 : Wq.drew.heap.size = Wq.heap.size := rfl; omega) rfl (by simp [Act.eval]) HZ8.out.row (Nat.le_trans HZ.out.chg.kept.1 HKF8.out.size) HNQ.out ?_
          intro v9 w9 hN9 hg9
          obtain ⟨A9, n9, c9, rfl, -, -⟩ := N_open hN9
          have HZ9 := Aside0.mk (HZ8.out.add (Wq := Wq) hgl HZ.out.chg.kept.1 hN9 hg9 (fun j hj => Kd.R_base HO8.out j hj.symm) (Nat.le_trans HZ.out.chg.kept.1 HKF8.out.size))
          have hz9 : w9.heap[gp + 1]? = some (.cells #[.slice Aq nq cq, .int .i64 p.2] 77 (0, 0)) := (hg9.block _ HZ8.out.blkEq (fun e => by have := Kd.N_base HZ8.out.row _ e.symm; omega)).trans HZ8.out.blk
          have z9 : w9.cell? ⟨gp + 1, 0, none⟩ = some (.slice Aq nq cq) := by simp [World.cell?, hz9]
          have zf9 : w9.frozen? ⟨gp + 1, 0, none⟩ = false := by simp [World.frozen?, hz9]
          have HG9 := Aside0.mk hg9
          clear hz9 hN9 hg9
          refine hK _ _ ?_
          clear hK K
          (try simp only [Act.put, List.setIfInBounds_toArray, List.set_cons_zero, List.set_cons_succ])
          refine wpAny_take (i := 6) (oi := { dst := some 35, op := Op.fieldAddr 77 (Operand.tmp 6) 0, type := 0, pos := "zone.go:154", after := #[{ on := 0, ground := Ground.phase }, { on := 1, ground := Ground.phase }, { on := 2, ground := Ground.phase }, { on := 3, ground := Ground.phase }, { on := 4, ground := Ground.phase }, { on := 5, ground := Ground.phase }], guard := none }) (v := ?_) rfl (by kernel_rfl) (by kernel_rfl) (by kernel_rfl) (fun _ _ _ h => h) (Or.inl ⟨by rfl, ?_⟩) ?_
          rotate_left
          · (intro w; go_simp; (try with_reducible rfl))
          (try simp only [Act.put, List.setIfInBounds_toArray, List.set_cons_zero, List.set_cons_succ])
          refine wpAny_ready (rs := [7]) (by kernel_rfl) (by simp) ?_
          refine AllReady.cons (o := { dst := none, op := Op.store 28 (Operand.tmp 35) (Operand.tmp 34), type := 0, pos := "zone.go:154", after := #[{ on := 6, ground := Ground.data }, { on := 5, ground := Ground.data }, { on := 5, ground := Ground.chain }, { on := 0, ground := Ground.phase }, { on := 1, ground := Ground.phase }, { on := 2, ground := Ground.phase }, { on := 3, ground := Ground.phase }, { on := 4, ground := Ground.phase }, { on := 5, ground := Ground.phase }], guard := none }) rfl (fun K hK => ?_) AllReady.nil
          go_simp
          refine hK _ _ ?_
          clear hK K
          (try simp only [Act.put, List.setIfInBounds_toArray, List.set_cons_zero, List.set_cons_succ])
          refine wpAny_done (by kernel_rfl) ?_ _
          obtain ⟨S9, hz⟩ := HZ9.out
          have hkk : KeepsOthers Wq (w9.setCell ⟨gp + 1, 0, none⟩ (.slice A9 n9 c9)) := ((KeepsOthers.of_grownBy (row := none) ⟨HKF8.out.os, HKF8.out.tape, HKF8.out.output, HKF8.out.size, fun k hk _ => HKF8.out.block k hk⟩ (fun j o e => by cases e)).trans (KeepsOthers.of_grownBy HG9.out (fun j o e ho => by obtain ⟨cells, hc⟩ := Kd.N_typed HZ8.out.row j e; rw [hc] at ho; injection ho with ho; rw [← ho]; rfl))).trans (KeepsOthers.setCell _ _ _)
          refine ⟨hkk.from _, fun j hj => ?_, ⟨_, S9, by rw [List.map_append]; exact hz⟩⟩
          have hj3 : j < W3.heap.size ∧ j ≠ gp + 1 := by have := HS3.out; have := HGB.out; omega
          rw [Below.heap_setCell _ _ _ _ hj3.2, HG9.out.block j (by have := HZ.out.chg.kept.1; have := HKF8.out.size; omega) (fun e => by have := Kd.N_base HZ8.out.row j e.symm; omega)]
          exact HKF8.out.block j (by have := HZ.out.chg.kept.1; omega)
        · go_simp
          refine hK _ _ ?_
          clear hK K
          (try simp only [Act.put, List.setIfInBounds_toArray, List.set_cons_zero, List.set_cons_succ])
          refine wpAny_ready (rs := [1]) (by kernel_rfl) (by simp) ?_
          refine AllReady.cons (o := { dst := some 30, op := Op.load 28 (Operand.tmp 29), type := 28, pos := "zone.go:154", after := #[{ on := 0, ground := Ground.data }], guard := none }) rfl (fun K hK => ?_) AllReady.nil
          have z0 := pw_cell_below (alloc_below w8 (.cells #[.slice A8 n8 c8] 39)) z0
          go_simp
          refine hK _ _ ?_
          clear hK K
          (try simp only [Act.put, List.setIfInBounds_toArray, List.set_cons_zero, List.set_cons_succ])
          refine wpAny_ready (rs := [5]) (by kernel_rfl) (by simp) ?_
          refine AllReady.cons (o := { dst := some 34, op := Op.call { callee := Callee.builtin Builtin.append, args := #[Operand.tmp 30, Operand.tmp 33], argTypes := #[28, 28] }, type := 28, pos := "zone.go:154", after := #[{ on := 1, ground := Ground.data }, { on := 4, ground := Ground.data }, { on := 3, ground := Ground.chain }], guard := none }) rfl (fun K hK => ?_) AllReady.nil
          refine app_blk_step W3.heap.size S (fun j => some j = (Value.slice A8 n8 c8).ownBlock) (.tmp 30) (.tmp 33) (by rfl) rfl (.slice Aq nq cq) (pre.map fun x => piece bn p.1 x.1) (piece bn p.1 x.1) A8 n8 c8 (own_FK HO8.out) (fun j hj e => by have h1 := Kd.N_lt HZ.out.row j e.symm; have h2 := Kd.R_base HO8.out j hj.symm; have h3 : Wq.drew.heap.size = Wq.heap.size := rfl; omega) rfl (by simp [Act.eval]) HZ8.out.row (Nat.le_trans HZ.out.chg.kept.1 HKF8.out.size) HNQ.out ?_
          intro v9 w9 hN9 hg9
          obtain ⟨A9, n9, c9, rfl, -, -⟩ := N_open hN9
          have HZ9 := Aside0.mk (HZ8.out.add (Wq := Wq) hgl HZ.out.chg.kept.1 hN9 hg9 (fun j hj => Kd.R_base HO8.out j hj.symm) (Nat.le_trans HZ.out.chg.kept.1 HKF8.out.size))
          have hz9 : w9.heap[gp + 1]? = some (.cells #[.slice Aq nq cq, .int .i64 p.2] 77 (0, 0)) := (hg9.block _ HZ8.out.blkEq (fun e => by have := Kd.N_base HZ8.out.row _ e.symm; omega)).trans HZ8.out.blk
          have z9 : w9.cell? ⟨gp + 1, 0, none⟩ = some (.slice Aq nq cq) := by simp [World.cell?, hz9]
          have zf9 : w9.frozen? ⟨gp + 1, 0, none⟩ = false := by simp [World.frozen?, hz9]
          have HG9 := Aside0.mk hg9
          clear hz9 hN9 hg9
          refine hK _ _ ?_
          clear hK K
          (try simp only [Act.put, List.setIfInBounds_toArray, List.set_cons_zero, List.set_cons_succ])
          refine wpAny_take (i := 6) (oi := { dst := some 35, op := Op.fieldAddr 77 (Operand.tmp 6) 0, type := 0, pos := "zone.go:154", after := #[{ on := 0, ground := Ground.phase }, { on := 1, ground := Ground.phase }, { on := 2, ground := Ground.phase }, { on := 3, ground := Ground.phase }, { on := 4, ground := Ground.phase }, { on := 5, ground := Ground.phase }], guard := none }) (v := ?_) rfl (by kernel_rfl) (by kernel_rfl) (by kernel_rfl) (fun _ _ _ h => h) (Or.inl ⟨by rfl, ?_⟩) ?_
          rotate_left
          · (intro w; go_simp; (try with_reducible rfl))
          (try simp only [Act.put, List.setIfInBounds_toArray, List.set_cons_zero, List.set_cons_succ])
          refine wpAny_ready (rs := [7]) (by kernel_rfl) (by simp) ?_
          refine AllReady.cons (o := { dst := none, op := Op.store 28 (Operand.tmp 35) (Operand.tmp 34), type := 0, pos := "zone.go:154", after := #[{ on := 6, ground := Ground.data }, { on := 5, ground := Ground.data }, { on := 5, ground := Ground.chain }, { on := 0, ground := Ground.phase }, { on := 1, ground := Ground.phase }, { on := 2, ground := Ground.phase }, { on := 3, ground := Ground.phase }, { on := 4, ground := Ground.phase }, { on := 5, ground := Ground.phase }], guard := none }) rfl (fun K hK => ?_) AllReady.nil
          go_simp
          refine hK _ _ ?_
          clear hK K
          (try simp only [Act.put, List.setIfInBounds_toArray, List.set_cons_zero, List.set_cons_succ])
          refine wpAny_done (by kernel_rfl) ?_ _
          obtain ⟨S9, hz⟩ := HZ9.out
          have hkk : KeepsOthers Wq (w9.setCell ⟨gp + 1, 0, none⟩ (.slice A9 n9 c9)) := ((KeepsOthers.of_grownBy (row := none) ⟨HKF8.out.os, HKF8.out.tape, HKF8.out.output, HKF8.out.size, fun k hk _ => HKF8.out.block k hk⟩ (fun j o e => by cases e)).trans (KeepsOthers.of_grownBy HG9.out (fun j o e ho => by obtain ⟨cells, hc⟩ := Kd.N_typed HZ8.out.row j e; rw [hc] at ho; injection ho with ho; rw [← ho]; rfl))).trans (KeepsOthers.setCell _ _ _)
          refine ⟨hkk.from _, fun j hj => ?_, ⟨_, S9, by rw [List.map_append]; exact hz⟩⟩
          have hj3 : j < W3.heap.size ∧ j ≠ gp + 1 := by have := HS3.out; have := HGB.out; omega
          rw [Below.heap_setCell _ _ _ _ hj3.2, HG9.out.block j (by have := HZ.out.chg.kept.1; have := HKF8.out.size; omega) (fun e => by have := Kd.N_base HZ8.out.row j e.symm; omega)]
          exact HKF8.out.block j (by have := HZ.out.chg.kept.1; omega)
    case done =>
      rintro D xs Wd hD rfl ⟨vz, S, hz⟩ hK
      have HZ := Aside0.mk hz
      have HK := Aside0.mk hK
      obtain ⟨Az, nz, cz, rfl, hcz, -⟩ := N_open hz.row
      have hzb := hz.blk
      obtain ⟨z0, z1⟩ : Wd.cell? ⟨gp + 1, 0, none⟩ = some (.slice Az nz cz) ∧ Wd.cell? ⟨gp + 1, 1, none⟩ = some (.int .i64 p.2) := ⟨by simp [World.cell?, hzb], by simp [World.cell?, hzb]⟩
      clear hz hK hzb
      have hWd : ∀ j, j < W.heap.size → Wd.heap[j]? = W.heap[j]? := fun j hj => by
        have h1 := HGP.out
        have h2 := HS2.out
        have h3 := HGB.out
        have h4 := HS3.out
        rw [HZ.out.chg.kept.2 j (by omega) (by omega), HB3.out.block j (by omega)]
        exact HB2.out.block j hj
      have HWD := Aside0.mk hWd
      have HWS := Aside0.mk (show W.heap.size ≤ W3.heap.size ∧ W3.heap.size ≤ Wd.heap.size from ⟨by have h1 := HGP.out; have h3 := HGB.out; have h4 := HS3.out; omega, HZ.out.chg.kept.1⟩)
      have HOut := Aside0.mk (Kd.N_step HR.out.out (fun j hj hlt => HWD.out j hlt))
      have HSW := Aside0.mk HR.out.bel.size
      have HNZ := Aside0.mk (Kd.N_reads' HZ.out.row)
      have HFZ := Aside0.mk (show Kd.FK zoneK Wd S (((List.finRange cnt).map fun x => piece bn p.1 x.1), p.2) [.slice Az nz cz, .int .i64 p.2] from by
        have h1 := HNZ.out.1
        have h2 := Kd.N_F HZ.out.row
        subst h1
        exact zone_K h2 HNZ.out.2.1 HI.out)
      clear hWd
      go_wp2_with (at_builtin; (refine app_zone w.heap.size So S (.tmp 36) (.tmp 38) rfl rfl vo ((ps.take i).map (partZ bn)) ((List.finRange cnt).map fun x => piece bn p.1 x.1) p.2 Az nz cz HFZ.out (fun j hj e => by have h1 := (HZ.out.ft j hj).1; have h2 := Kd.N_lt HR.out.out j e.symm; have h3 := HWS.out.1; omega) rfl (by simp [Act.eval]) HOut.out (Nat.le_trans HSW.out (Nat.le_trans HWS.out.1 HWS.out.2)) (by rw [List.length_map, List.length_take]; omega) ?_; intro v9 w9 hN9 hg9); (have HN9 := Aside0.mk hN9; have HG9 := Aside0.mk hg9; clear hN9 hg9))
      clear z0 z1
      refine ⟨?_, by simp [WM, intOf]; omega⟩
      refine ⟨i + 1, v9, _, _, _, _, _, _, _, _, _, _, _, _, _, _, _, _, _, _, _, _, _, _, _, _, _, _, _, _, _, _, _, _, _, ?_, rfl⟩
      have hWl := (Array.getElem?_eq_some_iff.1 HK.out).1
      have hDw : W.heap.size ≤ D := Nat.le_trans HWS.out.1 hD
      have hvo : ∀ j, vo.ownBlock = some j → So j := HR.out.out.1
      have hs9 := HG9.out.size
      have hne : ∀ j, So j → j ≠ D := fun j hj e => by have := (HR.out.ft j hj).2.1; omega
      have hbW9 : ∀ j, j < W.heap.size → some j ≠ vo.ownBlock → w9.heap[j]? = W.heap[j]? := fun j hj h1 => by
        have h2 := HWS.out
        exact (HG9.out.block j (by omega) h1).trans (HWD.out j hj)
      have hsW := HSW.out
      refine ⟨fun k => (So k ∨ S k ∨ Wd.heap.size ≤ k) ∧ k < w9.heap.size, by omega, ?_, ?_, ?_, ?_⟩
      · have hil : i < ps.length := by rw [← HM.out]; exact hlt
        have e : (ps.take (i + 1)).map (partZ bn) = (ps.take i).map (partZ bn) ++ [((List.finRange cnt).map fun x => piece bn p.1 x.1, p.2)] := by
          have hp := HP.out
          rw [List.getD_eq_getElem?_getD, List.getElem?_eq_getElem hil] at hp
          rw [List.take_add_one, List.getElem?_eq_getElem hil, List.map_append]
          have hp' : ps[i] = p := hp
          simp only [hp', Option.toList, List.map_cons, List.map_nil, partZ, pieces]
          rw [HLEN.out, Nat.mul_div_cancel _ (by omega)]
        rw [e]
        exact Kd.N_bound HN9.out
      · rintro j ⟨hj, hj9⟩
        refine ⟨?_, hj9, fun d hd e => ?_⟩
        · rcases hj with h1 | h1 | h1
          · exact (HR.out.ft j h1).1
          · have := (HZ.out.ft j h1).1; have := HWS.out; omega
          · have := HWS.out; omega
        · have hjm : (W.heap.size ≤ j → j = D) ∧ (j < W.heap.size → ∃ d ∈ ds, d.target = .collected j) := by
            rcases List.mem_cons.1 hd with rfl | hd
            · injection e with e
              exact ⟨fun _ => e.symm, fun h => by omega⟩
            · have := (HR.out.marks.lt d hd j e).2.1
              exact ⟨fun h => by omega, fun _ => ⟨d, hd, e⟩⟩
          rcases hj with h1 | h1 | h1
          · obtain ⟨d', hd', e'⟩ := hjm.2 (HR.out.ft j h1).2.1
            exact (HR.out.ft j h1).2.2 d' hd' e'
          · have h2 := (HZ.out.ft j h1).1
            have h3 := HWS.out
            have h4 := hjm.1 (by omega)
            subst h4
            obtain ⟨o, h5, h6⟩ := (HZ.out.ft _ h1).2.2
            have := HK.out
            rw [this] at h5
            injection h5 with h5
            rw [← h5] at h6
            cases h6
          · have h3 := HWS.out
            have h4 := hjm.1 (by omega)
            omega
      · refine ⟨⟨D, rfl, by omega, ?_, fun d' hd' e => ?_⟩, ?_⟩
        · rw [HG9.out.block D hWl (fun e => hne D (hvo D e.symm) rfl)]
          exact HK.out
        · have := (HR.out.marks.lt d' hd' D e).2.1
          omega
        · refine (HR.out.marks.below (W' := Wd) ⟨?_, ?_, ?_, by have := HWS.out; omega, HWD.out⟩).grown HG9.out (fun r e d' hd' e' => (HR.out.ft r (hvo r e)).2.2 d' hd' e')
          · exact HZ.out.chg.os.trans (HB3.out.os.trans HB2.out.os)
          · exact HZ.out.chg.tape.trans (HB3.out.tape.trans HB2.out.tape)
          · exact HZ.out.chg.output.trans (HB3.out.output.trans HB2.out.output)
      · refine ⟨?_, ?_, ?_, by have := HWS.out; omega, fun k hk => ?_⟩
        · exact HG9.out.os.trans (HZ.out.chg.os.trans (HB3.out.os.trans (HB2.out.os.trans HR.out.bel.os)))
        · exact HG9.out.tape.trans (HZ.out.chg.tape.trans (HB3.out.tape.trans (HB2.out.tape.trans HR.out.bel.tape)))
        · exact HG9.out.output.trans (HZ.out.chg.output.trans (HB3.out.output.trans (HB2.out.output.trans HR.out.bel.output)))
        · exact (hbW9 k (by omega) (fun e => by have := (HR.out.ft k (hvo k e.symm)).1; omega)).trans (HR.out.bel.block k hk)
    case stop =>
      rintro D c pre Wx _ _ h _
      exact h.elim
  · have hd0 : decide ((i : Int) < (m : Int)) = false := decide_eq_false (by omega)
    go_wp2
    have him : i = ps.length := by have := HM.out; omega
    have hN : Kd.N zoneK 77 W w.heap.size So vo (ps.map (partZ bn)) := by
      have h1 := HR.out.out
      rw [him, List.take_length] at h1
      exact h1
    refine leaves_marks ds W HR.out.marks (fun W' hs ho ht hou hk => ?_)
    have hmk : ∀ k, k < w.heap.size → ∀ d ∈ ds, d.target ≠ .collected k := fun k hk d hd e => by
      have := (HR.out.marks.lt d hd k e).1
      omega
    refine ⟨_, results_tmp Try.results32 _ _ _, _, rfl, ?_, ?_⟩
    · exact Kd.N_mono (Kd.N_step hN (fun j hj hlt => hk j hlt (HR.out.ft j hj).2.2)) (fun k hk => ⟨(HR.out.ft k hk).1, by have := (HR.out.ft k hk).2.1; omega⟩)
    · exact ⟨ho.trans HR.out.bel.os, ht.trans HR.out.bel.tape, hou.trans HR.out.bel.output, by have := HR.out.bel.size; omega, fun k hlt => (hk k (by have := HR.out.bel.size; omega) (hmk k hlt)).trans (HR.out.bel.block k hlt)⟩
end Go.Proofs.Ytkmeipblgdahoaa.Dv

/- SameBlocks, SameZones. -/
namespace Go.Proofs.Ytkmeipblgdahoaa.Dv
open Go.RowKit Go.Shelf Go.Proofs.YtkmeipblgdahoaaW.PrintWords Go.Proofs.YtkmeipblgdahoaaW.PrintMore Go.Proofs.Ytkmeipblgdahoaa.Base Go.Proofs.Ytkmeipblgdahoaa.Shp
set_option maxRecDepth 100000
set_option linter.unusedVariables false
set_option linter.unusedSimpArgs false
theorem take_same {α : Type} [DecidableEq α] {xs ys : List α} {i : Nat} (d : α) (h1 : i < xs.length) (h2 : i < ys.length) (h : xs.take i = ys.take i) (he : xs.getD i d = ys.getD i d) : xs.take (i + 1) = ys.take (i + 1) := by
  rw [List.getD_eq_getElem?_getD, List.getElem?_eq_getElem h1, List.getD_eq_getElem?_getD, List.getElem?_eq_getElem h2] at he
  rw [List.take_succ_eq_append_getElem h1, List.take_succ_eq_append_getElem h2, h]
  exact congrArg _ (congrArg (· :: []) he)
theorem ne_at {α : Type} {xs ys : List α} {i : Nat} (d : α) (he : xs.getD i d ≠ ys.getD i d) : xs ≠ ys := fun e => he (by rw [e])
set_option maxHeartbeats 4000000 in
theorem sblocks_calls (A B : Option Addr) (n k c d : Nat) (xs ys : List (List UInt8)) (w : World) (h : bytesK.C w A n xs) (h2 : bytesK.C w B k ys) :
    Calls Try.prog 13 #[.slice A n c, .slice B k d] w fun e w' => e = .returned (.bool (decide (xs = ys))) ∧ ∃ m, w' = w.drewN m := by
  obtain ⟨hl, hm⟩ := C_len h
  obtain ⟨hl2, hm2⟩ := C_len h2
  have HL := Aside0.mk hl
  have HL2 := Aside0.mk hl2
  have HC := Aside0.mk h
  have HC2 := Aside0.mk h2
  clear h hl h2 hl2
  by_cases hnk : n = k
  · subst hnk
    go_enter Try.func13, Try.ntmps13
    go_wp2
    go_loopg [5] n (fun g v5 wr => ∃ i m : Nat, v5 = .int .i64 (i : Int) ∧ i ≤ n ∧ Aside0 (g + i = n) ∧ Aside0 (xs.take i = ys.take i) ∧ wr = w.drewN m)
    case atStart => exact ⟨0, 0, rfl, by omega, ⟨rfl⟩, ⟨rfl⟩, rfl⟩
    case round =>
      obtain ⟨i, m, rfl, hi, HK, HS, rfl⟩ := hrel
      by_cases hlt : i < n
      · obtain ⟨pa, A0, c0, rfl, e0, hk0, hC0⟩ := bytes_at HC.out i hlt
        obtain ⟨pb, B0, d0, rfl, f0, hj0, hD0⟩ := bytes_at HC2.out i hlt
        obtain ⟨x, hx⟩ : ∃ x, xs.getD i [] = x := ⟨_, rfl⟩
        obtain ⟨y, hy⟩ : ∃ y, ys.getD i [] = y := ⟨_, rfl⟩
        rw [hx] at e0 hk0 hC0
        rw [hy] at f0 hj0 hD0
        have HX := Aside0.mk hx
        have HY := Aside0.mk hy
        have g1 := fun k : Nat => conv_bytes (w.drewN k) A0 x.length c0 x (Kd.C_below hC0 (pw_below_drewN (Below.refl _ _) k))
        have g2 := fun k : Nat => conv_bytes (w.drewN k) B0 y.length d0 y (Kd.C_below hD0 (pw_below_drewN (Below.refl _ _) k))
        have hlt' : (i : Int) < (n : Int) := by omega
        have hd0 : decide ((i : Int) < (n : Int)) = true := decide_eq_true hlt'
        clear hx hy hC0 hD0
        by_cases hxy : x = y
        · subst hxy
          go_wp2
          go_quiet (fail)
          go_wp2
          go_roundg (gk - 1)
          case measure => have := HK.out; omega
          case rel => exact ⟨i + 1, _, by congr 1, by omega, ⟨by have := HK.out; omega⟩, ⟨take_same [] (by rw [HL.out]; exact hlt) (by rw [HL2.out]; exact hlt) HS.out (by rw [HX.out, HY.out])⟩, rfl⟩
        · have hxb : (x == y) = false := by simpa using hxy
          have HN := Aside0.mk (ne_at (xs := xs) (ys := ys) (i := i) [] (by rw [HX.out, HY.out]; exact hxy))
          clear hxy
          go_wp2
          go_quiet (fail)
          go_wp2
          go_ret
          exact ⟨by rw [decide_eq_false HN.out]; rfl, _, World.drewN_drewN _ _ _⟩
      · obtain rfl : i = n := by omega
        have hd0 : decide ((i : Int) < (i : Int)) = false := decide_eq_false (by omega)
        go_wp2
        go_ret
        have e := HS.out
        rw [List.take_of_length_le (by rw [HL.out]; omega), List.take_of_length_le (by rw [HL2.out]; omega)] at e
        exact ⟨by rw [decide_eq_true e]; rfl, _, rfl⟩
  · have hd0 : decide ((n : Int) = (k : Int)) = false := decide_eq_false (by omega)
    go_enter Try.func13, Try.ntmps13
    go_wp2
    go_ret
    exact ⟨by rw [decide_eq_false (fun e => hnk (by rw [← HL.out, ← HL2.out, e]))]; rfl, 0, rfl⟩
theorem zones_at {w : World} {A : Option Addr} {n : Nat} {xs : List Zn} (h : zoneK.C w A n xs) (i : Nat) (hi : i < n) {p : Zn} (hp : xs.getD i ([], 0) = p) :
    ∃ ad A0 c0, A = some ad ∧ w.cell? (ad.add (i * 2)) = some (.slice A0 p.1.length c0) ∧ w.cell? ⟨(ad.add (i * 2)).block, (ad.add (i * 2)).off + 1, none⟩ = some (.int .i64 p.2) ∧ p.1.length ≤ c0 ∧ bytesK.C w A0 p.1.length p.1 ∧ IsI p.2 := by
  obtain ⟨ad, c, e, _, hK, hc⟩ := ReadsRow.get_ h ([], 0) (i : Int) (by omega) (by omega)
  rw [Int.toNat_natCast] at hc hK
  rw [hp] at hK
  obtain ⟨c0, c1, rfl, ⟨A0, k, rfl, h1, h2⟩, ⟨rfl, h3⟩⟩ := hK
  refine ⟨ad, A0, k, e, ?_, ?_, h1, h2, wf_i64 h3⟩
  · exact hc 0 _ rfl
  · exact cell_fld (hc 1 _ rfl) (by omega)
set_option maxRecDepth 100000 in
set_option maxHeartbeats 4000000 in
theorem szones_calls (A B : Option Addr) (n k c d : Nat) (xs ys : List Zn) (w : World) (h : zoneK.C w A n xs) (h2 : zoneK.C w B k ys) :
    Calls Try.prog 31 #[.slice A n c, .slice B k d] w fun e w' => e = .returned (.bool (decide (xs = ys))) ∧ ∃ m, w' = w.drewN m := by
  obtain ⟨hl, hm⟩ := C_len h
  obtain ⟨hl2, hm2⟩ := C_len h2
  have HL := Aside0.mk hl
  have HL2 := Aside0.mk hl2
  have HC := Aside0.mk h
  have HC2 := Aside0.mk h2
  clear h hl h2 hl2
  by_cases hnk : n = k
  · subst hnk
    go_enter Try.func31, Try.ntmps31
    go_wp2
    go_loopg [5, 6] n (fun g v5 v6 wr => ∃ i : Nat, v5 = .int .i64 (i : Int) ∧ i ≤ n ∧ Aside0 (g + i = n) ∧ Aside0 (xs.take i = ys.take i) ∧ Aside0 (∃ m, wr = w.drewN m))
    case atStart => exact ⟨0, rfl, by omega, ⟨rfl⟩, ⟨rfl⟩, ⟨0, rfl⟩⟩
    case round =>
      obtain ⟨i, rfl, hi, HK, HS, HM⟩ := hrel
      rename World => W
      have hbw : Below w.heap.size w W := by
        obtain ⟨m, e⟩ := HM.out
        rw [e]
        exact pw_below_drewN (Below.refl _ _) m
      have HCW := Aside0.mk (Kd.C_below HC.out hbw)
      have HCW2 := Aside0.mk (Kd.C_below HC2.out hbw)
      have HM1 : ∀ k : Nat, ∃ m, W.drewN k = w.drewN m := fun k => by
        obtain ⟨m, e⟩ := HM.out
        exact ⟨_, by rw [e]; exact World.drewN_drewN _ _ _⟩
      have HM2 := Aside0.mk HM1
      clear hbw HM1
      by_cases hlt : i < n
      · obtain ⟨x, hx⟩ : ∃ x, xs.getD i ([], 0) = x := ⟨_, rfl⟩
        obtain ⟨y, hy⟩ : ∃ y, ys.getD i ([], 0) = y := ⟨_, rfl⟩
        obtain ⟨pa, A0, c0, rfl, e0, e1, hk0, hC0, -⟩ := zones_at HCW.out i hlt hx
        obtain ⟨pb, B0, d0, rfl, f0, f1, hj0, hD0, -⟩ := zones_at HCW2.out i hlt hy
        have HX := Aside0.mk hx
        have HY := Aside0.mk hy
        have HC0 := Aside0.mk hC0
        have HD0 := Aside0.mk hD0
        have hlt' : (i : Int) < (n : Int) := by omega
        have hd0 : decide ((i : Int) < (n : Int)) = true := decide_eq_true hlt'
        have q0 : ∀ v : Nat, Calls Try.prog 13 #[.slice A0 x.1.length c0, .slice B0 y.1.length d0] (W.drewN v) fun e w' => e = .returned (.bool (decide (x.1 = y.1))) ∧ ∃ m, w' = W.drewN m := fun v => (sblocks_calls A0 B0 x.1.length y.1.length c0 d0 x.1 y.1 (W.drewN v) (Kd.C_below HC0.out (pw_below_drewN (Below.refl _ _) v)) (Kd.C_below HD0.out (pw_below_drewN (Below.refl _ _) v))).mono fun e w' hh => by
          obtain ⟨h1, m, h2⟩ := hh
          exact ⟨h1, _, by rw [h2]; exact World.drewN_drewN _ _ _⟩
        clear hx hy hC0 hD0
        by_cases hxy : x.1 = y.1
        · have HXY := Aside0.mk hxy
          rw [decide_eq_true hxy] at q0
          clear hxy
          go_wp2
          go_quiet (exact q0 _)
          by_cases hd : x.2 = y.2
          · rw [hd] at e1
            go_wp2
            go_quiet (fail)
            go_wp2
            go_roundg (gk - 1)
            case measure => have := HK.out; omega
            case rel => exact ⟨i + 1, by congr 1, by omega, ⟨by have := HK.out; omega⟩, ⟨take_same ([], 0) (by rw [HL.out]; exact hlt) (by rw [HL2.out]; exact hlt) HS.out (by rw [HX.out, HY.out]; exact Prod.ext HXY.out hd)⟩, ⟨by first | exact HM2.out _ | (rw [World.drewN_drewN]; exact HM2.out _)⟩⟩
          · have hd1 : (x.2 != y.2) = true := by simpa using hd
            have HN := Aside0.mk (ne_at (xs := xs) (ys := ys) (i := i) ([], 0) (by rw [HX.out, HY.out]; exact fun e => hd (congrArg Prod.snd e)))
            clear hd
            go_wp2
            go_quiet (fail)
            go_wp2
            go_ret
            exact ⟨by rw [decide_eq_false HN.out]; rfl, by first | exact HM2.out _ | (rw [World.drewN_drewN]; exact HM2.out _)⟩
        · have HN := Aside0.mk (ne_at (xs := xs) (ys := ys) (i := i) ([], 0) (by rw [HX.out, HY.out]; exact fun e => hxy (congrArg Prod.fst e)))
          rw [decide_eq_false hxy] at q0
          clear hxy
          go_wp2
          go_quiet (exact q0 _)
          go_wp2
          go_quiet (fail)
          go_wp2
          go_ret
          exact ⟨by rw [decide_eq_false HN.out]; rfl, by first | exact HM2.out _ | (rw [World.drewN_drewN]; exact HM2.out _)⟩
      · obtain rfl : i = n := by omega
        have hd0 : decide ((i : Int) < (i : Int)) = false := decide_eq_false (by omega)
        go_wp2
        go_ret
        have e := HS.out
        rw [List.take_of_length_le (by rw [HL.out]; omega), List.take_of_length_le (by rw [HL2.out]; omega)] at e
        exact ⟨by rw [decide_eq_true e]; rfl, HM.out⟩
  · have hd0 : decide ((n : Int) = (k : Int)) = false := decide_eq_false (by omega)
    go_enter Try.func31, Try.ntmps31
    go_wp2
    go_ret
    exact ⟨by rw [decide_eq_false (fun e => hnk (by rw [← HL.out, ← HL2.out, e]))]; rfl, 0, rfl⟩
end Go.Proofs.Ytkmeipblgdahoaa.Dv

/- How a state that came in opens. -/
namespace Go.Proofs.Ytkmeipblgdahoaa.Ck
open Go.RowKit Go.Proofs.YtkmeipblgdahoaaW.PrintWords Go.Proofs.YtkmeipblgdahoaaW.PrintMore Go.Proofs.Ytkmeipblgdahoaa.Base
set_option maxRecDepth 1000000
set_option linter.unusedVariables false
set_option linter.unusedSimpArgs false
def stK : Kd (Nat × List Plc) := Kd.pair (nat .u64) (Kd.slice 88 plK)
theorem opn_st : Opn Try.prog 27 stK :=
  Opn.struct Try.underlying27 (by kernel_rfl) (OpnFs.cons rfl (by kernel_rfl) (Opn.nat Try.underlying24 (fun n h => (wf_u64' h).1)) (OpnFs.last rfl (by kernel_rfl) (Opn.slice Try.underlying25 (by kernel_rfl) opn_plc)))
def StArg (W : World) (s : Nat × List Plc × Option Addr × Nat × Nat) : Prop := s.1 < 18446744073709551616 ∧ plK.C W s.2.2.1 s.2.2.2.1 s.2.1 ∧ s.2.2.2.1 ≤ s.2.2.2.2
theorem open_st {H : Type} {enc : TypeId × Value → H} {W : World} {r : Reach} {b0 base : Nat} {sp : Nat → Bool} {held : Bool} {v : Value} {x : DataW H} {p : List MemPlace}
    (hv : Value.okWide Try.prog W r b0 27 v) (h : DataW.Trod enc Try.prog W base sp held 27 v x p) :
    ∃ s : Nat × List Plc × Option Addr × Nat × Nat, v = .agg #[.int .u64 (s.1 : Int), .slice s.2.2.1 s.2.2.2.1 s.2.2.2.2] ∧ StArg W s := by
  obtain ⟨s, cs, rfl, hK⟩ := open_agg_kd Try.underlying27 opn_st hv h
  obtain ⟨c0, c1, hc, ⟨rfl, h0⟩, A, c, rfl, hl, hC⟩ := hK
  refine ⟨(s.1, s.2, A, s.2.length, c), ?_, by have := wf_u64' h0; dsimp only; omega, hC, hl⟩
  rw [← Array.toArray_toList (xs := cs), hc]
  rfl
end Go.Proofs.Ytkmeipblgdahoaa.Ck

/- CkptEncodes walks whole. -/
namespace Go.Proofs.Ytkmeipblgdahoaa.Ck
open Go.RowKit Go.Proofs.YtkmeipblgdahoaaW.PrintWords Go.Proofs.YtkmeipblgdahoaaW.PrintMore Go.Proofs.Ytkmeipblgdahoaa.Base Go.Proofs.Ytkmeipblgdahoaa.Shp
set_option maxRecDepth 100000
set_option linter.unusedVariables false
set_option linter.unusedSimpArgs false
set_option maxHeartbeats 4000000 in
theorem cencodes_walk (w : World) (z zb b r : Int) (hz : IsI z) (hzb : IsI zb) (hb : IsI b) (hr : IsI r) (q : Nat) (hq : q < 18446744073709551616) (A : Option Addr) (n c : Nat) (hnc : n ≤ c) (l : List Plc) (h : plK.C w A n l) :
    Calls Try.prog 3 #[.agg #[.int .i64 z, .int .i64 zb, .int .i64 b, .int .i64 r], .agg #[.int .u64 (q : Int), .slice A n c]] w fun e w' => e = .returned (.bool true) ∧ Below w.heap.size w w' := by
  obtain ⟨hl, hm⟩ := C_len h
  have HL := Aside0.mk hl
  have HC := Aside0.mk h
  have HI := Aside0.mk (And.intro hz (And.intro hzb (And.intro hb hr)))
  have HA := Aside0.mk (below_alloc (alloc_below w (.cells #[.int .i64 z, .int .i64 zb, .int .i64 b, .int .i64 r] 23)) (.cells #[.int .u64 (q : Int), .slice A n c] 27))
  have HB0 := Aside0.mk (show RB ((w.alloc (.cells #[.int .i64 z, .int .i64 zb, .int .i64 b, .int .i64 r] 23)).alloc (.cells #[.int .u64 (q : Int), .slice A n c] 27)) w.heap.size z zb b r q A n c from ⟨blk_past (blk_here rfl), blk_here (by simp)⟩)
  clear h hl hz hzb hb hr
  by_cases h3 : 200 < n
  · have hd : decide ((200 : Int) < (n : Int)) = true := decide_eq_true (by omega)
    have hd' : decide (200 < n) = true := decide_eq_true (by omega)
    clear h3
    go_enter Try.func3, Try.ntmps3
    go_wp2
    go_ret
    exact ⟨rfl, HA.out⟩
  have hd : decide ((200 : Int) < (n : Int)) = false := decide_eq_false (by omega)
  have hd' : decide (200 < n) = false := decide_eq_false (by omega)
  have HN7 := Aside0.mk (show n ≤ 10000000 by omega)
  clear h3
  go_enter Try.func3, Try.ntmps3
  go_wp2_with fail
  obtain ⟨g, hg⟩ : ∃ g, w.heap.size = g := ⟨_, rfl⟩
  obtain ⟨W, hW⟩ : ∃ W, (w.alloc (.cells #[.int .i64 z, .int .i64 zb, .int .i64 b, .int .i64 r] 23)).alloc (.cells #[.int .u64 (q : Int), .slice A n c] 27) = W := ⟨_, rfl⟩
  rw [hW] at HA HB0 ⊢
  rw [hg] at HB0 ⊢
  have HG := Aside0.mk (Nat.le_of_eq hg)
  clear hW hg hd hd'
  cases hen : encC (decide (Rt z zb b r)) z zb b.toNat q l with
  | error y =>
    have HEN := Aside0.mk hen
    have hy : y = 140 ∨ y = 141 := enc_err hen
    have HY := Aside0.mk hy
    clear hen hy
    refine (encode_err HEN.out HI.out.1 HI.out.2.1 HI.out.2.2.1 HI.out.2.2.2 hq A n c HN7.out hnc _ (Kd.C_below HC.out HA.out)).mono ?_
    rintro e w1 ⟨rfl, hb1⟩
    have HB1 := Aside0.mk hb1
    obtain ⟨c0, c1, c2, c3, s0, s1⟩ := (HB0.out.below HB1.out).cells
    clear hb1
    go_wp2_with fail
    refine (rcenc_calls z zb b r HI.out.1 HI.out.2.1 HI.out.2.2.1 HI.out.2.2.2 q hq A n c l HN7.out hnc _ (Kd.C_below HC.out (below_go HA.out HB1.out)) (plc_ok HC.out)).mono ?_
    rintro e w2 ⟨hb2, ⟨bs', v', he, -⟩ | ⟨y', he, -, rfl⟩⟩
    · rw [HEN.out] at he; cases he
    rw [HEN.out] at he
    injection he with he
    subst he
    have HB2 := Aside0.mk (below_go HB1.out hb2)
    clear hb2 c0 c1 c2 c3 s0 s1
    obtain ⟨c0, c1, c2, c3, s0, s1⟩ := (HB0.out.below HB2.out).cells
    clear c0 c1 c3 s0 s1
    have HCb := Aside0.mk (show Dv.bytesK.C w2 none 0 [] from Kd.C_nil _ _)
    have HX0 := Aside0.mk (show Below w2.heap.size w2 w2.drew from below_drew (Below.refl _ _))
    rcases HY.out with rfl | rfl
    · go_wp2
      refine wp_region_held_drew (S := fun w' => w'.cell? ⟨g, 2, none⟩ = some (.int .i64 b)) (by kernel_rfl) (pw_cell_below HX0.out c2) (fun hHeld => ?_)
      refine wpAnyH_ready (rs := [0]) (by kernel_rfl) (by simp) ?_
      refine (AllReadyH.cons (o := { dst := some 25, op := Op.call { callee := Callee.value (Operand.func 12), args := #[], argTypes := #[] }, type := 4, pos := "law.go:36", after := #[], guard := none }) rfl (fun K hK => ?_) AllReadyH.nil)
      go_simp
      refine (known_calls _).mono ?_
      rintro e w8 ⟨rfl, hb8⟩
      have HX1 := Aside0.mk (below_go HX0.out hb8)
      clear hb8
      refine hK.out _ _ ?_ (fun hHeld => ?_)
      · exact pw_cell_below HX1.out c2
      clear hK K
      (try simp only [Act.put, List.setIfInBounds_toArray, List.set_cons_zero, List.set_cons_succ])
      refine wpAnyH_take (i := 1) (oi := { dst := some 26, op := Op.move (Operand.tmp 25), type := 4, pos := "law.go:36", after := #[{ on := 0, ground := Ground.data }, { on := 0, ground := Ground.chain }], guard := none }) (v := ?_) rfl (by kernel_rfl) (by kernel_rfl) (by kernel_rfl) (fun _ _ _ h => h) (Or.inl ⟨by rfl, ?_⟩) (by assumption) ?_
      rotate_left
      · (intro w hSw; (try dsimp only at hSw); go_simp; (try with_reducible rfl))
      (try simp only [Act.put, List.setIfInBounds_toArray, List.set_cons_zero, List.set_cons_succ])
      refine wpAnyH_take (i := 2) (oi := { dst := some 27, op := Op.move (Operand.tmp 6), type := 30, pos := "law.go:36", after := #[{ on := 1, ground := Ground.guard }], guard := some (1, true) }) (v := ?_) rfl (by kernel_rfl) (by kernel_rfl) (by kernel_rfl) (fun _ _ _ h => h) (Or.inl ⟨by rfl, ?_⟩) (by assumption) ?_
      rotate_left
      · (intro w hSw; (try dsimp only at hSw); go_simp; (try with_reducible rfl))
      (try simp only [Act.put, List.setIfInBounds_toArray, List.set_cons_zero, List.set_cons_succ])
      refine wpAnyH_take (i := 3) (oi := { dst := some 28, op := Op.convert 30 3 (Operand.tmp 27), type := 3, pos := "law.go:36", after := #[{ on := 2, ground := Ground.data }, { on := 1, ground := Ground.guard }], guard := some (1, true) }) (v := ?_) rfl (by kernel_rfl) (by kernel_rfl) (by kernel_rfl) (fun _ _ _ h => h) (Or.inl ⟨by rfl, ?_⟩) (by assumption) ?_
      rotate_left
      · (intro w hSw; (try dsimp only at hSw); go_simp; (try with_reducible rfl))
      (try simp only [Act.put, List.setIfInBounds_toArray, List.set_cons_zero, List.set_cons_succ])
      refine wpAnyH_take (i := 4) (oi := { dst := some 29, op := Op.move (Operand.tmp 8), type := 3, pos := "law.go:36", after := #[{ on := 1, ground := Ground.guard }], guard := some (1, true) }) (v := ?_) rfl (by kernel_rfl) (by kernel_rfl) (by kernel_rfl) (fun _ _ _ h => h) (Or.inl ⟨by rfl, ?_⟩) (by assumption) ?_
      rotate_left
      · (intro w hSw; (try dsimp only at hSw); go_simp; (try with_reducible rfl))
      (try simp only [Act.put, List.setIfInBounds_toArray, List.set_cons_zero, List.set_cons_succ])
      refine wpAnyH_take (i := 5) (oi := { dst := some 30, op := Op.binOp BinOp.eql 3 (Operand.tmp 28) (Operand.tmp 29) 3, type := 4, pos := "law.go:36", after := #[{ on := 3, ground := Ground.data }, { on := 4, ground := Ground.data }, { on := 1, ground := Ground.guard }], guard := some (1, true) }) (v := ?_) rfl (by kernel_rfl) (by kernel_rfl) (by kernel_rfl) (fun _ _ _ h => h) (Or.inl ⟨by rfl, ?_⟩) (by assumption) ?_
      rotate_left
      · (intro w hSw; (try dsimp only at hSw); go_simp; (try with_reducible rfl))
      (try simp only [Act.put, List.setIfInBounds_toArray, List.set_cons_zero, List.set_cons_succ])
      refine wpAnyH_take (i := 6) (oi := { dst := some 31, op := Op.pick (Operand.tmp 26) (Operand.tmp 30) (Operand.const (Value.bool false)), type := 4, pos := "law.go:36", after := #[{ on := 1, ground := Ground.data }, { on := 5, ground := Ground.data }], guard := none }) (v := ?_) rfl (by kernel_rfl) (by kernel_rfl) (by kernel_rfl) (fun _ _ _ h => h) (Or.inl ⟨by rfl, ?_⟩) (by assumption) ?_
      rotate_left
      · (intro w hSw; (try dsimp only at hSw); go_simp; (try with_reducible rfl))
      (try simp only [Act.put, List.setIfInBounds_toArray, List.set_cons_zero, List.set_cons_succ])
      refine wpAnyH_take (i := 7) (oi := { dst := some 32, op := Op.move (Operand.tmp 31), type := 4, pos := "law.go:36", after := #[{ on := 6, ground := Ground.data }, { on := 1, ground := Ground.chain }], guard := none }) (v := ?_) rfl (by kernel_rfl) (by kernel_rfl) (by kernel_rfl) (fun _ _ _ h => h) (Or.inl ⟨by rfl, ?_⟩) (by assumption) ?_
      rotate_left
      · (intro w hSw; (try dsimp only at hSw); go_simp; (try with_reducible rfl))
      (try simp only [Act.put, List.setIfInBounds_toArray, List.set_cons_zero, List.set_cons_succ])
      refine wpAnyH_take (i := 8) (oi := { dst := some 33, op := Op.move (Operand.tmp 5), type := 28, pos := "law.go:36", after := #[{ on := 7, ground := Ground.guard }], guard := some (7, true) }) (v := ?_) rfl (by kernel_rfl) (by kernel_rfl) (by kernel_rfl) (fun _ _ _ h => h) (Or.inl ⟨by rfl, ?_⟩) (by assumption) ?_
      rotate_left
      · (intro w hSw; (try dsimp only at hSw); go_simp; (try with_reducible rfl))
      (try simp only [Act.put, List.setIfInBounds_toArray, List.set_cons_zero, List.set_cons_succ])
      refine wpAnyH_take (i := 9) (oi := { dst := some 34, op := Op.move (Operand.tmp 7), type := 28, pos := "law.go:36", after := #[{ on := 7, ground := Ground.guard }], guard := some (7, true) }) (v := ?_) rfl (by kernel_rfl) (by kernel_rfl) (by kernel_rfl) (fun _ _ _ h => h) (Or.inl ⟨by rfl, ?_⟩) (by assumption) ?_
      rotate_left
      · (intro w hSw; (try dsimp only at hSw); go_simp; (try with_reducible rfl))
      (try simp only [Act.put, List.setIfInBounds_toArray, List.set_cons_zero, List.set_cons_succ])
      refine wpAnyH_ready (rs := [10]) (by kernel_rfl) (by simp) ?_
      refine (AllReadyH.cons (o := { dst := some 35, op := Op.call { callee := Callee.value (Operand.func 13), args := #[Operand.tmp 33, Operand.tmp 34], argTypes := #[28, 28] }, type := 4, pos := "law.go:36", after := #[{ on := 8, ground := Ground.data }, { on := 9, ground := Ground.data }, { on := 7, ground := Ground.chain }, { on := 7, ground := Ground.guard }], guard := some (7, true) }) rfl (fun K hK => ?_) AllReadyH.nil)
      go_simp
      refine (Dv.sblocks_calls none none 0 0 0 0 [] [] _ (Kd.C_below HCb.out HX1.out) (Kd.C_below HCb.out HX1.out)).mono ?_
      rw [decide_eq_true rfl]
      rintro e w9 ⟨rfl, m9, rfl⟩
      have HX2 := Aside0.mk (pw_below_drewN HX1.out m9)
      refine hK.out _ _ ?_ (fun hHeld => ?_)
      · exact pw_cell_below HX2.out c2
      clear hK K
      (try simp only [Act.put, List.setIfInBounds_toArray, List.set_cons_zero, List.set_cons_succ])
      refine wpAnyH_take (i := 11) (oi := { dst := some 36, op := Op.pick (Operand.tmp 32) (Operand.tmp 35) (Operand.const (Value.bool false)), type := 4, pos := "law.go:36", after := #[{ on := 7, ground := Ground.data }, { on := 10, ground := Ground.data }], guard := none }) (v := ?_) rfl (by kernel_rfl) (by kernel_rfl) (by kernel_rfl) (fun _ _ _ h => h) (Or.inl ⟨by rfl, ?_⟩) (by assumption) ?_
      rotate_left
      · (intro w hSw; (try dsimp only at hSw); go_simp; (try with_reducible rfl))
      (try simp only [Act.put, List.setIfInBounds_toArray, List.set_cons_zero, List.set_cons_succ])
      refine wpAnyH_take (i := 12) (oi := { dst := some 37, op := Op.move (Operand.tmp 36), type := 4, pos := "law.go:36", after := #[{ on := 11, ground := Ground.data }, { on := 10, ground := Ground.chain }], guard := none }) (v := ?_) rfl (by kernel_rfl) (by kernel_rfl) (by kernel_rfl) (fun _ _ _ h => h) (Or.inl ⟨by rfl, ?_⟩) (by assumption) ?_
      rotate_left
      · (intro w hSw; (try dsimp only at hSw); go_simp; (try with_reducible rfl))
      (try simp only [Act.put, List.setIfInBounds_toArray, List.set_cons_zero, List.set_cons_succ])
      refine wpAnyH_take (i := 13) (oi := { dst := some 38, op := Op.fieldAddr 23 (Operand.tmp 2) 2, type := 0, pos := "law.go:36", after := #[{ on := 12, ground := Ground.guard }], guard := some (12, true) }) (v := ?_) rfl (by kernel_rfl) (by kernel_rfl) (by kernel_rfl) (fun _ _ _ h => h) (Or.inl ⟨by rfl, ?_⟩) (by assumption) ?_
      rotate_left
      · (intro w hSw; (try dsimp only at hSw); go_simp; (try with_reducible rfl))
      (try simp only [Act.put, List.setIfInBounds_toArray, List.set_cons_zero, List.set_cons_succ])
      refine wpAnyH_take (i := 14) (oi := { dst := some 39, op := Op.load 3 (Operand.tmp 38), type := 3, pos := "law.go:36", after := #[{ on := 13, ground := Ground.data }, { on := 12, ground := Ground.guard }], guard := some (12, true) }) (v := ?_) rfl (by kernel_rfl) (by kernel_rfl) (by kernel_rfl) (fun _ _ _ h => h) (Or.inl ⟨by rfl, ?_⟩) (by assumption) ?_
      rotate_left
      · (intro w hSw; (try dsimp only at hSw); go_simp; (try with_reducible rfl))
      (try simp only [Act.put, List.setIfInBounds_toArray, List.set_cons_zero, List.set_cons_succ])
      refine wpAnyH_take (i := 16) (oi := { dst := some 41, op := Op.fieldAddr 23 (Operand.tmp 2) 2, type := 0, pos := "law.go:36", after := #[{ on := 12, ground := Ground.guard }], guard := some (12, true) }) (v := ?_) rfl (by kernel_rfl) (by kernel_rfl) (by kernel_rfl) (fun _ _ _ h => h) (Or.inl ⟨by rfl, ?_⟩) (by assumption) ?_
      rotate_left
      · (intro w hSw; (try dsimp only at hSw); go_simp; (try with_reducible rfl))
      (try simp only [Act.put, List.setIfInBounds_toArray, List.set_cons_zero, List.set_cons_succ])
      refine wpAnyH_take (i := 17) (oi := { dst := some 42, op := Op.load 3 (Operand.tmp 41), type := 3, pos := "law.go:36", after := #[{ on := 16, ground := Ground.data }, { on := 12, ground := Ground.guard }], guard := some (12, true) }) (v := ?_) rfl (by kernel_rfl) (by kernel_rfl) (by kernel_rfl) (fun _ _ _ h => h) (Or.inl ⟨by rfl, ?_⟩) (by assumption) ?_
      rotate_left
      · (intro w hSw; (try dsimp only at hSw); go_simp; (try with_reducible rfl))
      (try simp only [Act.put, List.setIfInBounds_toArray, List.set_cons_zero, List.set_cons_succ])
      refine wpAnyH_ready (rs := [15]) (by kernel_rfl) (by simp) ?_
      refine (AllReadyH.cons (o := { dst := some 40, op := Op.call { callee := Callee.value (Operand.func 14), args := #[Operand.tmp 39], argTypes := #[3] }, type := 3, pos := "law.go:36", after := #[{ on := 14, ground := Ground.data }, { on := 12, ground := Ground.chain }, { on := 12, ground := Ground.guard }], guard := some (12, true) }) rfl (fun K hK => ?_) AllReadyH.nil)
      go_simp
      refine (room_calls b HI.out.2.2.1 _).mono ?_
      rintro e wa ⟨rfl, rfl⟩
      refine hK.out _ _ ?_ (fun hHeld => ?_)
      · exact pw_cell_below HX2.out c2
      clear hK K
      (try simp only [Act.put, List.setIfInBounds_toArray, List.set_cons_zero, List.set_cons_succ])
      refine wpAnyH_ready (rs := [18]) (by kernel_rfl) (by simp) ?_
      refine (AllReadyH.cons (o := { dst := some 43, op := Op.call { callee := Callee.value (Operand.func 15), args := #[Operand.tmp 42], argTypes := #[3] }, type := 3, pos := "law.go:36", after := #[{ on := 17, ground := Ground.data }, { on := 15, ground := Ground.chain }, { on := 12, ground := Ground.guard }], guard := some (12, true) }) rfl (fun K hK => ?_) AllReadyH.nil)
      go_simp
      refine (ref_room_calls b HI.out.2.2.1 _).mono ?_
      rintro e wb ⟨rfl, rfl⟩
      refine hK.out _ _ ?_ (fun hHeld => ?_)
      · exact pw_cell_below HX2.out c2
      clear hK K
      (try simp only [Act.put, List.setIfInBounds_toArray, List.set_cons_zero, List.set_cons_succ])
      refine wpAnyH_take (i := 19) (oi := { dst := some 44, op := Op.binOp BinOp.eql 3 (Operand.tmp 40) (Operand.tmp 43) 3, type := 4, pos := "law.go:36", after := #[{ on := 15, ground := Ground.data }, { on := 18, ground := Ground.data }, { on := 12, ground := Ground.guard }], guard := some (12, true) }) (v := ?_) rfl (by kernel_rfl) (by kernel_rfl) (by kernel_rfl) (fun _ _ _ h => h) (Or.inl ⟨by rfl, ?_⟩) (by assumption) ?_
      rotate_left
      · (intro w hSw; (try dsimp only at hSw); go_simp; (try with_reducible rfl))
      (try simp only [Act.put, List.setIfInBounds_toArray, List.set_cons_zero, List.set_cons_succ])
      refine wpAnyH_take (i := 20) (oi := { dst := some 45, op := Op.pick (Operand.tmp 37) (Operand.tmp 44) (Operand.const (Value.bool false)), type := 4, pos := "law.go:36", after := #[{ on := 12, ground := Ground.data }, { on := 19, ground := Ground.data }], guard := none }) (v := ?_) rfl (by kernel_rfl) (by kernel_rfl) (by kernel_rfl) (fun _ _ _ h => h) (Or.inl ⟨by rfl, ?_⟩) (by assumption) ?_
      rotate_left
      · (intro w hSw; (try dsimp only at hSw); go_simp; (try with_reducible rfl))
      (try simp only [Act.put, List.setIfInBounds_toArray, List.set_cons_zero, List.set_cons_succ])
      refine wpAnyH_take (i := 21) (oi := { dst := some 4, op := Op.assign (Operand.tmp 45), type := 4, pos := "law.go:36", after := #[{ on := 20, ground := Ground.data }, { on := 18, ground := Ground.chain }, { on := 0, ground := Ground.phase }, { on := 1, ground := Ground.phase }, { on := 2, ground := Ground.phase }, { on := 3, ground := Ground.phase }, { on := 4, ground := Ground.phase }, { on := 5, ground := Ground.phase }, { on := 6, ground := Ground.phase }, { on := 7, ground := Ground.phase }, { on := 8, ground := Ground.phase }, { on := 9, ground := Ground.phase }, { on := 10, ground := Ground.phase }, { on := 11, ground := Ground.phase }, { on := 12, ground := Ground.phase }, { on := 13, ground := Ground.phase }, { on := 14, ground := Ground.phase }, { on := 15, ground := Ground.phase }, { on := 16, ground := Ground.phase }, { on := 17, ground := Ground.phase }, { on := 18, ground := Ground.phase }, { on := 19, ground := Ground.phase }, { on := 20, ground := Ground.phase }], guard := none }) (v := ?_) rfl (by kernel_rfl) (by kernel_rfl) (by kernel_rfl) (fun _ _ _ h => h) (Or.inl ⟨by rfl, ?_⟩) (by assumption) ?_
      rotate_left
      · (intro w hSw; (try dsimp only at hSw); go_simp; (try with_reducible rfl))
      (try simp only [Act.put, List.setIfInBounds_toArray, List.set_cons_zero, List.set_cons_succ])
      refine wpAnyH_done (by kernel_rfl) ?_ _
      have HB9 := Aside0.mk (below_go HA.out (below_go HB2.out HX2.out))
      clear hHeld
      go_wp2
      go_ret
      exact ⟨by simp; decide, HB9.out⟩
    · go_wp2
      refine wp_region_held_drew (S := fun w' => w'.cell? ⟨g, 2, none⟩ = some (.int .i64 b)) (by kernel_rfl) (pw_cell_below HX0.out c2) (fun hHeld => ?_)
      refine wpAnyH_ready (rs := [0]) (by kernel_rfl) (by simp) ?_
      refine (AllReadyH.cons (o := { dst := some 25, op := Op.call { callee := Callee.value (Operand.func 12), args := #[], argTypes := #[] }, type := 4, pos := "law.go:36", after := #[], guard := none }) rfl (fun K hK => ?_) AllReadyH.nil)
      go_simp
      refine (known_calls _).mono ?_
      rintro e w8 ⟨rfl, hb8⟩
      have HX1 := Aside0.mk (below_go HX0.out hb8)
      clear hb8
      refine hK.out _ _ ?_ (fun hHeld => ?_)
      · exact pw_cell_below HX1.out c2
      clear hK K
      (try simp only [Act.put, List.setIfInBounds_toArray, List.set_cons_zero, List.set_cons_succ])
      refine wpAnyH_take (i := 1) (oi := { dst := some 26, op := Op.move (Operand.tmp 25), type := 4, pos := "law.go:36", after := #[{ on := 0, ground := Ground.data }, { on := 0, ground := Ground.chain }], guard := none }) (v := ?_) rfl (by kernel_rfl) (by kernel_rfl) (by kernel_rfl) (fun _ _ _ h => h) (Or.inl ⟨by rfl, ?_⟩) (by assumption) ?_
      rotate_left
      · (intro w hSw; (try dsimp only at hSw); go_simp; (try with_reducible rfl))
      (try simp only [Act.put, List.setIfInBounds_toArray, List.set_cons_zero, List.set_cons_succ])
      refine wpAnyH_take (i := 2) (oi := { dst := some 27, op := Op.move (Operand.tmp 6), type := 30, pos := "law.go:36", after := #[{ on := 1, ground := Ground.guard }], guard := some (1, true) }) (v := ?_) rfl (by kernel_rfl) (by kernel_rfl) (by kernel_rfl) (fun _ _ _ h => h) (Or.inl ⟨by rfl, ?_⟩) (by assumption) ?_
      rotate_left
      · (intro w hSw; (try dsimp only at hSw); go_simp; (try with_reducible rfl))
      (try simp only [Act.put, List.setIfInBounds_toArray, List.set_cons_zero, List.set_cons_succ])
      refine wpAnyH_take (i := 3) (oi := { dst := some 28, op := Op.convert 30 3 (Operand.tmp 27), type := 3, pos := "law.go:36", after := #[{ on := 2, ground := Ground.data }, { on := 1, ground := Ground.guard }], guard := some (1, true) }) (v := ?_) rfl (by kernel_rfl) (by kernel_rfl) (by kernel_rfl) (fun _ _ _ h => h) (Or.inl ⟨by rfl, ?_⟩) (by assumption) ?_
      rotate_left
      · (intro w hSw; (try dsimp only at hSw); go_simp; (try with_reducible rfl))
      (try simp only [Act.put, List.setIfInBounds_toArray, List.set_cons_zero, List.set_cons_succ])
      refine wpAnyH_take (i := 4) (oi := { dst := some 29, op := Op.move (Operand.tmp 8), type := 3, pos := "law.go:36", after := #[{ on := 1, ground := Ground.guard }], guard := some (1, true) }) (v := ?_) rfl (by kernel_rfl) (by kernel_rfl) (by kernel_rfl) (fun _ _ _ h => h) (Or.inl ⟨by rfl, ?_⟩) (by assumption) ?_
      rotate_left
      · (intro w hSw; (try dsimp only at hSw); go_simp; (try with_reducible rfl))
      (try simp only [Act.put, List.setIfInBounds_toArray, List.set_cons_zero, List.set_cons_succ])
      refine wpAnyH_take (i := 5) (oi := { dst := some 30, op := Op.binOp BinOp.eql 3 (Operand.tmp 28) (Operand.tmp 29) 3, type := 4, pos := "law.go:36", after := #[{ on := 3, ground := Ground.data }, { on := 4, ground := Ground.data }, { on := 1, ground := Ground.guard }], guard := some (1, true) }) (v := ?_) rfl (by kernel_rfl) (by kernel_rfl) (by kernel_rfl) (fun _ _ _ h => h) (Or.inl ⟨by rfl, ?_⟩) (by assumption) ?_
      rotate_left
      · (intro w hSw; (try dsimp only at hSw); go_simp; (try with_reducible rfl))
      (try simp only [Act.put, List.setIfInBounds_toArray, List.set_cons_zero, List.set_cons_succ])
      refine wpAnyH_take (i := 6) (oi := { dst := some 31, op := Op.pick (Operand.tmp 26) (Operand.tmp 30) (Operand.const (Value.bool false)), type := 4, pos := "law.go:36", after := #[{ on := 1, ground := Ground.data }, { on := 5, ground := Ground.data }], guard := none }) (v := ?_) rfl (by kernel_rfl) (by kernel_rfl) (by kernel_rfl) (fun _ _ _ h => h) (Or.inl ⟨by rfl, ?_⟩) (by assumption) ?_
      rotate_left
      · (intro w hSw; (try dsimp only at hSw); go_simp; (try with_reducible rfl))
      (try simp only [Act.put, List.setIfInBounds_toArray, List.set_cons_zero, List.set_cons_succ])
      refine wpAnyH_take (i := 7) (oi := { dst := some 32, op := Op.move (Operand.tmp 31), type := 4, pos := "law.go:36", after := #[{ on := 6, ground := Ground.data }, { on := 1, ground := Ground.chain }], guard := none }) (v := ?_) rfl (by kernel_rfl) (by kernel_rfl) (by kernel_rfl) (fun _ _ _ h => h) (Or.inl ⟨by rfl, ?_⟩) (by assumption) ?_
      rotate_left
      · (intro w hSw; (try dsimp only at hSw); go_simp; (try with_reducible rfl))
      (try simp only [Act.put, List.setIfInBounds_toArray, List.set_cons_zero, List.set_cons_succ])
      refine wpAnyH_take (i := 8) (oi := { dst := some 33, op := Op.move (Operand.tmp 5), type := 28, pos := "law.go:36", after := #[{ on := 7, ground := Ground.guard }], guard := some (7, true) }) (v := ?_) rfl (by kernel_rfl) (by kernel_rfl) (by kernel_rfl) (fun _ _ _ h => h) (Or.inl ⟨by rfl, ?_⟩) (by assumption) ?_
      rotate_left
      · (intro w hSw; (try dsimp only at hSw); go_simp; (try with_reducible rfl))
      (try simp only [Act.put, List.setIfInBounds_toArray, List.set_cons_zero, List.set_cons_succ])
      refine wpAnyH_take (i := 9) (oi := { dst := some 34, op := Op.move (Operand.tmp 7), type := 28, pos := "law.go:36", after := #[{ on := 7, ground := Ground.guard }], guard := some (7, true) }) (v := ?_) rfl (by kernel_rfl) (by kernel_rfl) (by kernel_rfl) (fun _ _ _ h => h) (Or.inl ⟨by rfl, ?_⟩) (by assumption) ?_
      rotate_left
      · (intro w hSw; (try dsimp only at hSw); go_simp; (try with_reducible rfl))
      (try simp only [Act.put, List.setIfInBounds_toArray, List.set_cons_zero, List.set_cons_succ])
      refine wpAnyH_ready (rs := [10]) (by kernel_rfl) (by simp) ?_
      refine (AllReadyH.cons (o := { dst := some 35, op := Op.call { callee := Callee.value (Operand.func 13), args := #[Operand.tmp 33, Operand.tmp 34], argTypes := #[28, 28] }, type := 4, pos := "law.go:36", after := #[{ on := 8, ground := Ground.data }, { on := 9, ground := Ground.data }, { on := 7, ground := Ground.chain }, { on := 7, ground := Ground.guard }], guard := some (7, true) }) rfl (fun K hK => ?_) AllReadyH.nil)
      go_simp
      refine (Dv.sblocks_calls none none 0 0 0 0 [] [] _ (Kd.C_below HCb.out HX1.out) (Kd.C_below HCb.out HX1.out)).mono ?_
      rw [decide_eq_true rfl]
      rintro e w9 ⟨rfl, m9, rfl⟩
      have HX2 := Aside0.mk (pw_below_drewN HX1.out m9)
      refine hK.out _ _ ?_ (fun hHeld => ?_)
      · exact pw_cell_below HX2.out c2
      clear hK K
      (try simp only [Act.put, List.setIfInBounds_toArray, List.set_cons_zero, List.set_cons_succ])
      refine wpAnyH_take (i := 11) (oi := { dst := some 36, op := Op.pick (Operand.tmp 32) (Operand.tmp 35) (Operand.const (Value.bool false)), type := 4, pos := "law.go:36", after := #[{ on := 7, ground := Ground.data }, { on := 10, ground := Ground.data }], guard := none }) (v := ?_) rfl (by kernel_rfl) (by kernel_rfl) (by kernel_rfl) (fun _ _ _ h => h) (Or.inl ⟨by rfl, ?_⟩) (by assumption) ?_
      rotate_left
      · (intro w hSw; (try dsimp only at hSw); go_simp; (try with_reducible rfl))
      (try simp only [Act.put, List.setIfInBounds_toArray, List.set_cons_zero, List.set_cons_succ])
      refine wpAnyH_take (i := 12) (oi := { dst := some 37, op := Op.move (Operand.tmp 36), type := 4, pos := "law.go:36", after := #[{ on := 11, ground := Ground.data }, { on := 10, ground := Ground.chain }], guard := none }) (v := ?_) rfl (by kernel_rfl) (by kernel_rfl) (by kernel_rfl) (fun _ _ _ h => h) (Or.inl ⟨by rfl, ?_⟩) (by assumption) ?_
      rotate_left
      · (intro w hSw; (try dsimp only at hSw); go_simp; (try with_reducible rfl))
      (try simp only [Act.put, List.setIfInBounds_toArray, List.set_cons_zero, List.set_cons_succ])
      refine wpAnyH_take (i := 13) (oi := { dst := some 38, op := Op.fieldAddr 23 (Operand.tmp 2) 2, type := 0, pos := "law.go:36", after := #[{ on := 12, ground := Ground.guard }], guard := some (12, true) }) (v := ?_) rfl (by kernel_rfl) (by kernel_rfl) (by kernel_rfl) (fun _ _ _ h => h) (Or.inl ⟨by rfl, ?_⟩) (by assumption) ?_
      rotate_left
      · (intro w hSw; (try dsimp only at hSw); go_simp; (try with_reducible rfl))
      (try simp only [Act.put, List.setIfInBounds_toArray, List.set_cons_zero, List.set_cons_succ])
      refine wpAnyH_take (i := 14) (oi := { dst := some 39, op := Op.load 3 (Operand.tmp 38), type := 3, pos := "law.go:36", after := #[{ on := 13, ground := Ground.data }, { on := 12, ground := Ground.guard }], guard := some (12, true) }) (v := ?_) rfl (by kernel_rfl) (by kernel_rfl) (by kernel_rfl) (fun _ _ _ h => h) (Or.inl ⟨by rfl, ?_⟩) (by assumption) ?_
      rotate_left
      · (intro w hSw; (try dsimp only at hSw); go_simp; (try with_reducible rfl))
      (try simp only [Act.put, List.setIfInBounds_toArray, List.set_cons_zero, List.set_cons_succ])
      refine wpAnyH_take (i := 16) (oi := { dst := some 41, op := Op.fieldAddr 23 (Operand.tmp 2) 2, type := 0, pos := "law.go:36", after := #[{ on := 12, ground := Ground.guard }], guard := some (12, true) }) (v := ?_) rfl (by kernel_rfl) (by kernel_rfl) (by kernel_rfl) (fun _ _ _ h => h) (Or.inl ⟨by rfl, ?_⟩) (by assumption) ?_
      rotate_left
      · (intro w hSw; (try dsimp only at hSw); go_simp; (try with_reducible rfl))
      (try simp only [Act.put, List.setIfInBounds_toArray, List.set_cons_zero, List.set_cons_succ])
      refine wpAnyH_take (i := 17) (oi := { dst := some 42, op := Op.load 3 (Operand.tmp 41), type := 3, pos := "law.go:36", after := #[{ on := 16, ground := Ground.data }, { on := 12, ground := Ground.guard }], guard := some (12, true) }) (v := ?_) rfl (by kernel_rfl) (by kernel_rfl) (by kernel_rfl) (fun _ _ _ h => h) (Or.inl ⟨by rfl, ?_⟩) (by assumption) ?_
      rotate_left
      · (intro w hSw; (try dsimp only at hSw); go_simp; (try with_reducible rfl))
      (try simp only [Act.put, List.setIfInBounds_toArray, List.set_cons_zero, List.set_cons_succ])
      refine wpAnyH_ready (rs := [15]) (by kernel_rfl) (by simp) ?_
      refine (AllReadyH.cons (o := { dst := some 40, op := Op.call { callee := Callee.value (Operand.func 14), args := #[Operand.tmp 39], argTypes := #[3] }, type := 3, pos := "law.go:36", after := #[{ on := 14, ground := Ground.data }, { on := 12, ground := Ground.chain }, { on := 12, ground := Ground.guard }], guard := some (12, true) }) rfl (fun K hK => ?_) AllReadyH.nil)
      go_simp
      refine (room_calls b HI.out.2.2.1 _).mono ?_
      rintro e wa ⟨rfl, rfl⟩
      refine hK.out _ _ ?_ (fun hHeld => ?_)
      · exact pw_cell_below HX2.out c2
      clear hK K
      (try simp only [Act.put, List.setIfInBounds_toArray, List.set_cons_zero, List.set_cons_succ])
      refine wpAnyH_ready (rs := [18]) (by kernel_rfl) (by simp) ?_
      refine (AllReadyH.cons (o := { dst := some 43, op := Op.call { callee := Callee.value (Operand.func 15), args := #[Operand.tmp 42], argTypes := #[3] }, type := 3, pos := "law.go:36", after := #[{ on := 17, ground := Ground.data }, { on := 15, ground := Ground.chain }, { on := 12, ground := Ground.guard }], guard := some (12, true) }) rfl (fun K hK => ?_) AllReadyH.nil)
      go_simp
      refine (ref_room_calls b HI.out.2.2.1 _).mono ?_
      rintro e wb ⟨rfl, rfl⟩
      refine hK.out _ _ ?_ (fun hHeld => ?_)
      · exact pw_cell_below HX2.out c2
      clear hK K
      (try simp only [Act.put, List.setIfInBounds_toArray, List.set_cons_zero, List.set_cons_succ])
      refine wpAnyH_take (i := 19) (oi := { dst := some 44, op := Op.binOp BinOp.eql 3 (Operand.tmp 40) (Operand.tmp 43) 3, type := 4, pos := "law.go:36", after := #[{ on := 15, ground := Ground.data }, { on := 18, ground := Ground.data }, { on := 12, ground := Ground.guard }], guard := some (12, true) }) (v := ?_) rfl (by kernel_rfl) (by kernel_rfl) (by kernel_rfl) (fun _ _ _ h => h) (Or.inl ⟨by rfl, ?_⟩) (by assumption) ?_
      rotate_left
      · (intro w hSw; (try dsimp only at hSw); go_simp; (try with_reducible rfl))
      (try simp only [Act.put, List.setIfInBounds_toArray, List.set_cons_zero, List.set_cons_succ])
      refine wpAnyH_take (i := 20) (oi := { dst := some 45, op := Op.pick (Operand.tmp 37) (Operand.tmp 44) (Operand.const (Value.bool false)), type := 4, pos := "law.go:36", after := #[{ on := 12, ground := Ground.data }, { on := 19, ground := Ground.data }], guard := none }) (v := ?_) rfl (by kernel_rfl) (by kernel_rfl) (by kernel_rfl) (fun _ _ _ h => h) (Or.inl ⟨by rfl, ?_⟩) (by assumption) ?_
      rotate_left
      · (intro w hSw; (try dsimp only at hSw); go_simp; (try with_reducible rfl))
      (try simp only [Act.put, List.setIfInBounds_toArray, List.set_cons_zero, List.set_cons_succ])
      refine wpAnyH_take (i := 21) (oi := { dst := some 4, op := Op.assign (Operand.tmp 45), type := 4, pos := "law.go:36", after := #[{ on := 20, ground := Ground.data }, { on := 18, ground := Ground.chain }, { on := 0, ground := Ground.phase }, { on := 1, ground := Ground.phase }, { on := 2, ground := Ground.phase }, { on := 3, ground := Ground.phase }, { on := 4, ground := Ground.phase }, { on := 5, ground := Ground.phase }, { on := 6, ground := Ground.phase }, { on := 7, ground := Ground.phase }, { on := 8, ground := Ground.phase }, { on := 9, ground := Ground.phase }, { on := 10, ground := Ground.phase }, { on := 11, ground := Ground.phase }, { on := 12, ground := Ground.phase }, { on := 13, ground := Ground.phase }, { on := 14, ground := Ground.phase }, { on := 15, ground := Ground.phase }, { on := 16, ground := Ground.phase }, { on := 17, ground := Ground.phase }, { on := 18, ground := Ground.phase }, { on := 19, ground := Ground.phase }, { on := 20, ground := Ground.phase }], guard := none }) (v := ?_) rfl (by kernel_rfl) (by kernel_rfl) (by kernel_rfl) (fun _ _ _ h => h) (Or.inl ⟨by rfl, ?_⟩) (by assumption) ?_
      rotate_left
      · (intro w hSw; (try dsimp only at hSw); go_simp; (try with_reducible rfl))
      (try simp only [Act.put, List.setIfInBounds_toArray, List.set_cons_zero, List.set_cons_succ])
      refine wpAnyH_done (by kernel_rfl) ?_ _
      have HB9 := Aside0.mk (below_go HA.out (below_go HB2.out HX2.out))
      clear hHeld
      go_wp2
      go_ret
      exact ⟨by simp; decide, HB9.out⟩
  | ok bs =>
    have HEN := Aside0.mk hen
    clear hen
    refine (encode_ok HEN.out HI.out.1 HI.out.2.1 HI.out.2.2.1 HI.out.2.2.2 hq A n c HN7.out hnc _ (Kd.C_below HC.out HA.out)).mono ?_
    rintro e w1 ⟨hb1, Ab, nb, cb, rfl, hN⟩
    have HB1 := Aside0.mk hb1
    have hsame := Kd.N_reads' hN
    obtain rfl : nb = bs.length := hsame.1
    have HC1 := Aside0.mk (show Dv.bytesK.C w1 Ab bs.length bs from Dv.T.C_plain (by have := hsame.2.2; exact this))
    obtain ⟨c0, c1, c2, c3, s0, s1⟩ := (HB0.out.below HB1.out).cells
    clear hb1 hN hsame
    go_wp2_with fail
    refine (rcenc_calls z zb b r HI.out.1 HI.out.2.1 HI.out.2.2.1 HI.out.2.2.2 q hq A n c l HN7.out hnc _ (Kd.C_below HC.out (below_go HA.out HB1.out)) (plc_ok HC.out)).mono ?_
    rintro e w2 ⟨hb2, ⟨bs', v', he, rfl, hN2⟩ | ⟨y', he, -⟩⟩
    case inr => rw [HEN.out] at he; cases he
    rw [HEN.out] at he
    injection he with he
    subst he
    obtain ⟨Am, nm, cm, rfl, -, hC2⟩ := N_open hN2
    have HC2 := Aside0.mk hC2
    have HCb := Aside0.mk (Kd.C_below HC1.out hb2)
    have HB2 := Aside0.mk (below_go HB1.out hb2)
    clear hb2 hC2 hN2 c0 c1 c2 c3 s0 s1
    obtain ⟨c0, c1, c2, c3, s0, s1⟩ := (HB0.out.below HB2.out).cells
    clear c0 c1 c3 s0 s1
    have HX0 := Aside0.mk (show Below w2.heap.size w2 w2.drew from below_drew (Below.refl _ _))
    go_wp2
    refine wp_region_held_drew (S := fun w' => w'.cell? ⟨g, 2, none⟩ = some (.int .i64 b)) (by kernel_rfl) (pw_cell_below HX0.out c2) (fun hHeld => ?_)
    refine wpAnyH_ready (rs := [0]) (by kernel_rfl) (by simp) ?_
    refine (AllReadyH.cons (o := { dst := some 25, op := Op.call { callee := Callee.value (Operand.func 12), args := #[], argTypes := #[] }, type := 4, pos := "law.go:36", after := #[], guard := none }) rfl (fun K hK => ?_) AllReadyH.nil)
    go_simp
    refine (known_calls _).mono ?_
    rintro e w8 ⟨rfl, hb8⟩
    have HX1 := Aside0.mk (below_go HX0.out hb8)
    clear hb8
    refine hK.out _ _ ?_ (fun hHeld => ?_)
    · exact pw_cell_below HX1.out c2
    clear hK K
    (try simp only [Act.put, List.setIfInBounds_toArray, List.set_cons_zero, List.set_cons_succ])
    refine wpAnyH_take (i := 1) (oi := { dst := some 26, op := Op.move (Operand.tmp 25), type := 4, pos := "law.go:36", after := #[{ on := 0, ground := Ground.data }, { on := 0, ground := Ground.chain }], guard := none }) (v := ?_) rfl (by kernel_rfl) (by kernel_rfl) (by kernel_rfl) (fun _ _ _ h => h) (Or.inl ⟨by rfl, ?_⟩) (by assumption) ?_
    rotate_left
    · (intro w hSw; (try dsimp only at hSw); go_simp; (try with_reducible rfl))
    (try simp only [Act.put, List.setIfInBounds_toArray, List.set_cons_zero, List.set_cons_succ])
    refine wpAnyH_take (i := 2) (oi := { dst := some 27, op := Op.move (Operand.tmp 6), type := 30, pos := "law.go:36", after := #[{ on := 1, ground := Ground.guard }], guard := some (1, true) }) (v := ?_) rfl (by kernel_rfl) (by kernel_rfl) (by kernel_rfl) (fun _ _ _ h => h) (Or.inl ⟨by rfl, ?_⟩) (by assumption) ?_
    rotate_left
    · (intro w hSw; (try dsimp only at hSw); go_simp; (try with_reducible rfl))
    (try simp only [Act.put, List.setIfInBounds_toArray, List.set_cons_zero, List.set_cons_succ])
    refine wpAnyH_take (i := 3) (oi := { dst := some 28, op := Op.convert 30 3 (Operand.tmp 27), type := 3, pos := "law.go:36", after := #[{ on := 2, ground := Ground.data }, { on := 1, ground := Ground.guard }], guard := some (1, true) }) (v := ?_) rfl (by kernel_rfl) (by kernel_rfl) (by kernel_rfl) (fun _ _ _ h => h) (Or.inl ⟨by rfl, ?_⟩) (by assumption) ?_
    rotate_left
    · (intro w hSw; (try dsimp only at hSw); go_simp; (try with_reducible rfl))
    (try simp only [Act.put, List.setIfInBounds_toArray, List.set_cons_zero, List.set_cons_succ])
    refine wpAnyH_take (i := 4) (oi := { dst := some 29, op := Op.move (Operand.tmp 8), type := 3, pos := "law.go:36", after := #[{ on := 1, ground := Ground.guard }], guard := some (1, true) }) (v := ?_) rfl (by kernel_rfl) (by kernel_rfl) (by kernel_rfl) (fun _ _ _ h => h) (Or.inl ⟨by rfl, ?_⟩) (by assumption) ?_
    rotate_left
    · (intro w hSw; (try dsimp only at hSw); go_simp; (try with_reducible rfl))
    (try simp only [Act.put, List.setIfInBounds_toArray, List.set_cons_zero, List.set_cons_succ])
    refine wpAnyH_take (i := 5) (oi := { dst := some 30, op := Op.binOp BinOp.eql 3 (Operand.tmp 28) (Operand.tmp 29) 3, type := 4, pos := "law.go:36", after := #[{ on := 3, ground := Ground.data }, { on := 4, ground := Ground.data }, { on := 1, ground := Ground.guard }], guard := some (1, true) }) (v := ?_) rfl (by kernel_rfl) (by kernel_rfl) (by kernel_rfl) (fun _ _ _ h => h) (Or.inl ⟨by rfl, ?_⟩) (by assumption) ?_
    rotate_left
    · (intro w hSw; (try dsimp only at hSw); go_simp; (try with_reducible rfl))
    (try simp only [Act.put, List.setIfInBounds_toArray, List.set_cons_zero, List.set_cons_succ])
    refine wpAnyH_take (i := 6) (oi := { dst := some 31, op := Op.pick (Operand.tmp 26) (Operand.tmp 30) (Operand.const (Value.bool false)), type := 4, pos := "law.go:36", after := #[{ on := 1, ground := Ground.data }, { on := 5, ground := Ground.data }], guard := none }) (v := ?_) rfl (by kernel_rfl) (by kernel_rfl) (by kernel_rfl) (fun _ _ _ h => h) (Or.inl ⟨by rfl, ?_⟩) (by assumption) ?_
    rotate_left
    · (intro w hSw; (try dsimp only at hSw); go_simp; (try with_reducible rfl))
    (try simp only [Act.put, List.setIfInBounds_toArray, List.set_cons_zero, List.set_cons_succ])
    refine wpAnyH_take (i := 7) (oi := { dst := some 32, op := Op.move (Operand.tmp 31), type := 4, pos := "law.go:36", after := #[{ on := 6, ground := Ground.data }, { on := 1, ground := Ground.chain }], guard := none }) (v := ?_) rfl (by kernel_rfl) (by kernel_rfl) (by kernel_rfl) (fun _ _ _ h => h) (Or.inl ⟨by rfl, ?_⟩) (by assumption) ?_
    rotate_left
    · (intro w hSw; (try dsimp only at hSw); go_simp; (try with_reducible rfl))
    (try simp only [Act.put, List.setIfInBounds_toArray, List.set_cons_zero, List.set_cons_succ])
    refine wpAnyH_take (i := 8) (oi := { dst := some 33, op := Op.move (Operand.tmp 5), type := 28, pos := "law.go:36", after := #[{ on := 7, ground := Ground.guard }], guard := some (7, true) }) (v := ?_) rfl (by kernel_rfl) (by kernel_rfl) (by kernel_rfl) (fun _ _ _ h => h) (Or.inl ⟨by rfl, ?_⟩) (by assumption) ?_
    rotate_left
    · (intro w hSw; (try dsimp only at hSw); go_simp; (try with_reducible rfl))
    (try simp only [Act.put, List.setIfInBounds_toArray, List.set_cons_zero, List.set_cons_succ])
    refine wpAnyH_take (i := 9) (oi := { dst := some 34, op := Op.move (Operand.tmp 7), type := 28, pos := "law.go:36", after := #[{ on := 7, ground := Ground.guard }], guard := some (7, true) }) (v := ?_) rfl (by kernel_rfl) (by kernel_rfl) (by kernel_rfl) (fun _ _ _ h => h) (Or.inl ⟨by rfl, ?_⟩) (by assumption) ?_
    rotate_left
    · (intro w hSw; (try dsimp only at hSw); go_simp; (try with_reducible rfl))
    (try simp only [Act.put, List.setIfInBounds_toArray, List.set_cons_zero, List.set_cons_succ])
    refine wpAnyH_ready (rs := [10]) (by kernel_rfl) (by simp) ?_
    refine (AllReadyH.cons (o := { dst := some 35, op := Op.call { callee := Callee.value (Operand.func 13), args := #[Operand.tmp 33, Operand.tmp 34], argTypes := #[28, 28] }, type := 4, pos := "law.go:36", after := #[{ on := 8, ground := Ground.data }, { on := 9, ground := Ground.data }, { on := 7, ground := Ground.chain }, { on := 7, ground := Ground.guard }], guard := some (7, true) }) rfl (fun K hK => ?_) AllReadyH.nil)
    go_simp
    refine (Dv.sblocks_calls Ab Am bs.length nm cb cm bs bs _ (Kd.C_below HCb.out HX1.out) (Kd.C_below HC2.out HX1.out)).mono ?_
    rw [decide_eq_true rfl]
    rintro e w9 ⟨rfl, m9, rfl⟩
    have HX2 := Aside0.mk (pw_below_drewN HX1.out m9)
    refine hK.out _ _ ?_ (fun hHeld => ?_)
    · exact pw_cell_below HX2.out c2
    clear hK K
    (try simp only [Act.put, List.setIfInBounds_toArray, List.set_cons_zero, List.set_cons_succ])
    refine wpAnyH_take (i := 11) (oi := { dst := some 36, op := Op.pick (Operand.tmp 32) (Operand.tmp 35) (Operand.const (Value.bool false)), type := 4, pos := "law.go:36", after := #[{ on := 7, ground := Ground.data }, { on := 10, ground := Ground.data }], guard := none }) (v := ?_) rfl (by kernel_rfl) (by kernel_rfl) (by kernel_rfl) (fun _ _ _ h => h) (Or.inl ⟨by rfl, ?_⟩) (by assumption) ?_
    rotate_left
    · (intro w hSw; (try dsimp only at hSw); go_simp; (try with_reducible rfl))
    (try simp only [Act.put, List.setIfInBounds_toArray, List.set_cons_zero, List.set_cons_succ])
    refine wpAnyH_take (i := 12) (oi := { dst := some 37, op := Op.move (Operand.tmp 36), type := 4, pos := "law.go:36", after := #[{ on := 11, ground := Ground.data }, { on := 10, ground := Ground.chain }], guard := none }) (v := ?_) rfl (by kernel_rfl) (by kernel_rfl) (by kernel_rfl) (fun _ _ _ h => h) (Or.inl ⟨by rfl, ?_⟩) (by assumption) ?_
    rotate_left
    · (intro w hSw; (try dsimp only at hSw); go_simp; (try with_reducible rfl))
    (try simp only [Act.put, List.setIfInBounds_toArray, List.set_cons_zero, List.set_cons_succ])
    refine wpAnyH_take (i := 13) (oi := { dst := some 38, op := Op.fieldAddr 23 (Operand.tmp 2) 2, type := 0, pos := "law.go:36", after := #[{ on := 12, ground := Ground.guard }], guard := some (12, true) }) (v := ?_) rfl (by kernel_rfl) (by kernel_rfl) (by kernel_rfl) (fun _ _ _ h => h) (Or.inl ⟨by rfl, ?_⟩) (by assumption) ?_
    rotate_left
    · (intro w hSw; (try dsimp only at hSw); go_simp; (try with_reducible rfl))
    (try simp only [Act.put, List.setIfInBounds_toArray, List.set_cons_zero, List.set_cons_succ])
    refine wpAnyH_take (i := 14) (oi := { dst := some 39, op := Op.load 3 (Operand.tmp 38), type := 3, pos := "law.go:36", after := #[{ on := 13, ground := Ground.data }, { on := 12, ground := Ground.guard }], guard := some (12, true) }) (v := ?_) rfl (by kernel_rfl) (by kernel_rfl) (by kernel_rfl) (fun _ _ _ h => h) (Or.inl ⟨by rfl, ?_⟩) (by assumption) ?_
    rotate_left
    · (intro w hSw; (try dsimp only at hSw); go_simp; (try with_reducible rfl))
    (try simp only [Act.put, List.setIfInBounds_toArray, List.set_cons_zero, List.set_cons_succ])
    refine wpAnyH_take (i := 16) (oi := { dst := some 41, op := Op.fieldAddr 23 (Operand.tmp 2) 2, type := 0, pos := "law.go:36", after := #[{ on := 12, ground := Ground.guard }], guard := some (12, true) }) (v := ?_) rfl (by kernel_rfl) (by kernel_rfl) (by kernel_rfl) (fun _ _ _ h => h) (Or.inl ⟨by rfl, ?_⟩) (by assumption) ?_
    rotate_left
    · (intro w hSw; (try dsimp only at hSw); go_simp; (try with_reducible rfl))
    (try simp only [Act.put, List.setIfInBounds_toArray, List.set_cons_zero, List.set_cons_succ])
    refine wpAnyH_take (i := 17) (oi := { dst := some 42, op := Op.load 3 (Operand.tmp 41), type := 3, pos := "law.go:36", after := #[{ on := 16, ground := Ground.data }, { on := 12, ground := Ground.guard }], guard := some (12, true) }) (v := ?_) rfl (by kernel_rfl) (by kernel_rfl) (by kernel_rfl) (fun _ _ _ h => h) (Or.inl ⟨by rfl, ?_⟩) (by assumption) ?_
    rotate_left
    · (intro w hSw; (try dsimp only at hSw); go_simp; (try with_reducible rfl))
    (try simp only [Act.put, List.setIfInBounds_toArray, List.set_cons_zero, List.set_cons_succ])
    refine wpAnyH_ready (rs := [15]) (by kernel_rfl) (by simp) ?_
    refine (AllReadyH.cons (o := { dst := some 40, op := Op.call { callee := Callee.value (Operand.func 14), args := #[Operand.tmp 39], argTypes := #[3] }, type := 3, pos := "law.go:36", after := #[{ on := 14, ground := Ground.data }, { on := 12, ground := Ground.chain }, { on := 12, ground := Ground.guard }], guard := some (12, true) }) rfl (fun K hK => ?_) AllReadyH.nil)
    go_simp
    refine (room_calls b HI.out.2.2.1 _).mono ?_
    rintro e wa ⟨rfl, rfl⟩
    refine hK.out _ _ ?_ (fun hHeld => ?_)
    · exact pw_cell_below HX2.out c2
    clear hK K
    (try simp only [Act.put, List.setIfInBounds_toArray, List.set_cons_zero, List.set_cons_succ])
    refine wpAnyH_ready (rs := [18]) (by kernel_rfl) (by simp) ?_
    refine (AllReadyH.cons (o := { dst := some 43, op := Op.call { callee := Callee.value (Operand.func 15), args := #[Operand.tmp 42], argTypes := #[3] }, type := 3, pos := "law.go:36", after := #[{ on := 17, ground := Ground.data }, { on := 15, ground := Ground.chain }, { on := 12, ground := Ground.guard }], guard := some (12, true) }) rfl (fun K hK => ?_) AllReadyH.nil)
    go_simp
    refine (ref_room_calls b HI.out.2.2.1 _).mono ?_
    rintro e wb ⟨rfl, rfl⟩
    refine hK.out _ _ ?_ (fun hHeld => ?_)
    · exact pw_cell_below HX2.out c2
    clear hK K
    (try simp only [Act.put, List.setIfInBounds_toArray, List.set_cons_zero, List.set_cons_succ])
    refine wpAnyH_take (i := 19) (oi := { dst := some 44, op := Op.binOp BinOp.eql 3 (Operand.tmp 40) (Operand.tmp 43) 3, type := 4, pos := "law.go:36", after := #[{ on := 15, ground := Ground.data }, { on := 18, ground := Ground.data }, { on := 12, ground := Ground.guard }], guard := some (12, true) }) (v := ?_) rfl (by kernel_rfl) (by kernel_rfl) (by kernel_rfl) (fun _ _ _ h => h) (Or.inl ⟨by rfl, ?_⟩) (by assumption) ?_
    rotate_left
    · (intro w hSw; (try dsimp only at hSw); go_simp; (try with_reducible rfl))
    (try simp only [Act.put, List.setIfInBounds_toArray, List.set_cons_zero, List.set_cons_succ])
    refine wpAnyH_take (i := 20) (oi := { dst := some 45, op := Op.pick (Operand.tmp 37) (Operand.tmp 44) (Operand.const (Value.bool false)), type := 4, pos := "law.go:36", after := #[{ on := 12, ground := Ground.data }, { on := 19, ground := Ground.data }], guard := none }) (v := ?_) rfl (by kernel_rfl) (by kernel_rfl) (by kernel_rfl) (fun _ _ _ h => h) (Or.inl ⟨by rfl, ?_⟩) (by assumption) ?_
    rotate_left
    · (intro w hSw; (try dsimp only at hSw); go_simp; (try with_reducible rfl))
    (try simp only [Act.put, List.setIfInBounds_toArray, List.set_cons_zero, List.set_cons_succ])
    refine wpAnyH_take (i := 21) (oi := { dst := some 4, op := Op.assign (Operand.tmp 45), type := 4, pos := "law.go:36", after := #[{ on := 20, ground := Ground.data }, { on := 18, ground := Ground.chain }, { on := 0, ground := Ground.phase }, { on := 1, ground := Ground.phase }, { on := 2, ground := Ground.phase }, { on := 3, ground := Ground.phase }, { on := 4, ground := Ground.phase }, { on := 5, ground := Ground.phase }, { on := 6, ground := Ground.phase }, { on := 7, ground := Ground.phase }, { on := 8, ground := Ground.phase }, { on := 9, ground := Ground.phase }, { on := 10, ground := Ground.phase }, { on := 11, ground := Ground.phase }, { on := 12, ground := Ground.phase }, { on := 13, ground := Ground.phase }, { on := 14, ground := Ground.phase }, { on := 15, ground := Ground.phase }, { on := 16, ground := Ground.phase }, { on := 17, ground := Ground.phase }, { on := 18, ground := Ground.phase }, { on := 19, ground := Ground.phase }, { on := 20, ground := Ground.phase }], guard := none }) (v := ?_) rfl (by kernel_rfl) (by kernel_rfl) (by kernel_rfl) (fun _ _ _ h => h) (Or.inl ⟨by rfl, ?_⟩) (by assumption) ?_
    rotate_left
    · (intro w hSw; (try dsimp only at hSw); go_simp; (try with_reducible rfl))
    (try simp only [Act.put, List.setIfInBounds_toArray, List.set_cons_zero, List.set_cons_succ])
    refine wpAnyH_done (by kernel_rfl) ?_ _
    have HB9 := Aside0.mk (below_go HA.out (below_go HB2.out HX2.out))
    clear hHeld
    go_wp2
    go_ret
    exact ⟨by simp; decide, HB9.out⟩
theorem cencodes_row (W : World) (s : Int × Int × Int × Int) (c : IsI s.1 ∧ IsI s.2.1 ∧ IsI s.2.2.1 ∧ IsI s.2.2.2) (t : Nat × List Plc × Option Addr × Nat × Nat) (d : StArg W t) :
    Calls Try.prog 3 #[.agg #[.int .i64 s.1, .int .i64 s.2.1, .int .i64 s.2.2.1, .int .i64 s.2.2.2], .agg #[.int .u64 (t.1 : Int), .slice t.2.2.1 t.2.2.2.1 t.2.2.2.2]] W fun e w' => e = .returned (.bool true) ∧ Below W.heap.size W w' :=
  cencodes_walk W s.1 s.2.1 s.2.2.1 s.2.2.2 c.1 c.2.1 c.2.2.1 c.2.2.2 t.1 d.1 t.2.2.1 t.2.2.2.1 t.2.2.2.2 d.2.2 t.2.1 d.2.1
end Go.Proofs.Ytkmeipblgdahoaa.Ck

/- The row of CkptEncodes, out of its walk. -/
namespace Go.Proofs.Ytkmeipblgdahoaa.ckptEncodes
open Go.ChangeShapes Go.WideShapes Go.ChangeAt Go.RowKit Go.Proofs.Ytkmeipblgdahoaa.Base
open Go.ChangeMaps (open_string shut_string)
set_option linter.unusedVariables false
theorem own : ownKnob Try.prog.godebug = none := by kernel_rfl
theorem laidOut : laidOutB Try.prog = true := by kernel_rfl
set_option maxRecDepth 100000 in
theorem lifted (os : Os) (started : os.Started) (H : Type) (enc : TypeId × Value → H) :
    ReturnsInHanded {} Try.checked os 3 .any (Rows.ckptEncodesSpec.pre6 enc Try.prog Try.f3 Rows.ckptEncodesRow.domain false) (Rows.ckptEncodesSpec.post enc Try.prog Try.f3 false true false false) := by
  refine returnsInHanded_of_change_sized (C := Try.checked) own started (by kernel_rfl) Try.func3
    (ChangeSpec.witness6 (enc := enc) (C := Try.checked) false ⟨#[], #[.agg #[.int .i64 0, .int .i64 0, .int .i64 0, .int .i64 0], .agg #[.int .u64 0, .slice none 0 0]], []⟩ 8 (by kernel_rfl) (by kernel_rfl) (by kernel_rfl) (by kernel_rfl)) ?_
  intro W base args ds gs before hval0 hW hcnd hsz0 _
  have hval : ∀ (j : Nat) t v, Try.f3.params[j]? = some t → args[j]? = some v → Value.okWide Try.prog W .any base t v := hval0
  have hW' := hW
  obtain ⟨p, q, hA0, hV, rfl, hfz, hnd⟩ := hW
  have hA : DataW.TrodAll enc Try.prog W 0 (fun _ => true) true Try.f3.params.toList args.toList ds p := hA0
  rw [Try.params3] at hA hval
  obtain ⟨v0, vs0, d0, ds0, p0, q0, hargs, rfl, rfl, h0, r0⟩ := trodAll_cons hA
  obtain ⟨v1, vs1, d1, ds1, p1, q1, rfl, rfl, rfl, h1, r1⟩ := trodAll_cons r0
  obtain ⟨rfl, rfl, rfl⟩ := trodAll_nil r1
  obtain rfl : args = #[v0, v1] := by cases args; simp_all
  obtain ⟨rfl, rfl⟩ := trodVars_none hV
  have k0 := h0
  have lt0 : ∀ x ∈ p0, x.block < W.heap.size := by obtain ⟨m, hm⟩ := k0; exact DataW.trod_lt m _ _ _ hm
  obtain ⟨s0, rfl, c0⟩ := Shp.open_shape (hval 0 23 v0 rfl rfl) h0
  have k1 := h1
  have lt1 : ∀ x ∈ p1, x.block < W.heap.size := by obtain ⟨m, hm⟩ := k1; exact DataW.trod_lt m _ _ _ hm
  obtain ⟨s1, rfl, c1⟩ := Ck.open_st (hval 1 27 v1 rfl rfl) h1
  clear hA0 hval0 hsz0
  refine (Ck.cencodes_row W s0 c0 s1 c1).mono fun e W' ⟨he, bel⟩ => ?_
  subst he
  exact ⟨_, rfl, _, _, _, [], _, [], hW', trodAll_mk1 (shut_bool Try.underlying4 _), (trodAll_cons_mk (Below.trod laidOut (by kernel_rfl) (of_decide_eq_true (by kernel_rfl)) k0 bel lt0) (trodAll_cons_mk (Below.trod laidOut (by kernel_rfl) (of_decide_eq_true (by kernel_rfl)) k1 bel lt1) trodAll_mk0)), rfl, bel.frame _, fun h => by cases h⟩
theorem over : Rows.ckptEncodesRow.holds Try.pinned (OpenSpec.ofChange Rows.ckptEncodesSpec) :=
  OpenClaim.holds_of_wide 3 Try.f3 rfl rfl rfl rfl rfl rfl rfl ⟨rfl, rfl, rfl, rfl, rfl⟩ rfl rfl rfl rfl rfl (by kernel_rfl) Try.func3 (by kernel_rfl)
    (of_decide_eq_true (by kernel_rfl)) (by unfold Func.isWrapper; first | (rw [if_pos (by decide +kernel)]; kernel_rfl) | (rw [if_neg (by decide +kernel)]; exact ⟨rfl, rfl⟩))
    (fun os started H enc _ => lifted os started H enc)
theorem proved : Rows.CkptEncodesSaid := over
#print axioms proved
end Go.Proofs.Ytkmeipblgdahoaa.ckptEncodes
namespace Go.Proofs.Ytkmeipblgdahoaa
theorem ckptEncodes_holds : Rows.CkptEncodesSaid := ckptEncodes.proved
end Go.Proofs.Ytkmeipblgdahoaa
