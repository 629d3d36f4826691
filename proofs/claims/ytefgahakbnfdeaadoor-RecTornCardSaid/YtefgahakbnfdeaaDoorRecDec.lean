/- rec.Decode: the record that a block is. -/
import Derived.Test.YtefgahakbnfdeaaDoorRecRec
namespace Go.Proofs.YtefgahakbnfdeaaDoor.Rc
open Go.RowKit Go.Proofs.YtefgahakbnfdeaaDoorW.PrintWords Go.Proofs.YtefgahakbnfdeaaDoorW.PrintMore Go.Proofs.YtefgahakbnfdeaaDoor.Base
set_option linter.unusedVariables false
set_option linter.unusedSimpArgs false
def recA : Array Value := #[.int .u64 0, .slice none 0 0]
/-- The deferred closure. -/
theorem dcatch_panicking (gr ge : Nat) (v0 v1 ve : Value) (u : TypeId) (pv : Value) (w : World) (h0 : w.heap[gr]? = some (.cells #[v0, v1] 35 (0, 0))) (h1 : Boxed w ge 36 ve) (hne : gr ≠ ge) :
    CallsD Tryd.prog 22 #[.pointer (some ⟨gr, 0, none⟩), .pointer (some ⟨ge, 0, none⟩)] (.panicking ({ v := .iface u pv, recovered := false } :: [])) w fun e u' w' =>
      e = .returned (.tuple #[]) ∧ u' = .panicking ({ v := .iface u pv, recovered := true } :: []) ∧ w' = ((w.setCell ⟨gr, 0, none⟩ (.int .u64 0)).setCell ⟨gr, 1, none⟩ (.slice none 0 0)).setCell ⟨ge, 0, none⟩ (.int .u16 111) := by
  have b1 := blk_set h0 0 (.int .u64 0)
  have c0 : w.cell? ⟨gr, 0, none⟩ = some v0 := by simp [World.cell?, h0]
  have z0 : w.frozen? ⟨gr, 0, none⟩ = false := by simp [World.frozen?, h0]
  have c1 : (w.setCell ⟨gr, 0, none⟩ (.int .u64 0)).cell? ⟨gr, 1, none⟩ = some v1 := by simp [World.cell?, b1]
  have z1 : (w.setCell ⟨gr, 0, none⟩ (.int .u64 0)).frozen? ⟨gr, 1, none⟩ = false := by simp [World.frozen?, b1]
  have be : ((w.setCell ⟨gr, 0, none⟩ (.int .u64 0)).setCell ⟨gr, 1, none⟩ (.slice none 0 0)).heap[ge]? = some (.cells #[ve] 36 (0, 0)) :=
    (Below.heap_setCell _ ⟨gr, 1, none⟩ _ ge hne.symm).trans ((Below.heap_setCell _ ⟨gr, 0, none⟩ _ ge hne.symm).trans h1)
  have c2 : ((w.setCell ⟨gr, 0, none⟩ (.int .u64 0)).setCell ⟨gr, 1, none⟩ (.slice none 0 0)).cell? ⟨ge, 0, none⟩ = some ve := by simp [World.cell?, be]
  have z2 : ((w.setCell ⟨gr, 0, none⟩ (.int .u64 0)).setCell ⟨gr, 1, none⟩ (.slice none 0 0)).frozen? ⟨ge, 0, none⟩ = false := by simp [World.frozen?, be]
  refine callsD_of_wpS Tryd.func22 rfl fun c₀ cs hu => ?_
  apply wpS_seq
  apply wpS_region
  simp [wpOpsS, go_sem, recoverD, hu, Tryd.ntmps22, Exit.thenS]
  apply wpS_seq
  apply wpS_region
  simp [wpOpsS, go_sem, Exit.thenS]
  refine wpS_cond (t := true) (by simp [Act.eval, Array.replicate]) ?_
  simp only [if_true]
  apply wpS_region
  simp [wpOpsS, go_sem, c0, z0, c1, z1, c2, z2, bodyPostS, results, Tryd.results22]
theorem dcatch_idle (gr ge : Nat) (w : World) :
    CallsD Tryd.prog 22 #[.pointer (some ⟨gr, 0, none⟩), .pointer (some ⟨ge, 0, none⟩)] .returning w fun e u' w' => e = .returned (.tuple #[]) ∧ u' = .returning ∧ w' = w := by
  refine callsD_of_wpS Tryd.func22 rfl fun c₀ cs hu => ?_
  apply wpS_seq
  apply wpS_region
  simp [wpOpsS, go_sem, recoverD, hu, Tryd.ntmps22, Exit.thenS]
  apply wpS_seq
  apply wpS_region
  simp [wpOpsS, go_sem, Exit.thenS]
  refine wpS_cond (t := false) (by simp [Act.eval, Array.replicate]) ?_
  simp only [Bool.false_eq_true, if_false]
  refine wpS_of_wp (wp_skip ?_)
  cases c₀
  simp_all [bodyPostS, results, Tryd.results22]
/-- What Decode answers. -/
def DecP (w : World) (b : List UInt8) (e : Ending) (w' : World) : Prop :=
  Below w.heap.size w w' ∧ ((RecIs b ∧ ∃ v, e = .returned (.tuple #[.agg #[.int .u64 (sqN b : Int), v], .int .u16 0]) ∧ OwnI w' w.heap.size v (itN b)) ∨ (¬ RecIs b ∧ e = .returned (.tuple #[.agg #[.int .u64 0, .slice none 0 0], .int .u16 111])))
set_option maxRecDepth 100000 in
set_option maxHeartbeats 1000000 in
theorem decode_calls (A : Option Addr) (n c : Nat) (b : List UInt8) (w : World) (h : byte.C w A n b) (hnc : n ≤ c) (hc : c ≤ 9223372036854775807) (hn : n ≤ 100000000) :
    Calls Tryd.prog 12 #[.slice A n c] w (DecP w b) := by
  have hmf : ∀ (fn : Fn) (first cap : Array Value) (w : World), (Instr.makeFunc fn first cap).run Tryd.prog w = .ok (.func fn first cap) w := fun _ _ _ _ => rfl
  have HC := Aside0.mk h
  have hb0 : Below w.heap.size w ((w.alloc (.cells #[.int .u64 0, .slice none 0 0] 35)).alloc (.cells #[.int .u16 0] 36)) := below_alloc (alloc_below _ _) _
  have hr0 : ((w.alloc (.cells #[.int .u64 0, .slice none 0 0] 35)).alloc (.cells #[.int .u16 0] 36)).heap[w.heap.size]? = some (.cells #[.int .u64 0, .slice none 0 0] 35 (0, 0)) := blk_past (blk_here rfl)
  have he0 : Boxed ((w.alloc (.cells #[.int .u64 0, .slice none 0 0] 35)).alloc (.cells #[.int .u16 0] 36)) (w.heap.size + 1) 36 (.int .u16 0) := by
    have := Boxed.new (w.alloc (.cells #[.int .u64 0, .slice none 0 0] 35)) 36 (.int .u16 0)
    simpa using this
  have HB0 := Aside0.mk hb0
  have HR0 := Aside0.mk hr0
  have HE0 := Aside0.mk he0
  clear h hb0 hr0 he0
  go_enter_defers Tryd.func12, Tryd.ntmps12
  go_wp2_with fail
  obtain ⟨g, hg⟩ : ∃ g, w.heap.size = g := ⟨_, rfl⟩
  obtain ⟨W, hW⟩ : ∃ W, (w.alloc (.cells #[.int .u64 0, .slice none 0 0] 35)).alloc (.cells #[.int .u16 0] 36) = W := ⟨_, rfl⟩
  rw [hW] at HB0 HR0 HE0 ⊢
  rw [hg] at HR0 HE0 ⊢
  have HG := Aside0.mk hg
  clear hW hg
  refine (record_calls A n c b _ (Kd.C_below HC.out HB0.out) hnc hc hn).mono ?_
  rintro e w1 ⟨hb1, ⟨his, v, rfl, hI⟩ | ⟨hno, u, pv, rfl⟩⟩
  · have HIS := Aside0.mk his
    obtain ⟨Ai, ni, ci, rfl⟩ : ∃ Ai ni ci, v = .slice Ai ni ci := by obtain ⟨Ai, ci, hv⟩ := Kd.R_slice hI; exact ⟨Ai, _, ci, hv⟩
    have hr1 := blk_old hb1 HR0.out
    have he1 : Boxed w1 (g + 1) 36 (.int .u16 0) := blk_old hb1 HE0.out
    have hI1 : OwnI w1 w.heap.size (.slice Ai ni ci) (itN b) := Kd.R_lower hI HB0.out.size
    have hb2 := below_go HB0.out hb1
    obtain ⟨sq, hsq⟩ : ∃ sq, sqN b = sq := ⟨_, rfl⟩
    rw [hsq]
    have HSQ := Aside0.mk hsq
    have b1 := blk_set hr1 0 (.int .u64 (sq : Int))
    have b2 := blk_set b1 1 (.slice Ai ni ci)
    have c0 : w1.cell? ⟨g, 0, none⟩ = some (.int .u64 0) := by simp [World.cell?, hr1]
    have c1 : w1.cell? ⟨g, 1, none⟩ = some (.slice none 0 0) := by simp [World.cell?, hr1]
    have z0 : w1.frozen? ⟨g, 0, none⟩ = false := by simp [World.frozen?, hr1]
    have z1 : w1.frozen? ⟨g, 1, none⟩ = false := by simp [World.frozen?, hr1]
    have c2 : w1.cell? ⟨g + 1, 0, none⟩ = some (.int .u16 0) := he1.cell
    have z2 : w1.frozen? ⟨g + 1, 0, none⟩ = false := he1.frozen
    have ht : ∀ q, q ∈ 26 :: itK.E → q ≠ 35 := by intro q hq; rw [List.mem_singleton.1 hq]; decide
    have ht2 : ∀ q, q ∈ 26 :: itK.E → q ≠ 36 := by intro q hq; rw [List.mem_singleton.1 hq]; decide
    have he2 : Boxed ((w1.setCell ⟨g, 0, none⟩ (.int .u64 (sq : Int))).setCell ⟨g, 1, none⟩ (.slice Ai ni ci)) (g + 1) 36 (.int .u16 0) :=
      (Below.heap_setCell _ ⟨g, 1, none⟩ _ (g + 1) (by simp)).trans ((Below.heap_setCell _ ⟨g, 0, none⟩ _ (g + 1) (by simp)).trans he1)
    have hg0 : w.heap.size ≤ g := Nat.le_of_eq HG.out
    have HFI := Aside0.mk (show OwnI (((w1.setCell ⟨g, 0, none⟩ (.int .u64 (sq : Int))).setCell ⟨g, 1, none⟩ (.slice Ai ni ci)).setCell ⟨g + 1, 0, none⟩ (.int .u16 0)) w.heap.size (.slice Ai ni ci) (itN b) ∧ Below w.heap.size w (((w1.setCell ⟨g, 0, none⟩ (.int .u64 (sq : Int))).setCell ⟨g, 1, none⟩ (.slice Ai ni ci)).setCell ⟨g + 1, 0, none⟩ (.int .u16 0)) ∧
        (((w1.setCell ⟨g, 0, none⟩ (.int .u64 (sq : Int))).setCell ⟨g, 1, none⟩ (.slice Ai ni ci)).setCell ⟨g + 1, 0, none⟩ (.int .u16 0)).heap[g]? = some (.cells #[.int .u64 (sq : Int), .slice Ai ni ci] 35 (0, 0)) ∧
        Boxed (((w1.setCell ⟨g, 0, none⟩ (.int .u64 (sq : Int))).setCell ⟨g, 1, none⟩ (.slice Ai ni ci)).setCell ⟨g + 1, 0, none⟩ (.int .u16 0)) (g + 1) 36 (.int .u16 0) from
      ⟨Kd.R_set (Kd.R_set (Kd.R_set hI1 hr1 ht 0 _) b1 ht 1 _) he2 ht2 0 _, ((hb2.setCell (p := ⟨g, 0, none⟩) hg0 _).setCell (p := ⟨g, 1, none⟩) hg0 _).setCell (p := ⟨g + 1, 0, none⟩) (by show w.heap.size ≤ g + 1; omega) _, (Below.heap_setCell _ ⟨g + 1, 0, none⟩ _ g (by simp)).trans b2, he2.set _⟩)
    clear his hI hb1 hr1 he1 hI1 hb2 hsq b1 b2 he2 ht ht2 hg0
    go_wp2
    refine leaves_cons (f := 22) (args := #[.pointer (some ⟨g, 0, none⟩), .pointer (some ⟨g + 1, 0, none⟩)]) (by simp) (by simp [go_sem]) ?_
    refine (dcatch_idle g (g + 1) _).mono ?_
    rintro e u' w'' ⟨rfl, rfl, rfl⟩
    obtain ⟨hI, hB, hbr, hbe⟩ := HFI.out
    clear c0 c1 c2 z0 z1 z2 HFI
    generalize ((w1.setCell ⟨g, 0, none⟩ (.int .u64 (sq : Int))).setCell ⟨g, 1, none⟩ (.slice Ai ni ci)).setCell ⟨g + 1, 0, none⟩ (.int .u16 0) = W9 at *
    have q0 : W9.cell? ⟨g, 0, none⟩ = some (.int .u64 (sq : Int)) := by simp [World.cell?, hbr]
    have q1 : W9.cell? ⟨g, 1, none⟩ = some (.slice Ai ni ci) := by simp [World.cell?, hbr]
    have q2 : W9.cell? ⟨g + 1, 0, none⟩ = some (.int .u16 0) := hbe.cell
    refine ⟨.tuple #[.agg #[.int .u64 (sq : Int), .slice Ai ni ci], .int .u16 0], ?_, hB, .inl ⟨HIS.out, .slice Ai ni ci, by rw [HSQ.out], hI⟩⟩
    simp [results, Tryd.results12, go_sem, q0, q1, q2]
  · have HNO := Aside0.mk hno
    have hr1 := blk_old hb1 HR0.out
    have he1 : Boxed w1 (g + 1) 36 (.int .u16 0) := blk_old hb1 HE0.out
    have hb2 := below_go HB0.out hb1
    have hg0 : w.heap.size ≤ g := Nat.le_of_eq HG.out
    refine leaves_cons (f := 22) (args := #[.pointer (some ⟨g, 0, none⟩), .pointer (some ⟨g + 1, 0, none⟩)]) (by simp) (by simp [go_sem]) ?_
    refine (dcatch_panicking g (g + 1) _ _ _ u pv w1 hr1 he1 (by simp)).mono ?_
    rintro e u' w'' ⟨rfl, rfl, rfl⟩
    have b1 := blk_set hr1 0 (.int .u64 0)
    have b2 := blk_set b1 1 (.slice none 0 0)
    have he2 : Boxed ((w1.setCell ⟨g, 0, none⟩ (.int .u64 0)).setCell ⟨g, 1, none⟩ (.slice none 0 0)) (g + 1) 36 (.int .u16 0) :=
      (Below.heap_setCell _ ⟨g, 1, none⟩ _ (g + 1) (by simp)).trans ((Below.heap_setCell _ ⟨g, 0, none⟩ _ (g + 1) (by simp)).trans he1)
    have hbr : (((w1.setCell ⟨g, 0, none⟩ (.int .u64 0)).setCell ⟨g, 1, none⟩ (.slice none 0 0)).setCell ⟨g + 1, 0, none⟩ (.int .u16 111)).heap[g]? = some (.cells #[.int .u64 0, .slice none 0 0] 35 (0, 0)) := (Below.heap_setCell _ ⟨g + 1, 0, none⟩ _ g (by simp)).trans b2
    have hbe := he2.set (.int .u16 111)
    have hB := ((hb2.setCell (p := ⟨g, 0, none⟩) hg0 (.int .u64 0)).setCell (p := ⟨g, 1, none⟩) hg0 (.slice none 0 0)).setCell (p := ⟨g + 1, 0, none⟩) (by show w.heap.size ≤ g + 1; omega) (.int .u16 111)
    clear b1 b2 he2
    generalize ((w1.setCell ⟨g, 0, none⟩ (.int .u64 0)).setCell ⟨g, 1, none⟩ (.slice none 0 0)).setCell ⟨g + 1, 0, none⟩ (.int .u16 111) = W9 at *
    have q0 : W9.cell? ⟨g, 0, none⟩ = some (.int .u64 0) := by simp [World.cell?, hbr]
    have q1 : W9.cell? ⟨g, 1, none⟩ = some (.slice none 0 0) := by simp [World.cell?, hbr]
    have q2 : W9.cell? ⟨g + 1, 0, none⟩ = some (.int .u16 111) := hbe.cell
    refine ⟨.tuple #[.agg #[.int .u64 0, .slice none 0 0], .int .u16 111], ?_, hB, .inr ⟨HNO.out, rfl⟩⟩
    simp [results, Tryd.results12, go_sem, q0, q1, q2]
end Go.Proofs.YtefgahakbnfdeaaDoor.Rc
