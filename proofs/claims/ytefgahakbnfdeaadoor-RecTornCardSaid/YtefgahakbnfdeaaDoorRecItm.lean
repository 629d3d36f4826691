/- Items: may one be; are all; how many a block has room for; a block's sum. -/
import Derived.Test.YtefgahakbnfdeaaDoorWire
import Derived.Test.YtefgahakbnfdeaaDoorCrcWalks
namespace Go.Proofs.YtefgahakbnfdeaaDoor.Rc
open Go.RowKit Go.Proofs.YtefgahakbnfdeaaDoorW.PrintWords Go.Proofs.YtefgahakbnfdeaaDoorW.PrintMore Go.Proofs.YtefgahakbnfdeaaDoor.Base
set_option linter.unusedVariables false
set_option linter.unusedSimpArgs false
/-- An item's cells. -/
def itV (x : Itm) : Array Value := #[.int .u32 (x.1 : Int), .int .u64 (x.2.1 : Int), .int .u8 (x.2.2.1 : Int), .int .u32 (x.2.2.2.1 : Int), .int .u16 (x.2.2.2.2 : Int)]
def itK : Kd Itm := Kd.pair (nat .u32) (Kd.pair (nat .u64) (Kd.pair (nat .u8) (Kd.pair (nat .u32) (nat .u16))))
theorem itK_open {w : World} {x : Itm} {c : List Value} (h : itK.K w x c) : c = (itV x).toList ∧ ItmOk x := by
  obtain ⟨c0, c1, rfl, ⟨rfl, h0⟩, c2, c3, rfl, ⟨rfl, h1⟩, c4, c5, rfl, ⟨rfl, h2⟩, c6, c7, rfl, ⟨rfl, h3⟩, ⟨rfl, h4⟩⟩ := h
  refine ⟨rfl, ?_, ?_, ?_, ?_, ?_⟩
  · have := wf_u32' h0; omega
  · have := wf_u64' h1; omega
  · have := wf_u8 h2; omega
  · have := wf_u32' h3; omega
  · have := wf_u16' h4; omega
theorem wfN {k : IntKind} {n : Nat} (hs : k.signed = false) (h : (n : Int) < 2 ^ k.bits) : (Lit.int k (n : Int)).wf = true := by
  simp only [Lit.wf, IntKind.min, IntKind.max, hs, decide_eq_true_eq, Bool.and_eq_true, Bool.false_eq_true, if_false]
  exact ⟨by omega, by omega⟩
theorem itK_mk {w : World} {x : Itm} (h : ItmOk x) : itK.K w x (itV x).toList := by
  obtain ⟨h1, h2, h3, h4, h5⟩ := h
  exact ⟨[.int .u32 (x.1 : Int)], _, rfl, ⟨rfl, wfN rfl (by show (x.1 : Int) < 4294967296; omega)⟩, [.int .u64 (x.2.1 : Int)], _, rfl, ⟨rfl, wfN rfl (by show (x.2.1 : Int) < 18446744073709551616; omega)⟩,
    [.int .u8 (x.2.2.1 : Int)], _, rfl, ⟨rfl, wfN rfl (by show (x.2.2.1 : Int) < 256; omega)⟩, [.int .u32 (x.2.2.2.1 : Int)], _, rfl, ⟨rfl, wfN rfl (by show (x.2.2.2.1 : Int) < 4294967296; omega)⟩, ⟨rfl, wfN rfl (by show (x.2.2.2.2 : Int) < 65536; omega)⟩⟩
def mayC (a b c d e : Bool) : Bool := (a && b) || (c && d && e)
theorem may_bool (x : Itm) : decide (may x) = mayC (decide (x.2.2.2.2 ≤ 4096)) (decide (x.2.2.1 = 1)) (decide (x.2.2.1 = 2)) (decide (x.2.2.2.1 = 0)) (decide (x.2.2.2.2 = 0)) := by
  rw [Bool.eq_iff_iff, decide_eq_true_iff]
  unfold may mayC
  simp [and_assoc]
theorem beq_cast (n m : Nat) : ((n : Int) == (m : Int)) = decide (n = m) := by
  rw [Bool.eq_iff_iff]
  simp
  omega
set_option maxHeartbeats 2000000 in
theorem may_calls (x : Itm) (w : World) : Calls Tryd.prog 19 #[.agg (itV x)] w fun e w' => e = .returned (.bool (decide (may x))) ∧ Below w.heap.size w w' := by
  obtain ⟨t, b, k, s, d⟩ := x
  have HA := Aside0.mk (alloc_below w (.cells (itV (t, b, k, s, d)) 26))
  have HM := Aside0.mk (may_bool (t, b, k, s, d))
  unfold itV at HA ⊢
  dsimp only at HA HM ⊢
  have q0 := beq_cast k 1
  have q1 := beq_cast k 2
  have q2 := beq_cast s 0
  have q3 := beq_cast d 0
  have q4 : decide ((d : Int) ≤ 4096) = decide (d ≤ 4096) := by rw [decide_eq_decide]; omega
  generalize decide (d ≤ 4096) = a0 at *
  generalize decide (k = 1) = a1 at *
  generalize decide (k = 2) = a2 at *
  generalize decide (s = 0) = a3 at *
  generalize decide (d = 0) = a4 at *
  rw [HM.out]
  clear HM
  cases a0 <;> cases a1 <;> cases a2 <;> cases a3 <;> cases a4
  all_goals
    simp only [Int.natCast_zero, Int.cast_ofNat_Int] at q0 q1 q2 q3
    go_enter Tryd.func19, Tryd.ntmps19
    go_wp2
    go_ret
    exact ⟨rfl, HA.out⟩
theorem not_may_calls (x : Itm) (w : World) : Calls Tryd.prog 18 #[.agg (itV x)] w fun e w' => e = .returned (.bool (!decide (may x))) ∧ Below w.heap.size w w' := by
  have HA := Aside0.mk (alloc_below w (.cells (itV x) 26))
  obtain ⟨b, hb⟩ : ∃ b, decide (may x) = b := ⟨_, rfl⟩
  have HC := Aside0.mk (may_calls x (w.alloc (.cells (itV x) 26)))
  rw [hb] at HC ⊢
  unfold itV at HA HC ⊢
  clear hb
  go_enter Tryd.func18, Tryd.ntmps18
  go_wp2_with fail
  refine HC.out.mono ?_
  rintro e w2 ⟨rfl, hb2⟩
  have HB := Aside0.mk (below_go HA.out hb2)
  clear hb2
  cases b with
  | false =>
    go_wp2
    go_ret
    exact ⟨rfl, HB.out⟩
  | true =>
    go_wp2
    go_ret
    exact ⟨rfl, HB.out⟩
theorem itm_at {w : World} {A : Option Addr} {n : Nat} {xs : List Itm} (h : itK.C w A n xs) (z : Itm) (i : Nat) (hi : i < n) :
    ∃ ad, A = some ad ∧ ItmOk (xs.getD i z) ∧ w.cell? (ad.add (i * 5)) = some (.int .u32 (((xs.getD i z).1 : Nat) : Int)) ∧ w.cell? ⟨(ad.add (i * 5)).block, (ad.add (i * 5)).off + 1, none⟩ = some (.int .u64 (((xs.getD i z).2.1 : Nat) : Int)) ∧ w.cell? ⟨(ad.add (i * 5)).block, (ad.add (i * 5)).off + 2, none⟩ = some (.int .u8 (((xs.getD i z).2.2.1 : Nat) : Int)) ∧
      w.cell? ⟨(ad.add (i * 5)).block, (ad.add (i * 5)).off + 3, none⟩ = some (.int .u32 (((xs.getD i z).2.2.2.1 : Nat) : Int)) ∧ w.cell? ⟨(ad.add (i * 5)).block, (ad.add (i * 5)).off + 4, none⟩ = some (.int .u16 (((xs.getD i z).2.2.2.2 : Nat) : Int)) := by
  obtain ⟨ad, c, e, _, hK, hc⟩ := ReadsRow.get_ h z (i : Int) (by omega) (by omega)
  rw [Int.toNat_natCast] at hc hK
  obtain ⟨rfl, ho⟩ := itK_open hK
  have hsz : itK.sz = 5 := rfl
  rw [hsz] at hc
  exact ⟨ad, e, ho, hc 0 _ rfl, cell_fld (hc 1 _ rfl) (by decide), cell_fld (hc 2 _ rfl) (by decide), cell_fld (hc 3 _ rfl) (by decide), cell_fld (hc 4 _ rfl) (by decide)⟩
end Go.Proofs.YtefgahakbnfdeaaDoor.Rc
