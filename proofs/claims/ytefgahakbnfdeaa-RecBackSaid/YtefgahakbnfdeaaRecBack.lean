/- RecBack walks whole. -/
import Derived.Test.YtefgahakbnfdeaaRecSame
import Derived.Test.YtefgahakbnfdeaaRecOne
import Derived.Test.YtefgahakbnfdeaaRecOpn
namespace Go.Proofs.Ytefgahakbnfdeaa.Rc
open Go.RowKit Go.Proofs.YtefgahakbnfdeaaW.PrintWords Go.Proofs.YtefgahakbnfdeaaW.PrintMore Go.Proofs.Ytefgahakbnfdeaa.Base
set_option linter.unusedVariables false
set_option linter.unusedSimpArgs false
attribute [local go_sem] max2_mx max_two
/-- A block of some power. -/
theorem shl64 (p : Nat) : ∃ m : Nat, m = 64 * 2 ^ (p % 7) ∧ (m = 64 ∨ m = 128 ∨ m = 256 ∨ m = 512 ∨ m = 1024 ∨ m = 2048 ∨ m = 4096) := by
  refine ⟨_, rfl, ?_⟩
  have h : p % 7 = 0 ∨ p % 7 = 1 ∨ p % 7 = 2 ∨ p % 7 = 3 ∨ p % 7 = 4 ∨ p % 7 = 5 ∨ p % 7 = 6 := by omega
  rcases h with h | h | h | h | h | h | h <;> rw [h] <;> decide
theorem itK_oks {w : World} {A : Option Addr} {n : Nat} {l : List Itm} (h : itK.C w A n l) : ∀ x ∈ l, ItmOk x := by
  intro x hx
  obtain ⟨i, hi, rfl⟩ := List.mem_iff_getElem.1 hx
  obtain ⟨_, _, hok, _⟩ := itm_at h (0, 0, 0, 0, 0) i (by have := h.1; omega)
  rw [List.getD_eq_getElem?_getD, List.getElem?_eq_getElem hi] at hok
  exact hok
set_option maxRecDepth 100000 in
set_option maxHeartbeats 4000000 in
theorem rback_walk (w : World) (q : Nat) (hq : q < 18446744073709551616) (A : Option Addr) (n c : Nat) (l : List Itm) (h : itK.C w A n l) (p : Nat) (hp : p < 256) (k : Int) (hk : -9223372036854775808 ≤ k ∧ k ≤ 9223372036854775807) (x : UInt8) :
    Calls Try.prog 5 #[.agg #[.int .u64 (q : Int), .slice A n c], .int .u8 (p : Int), .int .i64 k, .int .u8 (x.toNat : Int)] w fun e w' => e = .returned (.bool true) ∧ Below w.heap.size w w' := by
  obtain ⟨hl, hm⟩ := C_len h
  have HL := Aside0.mk hl
  have HC := Aside0.mk h
  have HA := Aside0.mk (alloc_below w (.cells #[.int .u64 (q : Int), .slice A n c] 25))
  clear h hl
  obtain ⟨m, hm1, hm2⟩ := shl64 p
  have HSH := Aside0.mk (show wrap64 (64 * 2 ^ (p % 7)) = (m : Int) by
    have e : ((64 * 2 ^ (p % 7) : Nat) : Int) = 64 * 2 ^ (p % 7) := by simp
    rw [← e, ← hm1]
    unfold wrap64
    omega)
  have HM2 := Aside0.mk hm2
  have hm4096 : m ≤ 4096 := by omega
  clear hm1 hm2
  by_cases h3 : 300 < n
  · have hd : decide ((300 : Int) < (n : Int)) = true := decide_eq_true (by omega)
    have hd' : decide (300 < n) = true := decide_eq_true (by omega)
    clear h3
    go_enter Try.func5, Try.ntmps5
    go_wp2_with fail
    refine (known_calls _).mono ?_
    rintro e w1 ⟨rfl, hb1⟩
    have HB1 := Aside0.mk (below_go HA.out hb1)
    clear hb1
    go_wp2
    go_ret
    exact ⟨rfl, HB1.out⟩
  have hd : decide ((300 : Int) < (n : Int)) = false := decide_eq_false (by omega)
  have hd' : decide (300 < n) = false := decide_eq_false (by omega)
  have hn3 : n ≤ 300 := by omega
  clear h3
  go_enter Try.func5, Try.ntmps5
  go_wp2_with fail
  rw [HSH.out]
  refine (known_calls _).mono ?_
  rintro e w1 ⟨rfl, hb1⟩
  have HB1 := Aside0.mk (below_go HA.out hb1)
  have hr : w1.heap[w.heap.size]? = some (.cells #[.int .u64 (q : Int), .slice A n c] 25 (0, 0)) := blk_old hb1 (blk_here rfl)
  obtain ⟨g, hg⟩ : ∃ g, w.heap.size = g := ⟨_, rfl⟩
  rw [hg] at hr ⊢
  have r0 : w1.cell? ⟨g, 0, none⟩ = some (.int .u64 (q : Int)) := by simp [World.cell?, hr]
  have r1 : w1.cell? ⟨g, 1, none⟩ = some (.slice A n c) := by simp [World.cell?, hr]
  have HR := Aside0.mk hr
  have HG := Aside0.mk hg
  clear hb1 hd hd' hr hg
  go_wp2_with fail
  refine (encode_calls q hq A n c l (m : Int) (by omega) _ (Kd.C_below HC.out HB1.out)).mono ?_
  rintro e w2 ⟨hb2, ⟨hok, v, rfl, hO⟩ | ⟨hno, rfl⟩⟩
  · rw [Int.toNat_natCast] at hO
    have hok' := hok
    unfold ROk at hok'
    rw [rmZ_nat] at hok'
    have hrk : RecOk q l m := ⟨hok'.1, by omega, hok'.2.2⟩
    have HRK := Aside0.mk hrk
    have hml : (enc q l m).length = m := enc_len _ _ _ (by have := rmN_le m (by have := hrk.1; have := hrk.2.1; omega); have := hrk.2.1; omega)
    have hm64 : 64 ≤ m := by have := HM2.out; omega
    obtain ⟨bb, hbb⟩ : ∃ bb, enc q l m = bb := ⟨_, rfl⟩
    rw [hbb] at hO hml
    have HBE := Aside0.mk hbb
    have HBL := Aside0.mk hml
    obtain ⟨g5, c5, rfl, hg5, hg5', hc5, hc5m⟩ := own_form hO (by omega)
    rw [hml] at hO hc5 ⊢
    have HO := Aside0.mk (show Base.Own w2 w.heap.size (.slice (some ⟨g5, 0, none⟩) m c5) bb from Kd.R_lower hO HB1.out.size)
    have HG5 := Aside0.mk (show w1.heap.size ≤ g5 ∧ g5 < w2.heap.size from ⟨hg5, hg5'⟩)
    have HIL := Aside0.mk (itK_oks HC.out)
    have HIS := Aside0.mk (show RecIs bb by rw [← hbb]; exact RecIs.of_enc hq (itK_oks HC.out) hrk)
    have HRD := Aside0.mk (show sqN bb = q ∧ itN bb = l by rw [← hbb]; obtain ⟨_, _, h3, _, h5, _⟩ := read_enc q l m hq (by have := HL.out; omega) (itK_oks HC.out); exact ⟨h3, h5⟩)
    have HB2 := Aside0.mk (below_go HB1.out hb2)
    have HR2 := Aside0.mk (blk_old hb2 HR.out)
    clear hb2 hok hok' hrk hml hbb hO hg5 hg5' r0 r1
    go_wp2_with fail
    refine (decode_calls _ m c5 bb _ (own_C HO.out) hc5 hc5m (by omega)).mono ?_
    rintro e w3 ⟨hb3, ⟨-, v3, rfl, hI⟩ | ⟨hno, -⟩⟩
    case inr => exact absurd HIS.out hno
    rw [HRD.out.1]
    rw [HRD.out.2] at hI
    obtain ⟨Ai, ni, ci, rfl⟩ : ∃ Ai ni ci, v3 = .slice Ai ni ci := by obtain ⟨Ai, ci, hv⟩ := Kd.R_slice hI; exact ⟨Ai, _, ci, hv⟩
    have HB3 := Aside0.mk (below_go HB2.out hb3)
    have HO3 := Aside0.mk (HO.out.below hb3)
    have HI3 := Aside0.mk hI
    have HR3 := Aside0.mk (blk_old hb3 HR2.out)
    clear hb3 hI
    obtain ⟨at_, hat, hatm⟩ : ∃ at_ : Nat, (mx k 0).tmod (m : Int) = (at_ : Int) ∧ at_ < m := by
      obtain ⟨u, hu⟩ := Int.eq_ofNat_of_zero_le (mx0 k hk.2).1
      refine ⟨u % m, ?_, Nat.mod_lt _ (by omega)⟩
      rw [hu, Int.ofNat_tmod]
    obtain ⟨g', n', c', he, -, -, e0, z0, hO4⟩ := (HO3.out.below (alloc_below w3 (.cells #[.int .u64 (q : Int), .slice Ai ni ci] 25))).store at_ (by rw [HBL.out]; exact hatm) x
    simp only [Value.slice.injEq, Option.some.injEq, Addr.mk.injEq, and_true] at he
    obtain ⟨rfl, -, -⟩ := he
    obtain ⟨y, hy⟩ : ∃ y, bb.getD at_ 0 = y := ⟨_, rfl⟩
    rw [hy] at e0
    have HY := Aside0.mk hy
    have HO4 := Aside0.mk hO4
    have HAT := Aside0.mk hatm
    have a1 : (0 : Int) ≤ (at_ : Int) := by omega
    have a2 : (at_ : Int) < (m : Int) := by omega
    obtain ⟨yx, hyx⟩ : ∃ yx, ((y.toNat : Int) == (x.toNat : Int)) = yx := ⟨_, rfl⟩
    have HYX := Aside0.mk hyx
    clear hO4 hy
    go_wp2_with fail
    obtain ⟨W4, hW4⟩ : ∃ W4, (w3.alloc (.cells #[.int .u64 (q : Int), .slice Ai ni ci] 25)).setCell ⟨g5, at_, none⟩ (.int .u8 (x.toNat : Int)) = W4 := ⟨_, rfl⟩
    obtain ⟨gs, hgs⟩ : ∃ gs, w3.heap.size = gs := ⟨_, rfl⟩
    obtain ⟨cells5, hc5b⟩ := Kd.R_typed HO3.out g5 rfl
    have hlt5 : g5 < w3.heap.size := (Array.getElem?_eq_some_iff.1 hc5b).1
    have hg5lo : g < w1.heap.size := (Array.getElem?_eq_some_iff.1 HR.out).1
    have hge5 : g ≠ g5 := by have := HG5.out.1; omega
    have HB4 := Aside0.mk (show Below w.heap.size w W4 by rw [← hW4]; exact (below_alloc HB3.out _).setCell (by show w.heap.size ≤ g5; have := HG5.out.1; have := HB1.out.size; omega) _)
    have HR4 := Aside0.mk (show W4.heap[g]? = some (.cells #[.int .u64 (q : Int), .slice A n c] 25 (0, 0)) by rw [← hW4]; exact (Below.heap_setCell _ ⟨g5, at_, none⟩ _ g hge5).trans (blk_past HR3.out))
    have HS4 := Aside0.mk (show W4.heap[gs]? = some (.cells #[.int .u64 (q : Int), .slice Ai ni ci] 25 (0, 0)) by rw [← hW4, ← hgs]; exact (Below.heap_setCell _ ⟨g5, at_, none⟩ _ _ (by show w3.heap.size ≠ g5; omega)).trans (blk_here rfl))
    have HI4 := Aside0.mk (show itK.C W4 Ai ni l by rw [← hW4]; exact (ownI_C (Kd.R_set (Kd.R_below HI3.out (alloc_below w3 (.cells #[.int .u64 (q : Int), .slice Ai ni ci] 25))) (blk_past hc5b) (by intro t ht; rw [List.mem_singleton.1 ht]; decide) at_ _)).1)
    rw [hW4] at HO4 ⊢
    rw [hgs]
    have HNN := Aside0.mk (show RecIs (bb.set at_ x) ↔ y = x by
      constructor
      · intro h2
        rw [← HY.out]
        exact one_byte HIS.out at_ (by rw [HBL.out]; exact HAT.out) x h2
      · intro e
        have : bb.set at_ x = bb := by
          rw [← e, ← HY.out, List.getD_eq_getElem?_getD, List.getElem?_eq_getElem (by rw [HBL.out]; exact HAT.out)]
          exact List.set_getElem_self _
        rw [this]; exact HIS.out)
    clear hW4 hgs hc5b hlt5 hg5lo hge5 e0 z0 a1 a2 hat hyx
    refine (decode_calls _ m c5 (bb.set at_ x) _ (own_C HO4.out) hc5 hc5m (by omega)).mono ?_
    rintro e w5 ⟨hb5, ⟨his, v5, rfl, hI5⟩ | ⟨hno, rfl⟩⟩
    · obtain rfl : yx = true := by rw [← HYX.out, HNN.out.1 his]; exact beq_self_eq_true _
      obtain ⟨A5, n5, k5, rfl⟩ : ∃ Ai ni ci, v5 = .slice Ai ni ci := by obtain ⟨Ai, ci, hv⟩ := Kd.R_slice hI5; exact ⟨Ai, _, ci, hv⟩
      obtain ⟨sq5, hsq5⟩ : ∃ s, sqN (bb.set at_ x) = s := ⟨_, rfl⟩
      rw [hsq5]
      have hb6 : Below W4.heap.size W4 (w5.alloc (.cells #[.int .u64 (sq5 : Int), .slice A5 n5 k5] 25)) := below_alloc hb5 _
      have hr := blk_old hb5 HR4.out
      have hs := blk_old hb5 HS4.out
      have r0 := pw_cell_below (alloc_below w5 (.cells #[.int .u64 (sq5 : Int), .slice A5 n5 k5] 25)) (show w5.cell? ⟨g, 0, none⟩ = some (.int .u64 (q : Int)) by simp [World.cell?, hr])
      have r1 := pw_cell_below (alloc_below w5 (.cells #[.int .u64 (sq5 : Int), .slice A5 n5 k5] 25)) (show w5.cell? ⟨g, 1, none⟩ = some (.slice A n c) by simp [World.cell?, hr])
      have s0 := pw_cell_below (alloc_below w5 (.cells #[.int .u64 (sq5 : Int), .slice A5 n5 k5] 25)) (show w5.cell? ⟨gs, 0, none⟩ = some (.int .u64 (q : Int)) by simp [World.cell?, hs])
      have s1 := pw_cell_below (alloc_below w5 (.cells #[.int .u64 (sq5 : Int), .slice A5 n5 k5] 25)) (show w5.cell? ⟨gs, 1, none⟩ = some (.slice Ai ni ci) by simp [World.cell?, hs])
      have HB6 := Aside0.mk (below_go HB4.out hb6)
      have HC6 := Aside0.mk (Kd.C_below HC.out HB6.out)
      have HI6 := Aside0.mk (Kd.C_below HI4.out hb6)
      clear hb5 hb6 hr hs hI5 his hsq5
      go_wp2_with fail
      refine (rsame_calls q q A Ai n ni c ci l l _ HC6.out HI6.out).mono ?_
      rintro e w7 ⟨rfl, hb7⟩
      rw [decide_eq_true ⟨rfl, rfl⟩]
      have HB7 := Aside0.mk (below_go HB6.out hb7)
      clear hb7
      go_wp2
      go_ret
      exact ⟨rfl, HB7.out⟩
    · obtain rfl : yx = false := by
        rw [← HYX.out, beq_eq_false_iff_ne]
        intro hh
        exact hno (HNN.out.2 (UInt8.toNat_inj.1 (by omega)))
      have hb6 : Below W4.heap.size W4 (w5.alloc (.cells #[.int .u64 0, .slice none 0 0] 25)) := below_alloc hb5 _
      have hr := blk_old hb5 HR4.out
      have hs := blk_old hb5 HS4.out
      have r0 := pw_cell_below (alloc_below w5 (.cells #[.int .u64 0, .slice none 0 0] 25)) (show w5.cell? ⟨g, 0, none⟩ = some (.int .u64 (q : Int)) by simp [World.cell?, hr])
      have r1 := pw_cell_below (alloc_below w5 (.cells #[.int .u64 0, .slice none 0 0] 25)) (show w5.cell? ⟨g, 1, none⟩ = some (.slice A n c) by simp [World.cell?, hr])
      have s0 := pw_cell_below (alloc_below w5 (.cells #[.int .u64 0, .slice none 0 0] 25)) (show w5.cell? ⟨gs, 0, none⟩ = some (.int .u64 (q : Int)) by simp [World.cell?, hs])
      have s1 := pw_cell_below (alloc_below w5 (.cells #[.int .u64 0, .slice none 0 0] 25)) (show w5.cell? ⟨gs, 1, none⟩ = some (.slice Ai ni ci) by simp [World.cell?, hs])
      have HB6 := Aside0.mk (below_go HB4.out hb6)
      have HC6 := Aside0.mk (Kd.C_below HC.out HB6.out)
      have HI6 := Aside0.mk (Kd.C_below HI4.out hb6)
      clear hb5 hb6 hr hs hno
      go_wp2_with fail
      refine (rsame_calls q q A Ai n ni c ci l l _ HC6.out HI6.out).mono ?_
      rintro e w7 ⟨rfl, hb7⟩
      rw [decide_eq_true ⟨rfl, rfl⟩]
      have HB7 := Aside0.mk (below_go HB6.out hb7)
      clear hb7
      go_wp2
      go_ret
      exact ⟨rfl, HB7.out⟩
  · have HB2 := Aside0.mk (below_go HB1.out hb2)
    clear hb2 r0 r1
    go_wp2
    go_ret
    exact ⟨rfl, HB2.out⟩
theorem rback_row (w : World) (s : Nat × List Itm × Option Addr × Nat × Nat) (h : RecArg w s) (p : Nat) (hp : p < 256) (k : Int) (hk : -9223372036854775808 ≤ k ∧ k ≤ 9223372036854775807) (x : UInt8) :
    Calls Try.prog 5 #[.agg #[.int .u64 (s.1 : Int), .slice s.2.2.1 s.2.2.2.1 s.2.2.2.2], .int .u8 (p : Int), .int .i64 k, .int .u8 (x.toNat : Int)] w fun e w' => e = .returned (.bool true) ∧ Below w.heap.size w w' :=
  rback_walk w s.1 h.1 _ _ _ s.2.1 h.2 p hp k hk x
end Go.Proofs.Ytefgahakbnfdeaa.Rc
