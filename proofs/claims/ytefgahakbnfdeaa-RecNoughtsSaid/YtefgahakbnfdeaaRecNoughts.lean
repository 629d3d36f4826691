/- RecNoughts walks whole. -/
import Derived.Test.YtefgahakbnfdeaaRecUtil
namespace Go.Proofs.Ytefgahakbnfdeaa.Rc
open Go.RowKit Go.Proofs.YtefgahakbnfdeaaW.PrintWords Go.Proofs.YtefgahakbnfdeaaW.PrintMore Go.Proofs.Ytefgahakbnfdeaa.Base
set_option linter.unusedVariables false
set_option linter.unusedSimpArgs false
theorem not_same (n : Nat) (c : UInt8) : ¬ RecIs (List.replicate n c) := fun h => by
  have h1 := rmN_le _ h.1
  rw [List.length_replicate] at h1
  obtain ⟨e0, e1⟩ := recIs_front h
  rw [List.getD_eq_getElem?_getD, List.getElem?_replicate_of_lt (by omega)] at e0 e1
  have : (0x43 : UInt8) = 0x4c := e0.symm.trans e1
  exact absurd this (by decide)
theorem fill_set (n i : Nat) (c : UInt8) (h : i < n) : (List.replicate i c ++ List.replicate (n - i) 0).set i c = List.replicate (i + 1) c ++ List.replicate (n - (i + 1)) 0 := by
  obtain ⟨k, hk⟩ : ∃ k, n - i = k + 1 := ⟨n - i - 1, by omega⟩
  rw [hk, List.set_append, if_neg (by simp), List.length_replicate, Nat.sub_self, List.replicate_succ (n := k), List.set_cons_zero, List.replicate_succ', show n - (i + 1) = k from by omega]
  simp
set_option maxRecDepth 100000 in
set_option maxHeartbeats 2000000 in
theorem rnoughts_walk (w : World) (n : Nat) (hn : n < 65536) (c : UInt8) :
    Calls Try.prog 8 #[.int .u16 (n : Int), .int .u8 (c.toNat : Int)] w fun e w' => e = .returned (.bool true) ∧ Below w.heap.size w w' := by
  by_cases h5 : 5000 < n
  · have hd : decide ((5000 : Int) < (n : Int)) = true := decide_eq_true (by omega)
    clear h5
    go_enter Try.func8, Try.ntmps8
    go_wp2
    go_ret
    exact ⟨rfl, Below.refl _ _⟩
  have hd : decide ((5000 : Int) < (n : Int)) = false := decide_eq_false (by omega)
  have hmk := make_run n (by omega)
  have hwn : IntKind.i64.wrap (n : Int) = (n : Int) := by rw [IntKind.wrap_i64]; omega
  have HM := Aside0.mk (made_own w w.heap.size n (Nat.le_refl _) (by omega))
  have HB := Aside0.mk (alloc_below w (zobj n))
  have HNS := Aside0.mk (not_same n c)
  have hc8 := c.toNat_lt
  go_enter Try.func8, Try.ntmps8
  go_wp2
  clear hmk hwn hd
  obtain ⟨g, hg⟩ : ∃ g, w.heap.size = g := ⟨_, rfl⟩
  obtain ⟨W, hW⟩ : ∃ W, w.alloc (zobj n) = W := ⟨_, rfl⟩
  rw [hW] at HM HB ⊢
  rw [hg] at HM ⊢
  have HG := Aside0.mk hg
  clear hW hg
  go_loopg [6] n (fun g1 v6 wr => ∃ i : Nat, v6 = .int .i64 (i : Int) ∧ i ≤ n ∧ Aside0 (g1 + i = n) ∧ Aside0 (Base.Own wr g (.slice (some ⟨g, 0, none⟩) n n) (List.replicate i c ++ List.replicate (n - i) 0)) ∧ Aside0 (Below w.heap.size w wr))
  case atStart => exact ⟨0, rfl, by omega, ⟨rfl⟩, ⟨by simpa using HM.out⟩, HB⟩
  case round =>
    obtain ⟨i, rfl, hi, HK, HO, HBW⟩ := hrel
    by_cases hlt : i < n
    · have hd0 : decide ((i : Int) < (n : Int)) = true := decide_eq_true (by omega)
      have hd0' : decide (i < n) = true := decide_eq_true hlt
      obtain ⟨g', n', c', he, -, hbg, e0, z0, hO2⟩ := HO.out.store i (by simp; omega) c
      simp only [Value.slice.injEq, Option.some.injEq, Addr.mk.injEq, and_true] at he
      obtain ⟨rfl, -, -⟩ := he
      rw [fill_set n i c hlt] at hO2
      have HO2 := Aside0.mk hO2
      clear hO2 hbg
      go_wp2
      go_roundg (gk - 1)
      case measure => have := HK.out; omega
      case rel => exact ⟨i + 1, by congr 1, by omega, ⟨by have := HK.out; omega⟩, HO2, ⟨HBW.out.setCell (by show w.heap.size ≤ g; have := HG.out; omega) _⟩⟩
    · obtain rfl : i = n := by omega
      have hd0 : decide ((i : Int) < (i : Int)) = false := decide_eq_false (by omega)
      have HOC := Aside0.mk (show byte.C wr (some ⟨g, 0, none⟩) i (List.replicate i c) by have := own_C HO.out; simpa using this)
      go_wp2_with fail
      refine (decode_calls _ i i (List.replicate i c) _ HOC.out (Nat.le_refl _) (by omega) (by omega)).mono ?_
      rintro e w1 ⟨hb1, ⟨his, -⟩ | ⟨-, rfl⟩⟩
      · exact absurd his HNS.out
      have HB1 := Aside0.mk (below_go HBW.out hb1)
      clear hb1
      go_wp2_with fail
      refine (known_calls _).mono ?_
      rintro e w2 ⟨rfl, hb2⟩
      have HB2 := Aside0.mk (below_go (below_alloc HB1.out (.cells #[.int .u64 0, .slice none 0 0] 25)) hb2)
      have r0 : w2.cell? ⟨w1.heap.size, 0, none⟩ = some (.int .u64 0) := pw_cell_below hb2 (by go_simp)
      have r1 : w2.cell? ⟨w1.heap.size, 1, none⟩ = some (.slice none 0 0) := pw_cell_below hb2 (by go_simp)
      clear hb2
      go_wp2
      go_ret
      exact ⟨rfl, HB2.out⟩
end Go.Proofs.Ytefgahakbnfdeaa.Rc
