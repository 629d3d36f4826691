/- known: the chapter's example holds. -/
import Derived.Test.YtmkjglnggkkpeaaDevCrash
namespace Go.Proofs.Ytmkjglnggkkpeaa.Dv
open Go.RowKit Go.Proofs.YtmkjglnggkkpeaaW.PrintWords Go.Proofs.YtmkjglnggkkpeaaW.PrintMore Go.Proofs.Ytmkjglnggkkpeaa.Base Go.Proofs.Ytmkjglnggkkpeaa.Shp
set_option linter.unusedVariables false
set_option linter.unusedSimpArgs false
/-- Block i of the example. -/
def kblk (i : Nat) : List UInt8 := front 64 4 (List.replicate 4 (UInt8.ofNat i))
def kapp (i : Nat) (ps : List Prt) : List Prt := ps.set 3 ((ps.getD 3 ([], 0)).1 ++ kblk i, (ps.getD 3 ([], 0)).2)
def kps : Nat → List Prt
  | 0 => List.replicate 6 ([], 0)
  | 1 => (kapp 1 (List.replicate 6 ([], 0))).mapIdx (fluF 64)
  | i + 2 => kapp (i + 2) (kps (i + 1))
theorem kps_facts (i : Nat) (h : i < 4) : (kps i).length = 6 ∧ ((kps i).getD 3 ([], 0)).1.length = 64 * i := by
  obtain rfl | rfl | rfl | rfl : i = 0 ∨ i = 1 ∨ i = 2 ∨ i = 3 := by omega
  all_goals decide +kernel
def kls : List (Int × Int) := [(0, 0), (0, 0), (0, 0), (0, 3)]
theorem kps_fit : Fit 64 (kps 3) := by
  have h : (kps 3).all (fun p => decide (0 ≤ p.2) && decide (p.2 ≤ ((p.1.length / 64 : Nat) : Int)) && decide (p.1.length ≤ 1000)) = true := by decide +kernel
  intro p hp
  have := List.all_eq_true.1 h p hp
  simp only [Bool.and_eq_true, decide_eq_true_eq] at this
  exact ⟨this.1.1, this.1.2, by omega⟩
theorem kps_end : ((kps 3).mapIdx (crashF 64 kls)).length = 6 ∧ ((((kps 3).mapIdx (crashF 64 kls)).getD 3 ([], 0)).1.length = 128) ∧ ((((kps 3).mapIdx (crashF 64 kls)).getD 3 ([], 0)).2 = 2) ∧
    (((((kps 3).mapIdx (crashF 64 kls)).getD 3 ([], 0)).1.drop 64).take 64).getD 2 0 = 2 ∧ (((((kps 3).mapIdx (crashF 64 kls)).getD 3 ([], 0)).1.drop 64).take 64).getD 3 0 = 0 ∧ (((((kps 3).mapIdx (crashF 64 kls)).getD 3 ([], 0)).1.drop 64).take 64).length = 64 := by decide +kernel
theorem kps_end_small : ∀ p ∈ (kps 3).mapIdx (crashF 64 kls), p.1.length ≤ 100000000 := by
  have h : ((kps 3).mapIdx (crashF 64 kls)).all (fun p => decide (p.1.length ≤ 1000)) = true := by decide +kernel
  intro p hp
  have := List.all_eq_true.1 h p hp
  simp only [decide_eq_true_eq] at this
  omega
theorem kps_small (i : Nat) (h : i < 4) : ∀ p ∈ kps i, p.1.length ≤ 100000000 := by
  have h : (kps i).all (fun p => decide (p.1.length ≤ 1000)) = true := by
    obtain rfl | rfl | rfl | rfl : i = 0 ∨ i = 1 ∨ i = 2 ∨ i = 3 := by omega
    all_goals decide +kernel
  intro p hp
  have := List.all_eq_true.1 h p hp
  simp only [decide_eq_true_eq] at this
  omega
theorem kblk_C (w : World) (i b : Nat) (hi : i < 256) (hb : b = w.heap.size) : byte.C (w.alloc (.cells #[.int .u8 (i : Int), .int .u8 (i : Int), .int .u8 (i : Int), .int .u8 (i : Int)] 5)) (some ⟨b, 0, none⟩) 4 (List.replicate 4 (UInt8.ofNat i)) := by
  have hk : byte.K w (UInt8.ofNat i) [.int .u8 (i : Int)] := by
    show [Value.int .u8 (i : Int)] = [.int .u8 ((UInt8.ofNat i).toNat : Int)]
    rw [UInt8.toNat_ofNat', show i % 2 ^ 8 = i by omega]
  have hE : Each byte w (List.replicate 4 (UInt8.ofNat i)) (#[.int .u8 (i : Int), .int .u8 (i : Int), .int .u8 (i : Int), .int .u8 (i : Int)] : Array Value).toList := ⟨hk, hk, hk, hk, trivial⟩
  exact C_lit (d := byte) rfl hE hb rfl (by simp)
theorem app_only {ps ps' : List Prt} {xs : List UInt8} {e : Ending} (hl : ps.length = 6) (hx : xs.length = 64) {c : Nat} (hc : c < 4) (hp : (ps.getD 3 ([], 0)).1.length = 64 * c) (h : AppR 8 64 ps 3 xs e ps') :
    e = addrV 3 (c : Int) 0 ∧ ps' = ps.set 3 ((ps.getD 3 ([], 0)).1 ++ xs, (ps.getD 3 ([], 0)).2) := by
  have hh : hasB ps.length 3 = true := by rw [hl]; decide
  have e3 : (3 : Int).toNat = 3 := rfl
  rcases h with ⟨h1, _⟩ | ⟨_, _, h1, _⟩ | ⟨_, _, _, he, hp'⟩
  · rcases h1 with h1 | h1
    · rw [hh] at h1; cases h1
    · rw [hx] at h1; exact absurd rfl h1
  · rw [e3, hp] at h1; omega
  · rw [e3, hp, show ((64 * c : Nat) : Int) / 64 = (c : Int) by omega] at he
    exact ⟨he, hp'⟩
theorem Dev.tight {w : World} {xb base : Nat} {ok ok' : Nat → Prop} {z zb b r : Int} {ps : List Prt} {v : Value} (h : Dev w xb base ok z zb b r ps v) (hk : ∀ k, ok k → base ≤ k → k < w.heap.size → ok' k) : Dev w xb base ok' z zb b r ps v :=
  ⟨h.blk, Kd.S_mono (Kd.S_bound h.row) (fun k hh => hk k hh.1 hh.2.1 hh.2.2.1)⟩
theorem kls_C {w : World} {b : Nat} (h : w.heap[b]? = some (.cells #[.int .i64 0, .int .i64 0, .int .i64 0, .int .i64 0, .int .i64 0, .int .i64 0, .int .i64 0, .int .i64 3] 67 (0, 0))) : lossK.C w (some ⟨b, 0, none⟩) 4 kls := by
  refine C_of_blockN (d := lossK) (xs := kls) h rfl ?_ (by decide)
  intro j x hj
  have k0 : lossK.K w (0, 0) [.int .i64 0, .int .i64 0] := ⟨[_], [_], rfl, ⟨rfl, by decide⟩, ⟨rfl, by decide⟩⟩
  have k3 : lossK.K w (0, 3) [.int .i64 0, .int .i64 3] := ⟨[_], [_], rfl, ⟨rfl, by decide⟩, ⟨rfl, by decide⟩⟩
  have hj4 : j < 4 := (List.getElem?_eq_some_iff.1 hj).1
  obtain rfl | rfl | rfl | rfl : j = 0 ∨ j = 1 ∨ j = 2 ∨ j = 3 := by omega
  · injection hj with hj; subst hj; exact k0
  · injection hj with hj; subst hj; exact k0
  · injection hj with hj; subst hj; exact k0
  · injection hj with hj; subst hj; exact k3
set_option maxHeartbeats 4000000 in
theorem known_calls (w : World) : Calls Try.prog 12 #[] w fun e w' => e = .returned (.bool true) ∧ Below w.heap.size w w' := by
  have hA := Aside0.mk (alloc_below w (.cells #[.int .i64 6, .int .i64 8, .int .i64 64, .int .i64 2] 23))
  have hRt : Rt 6 8 64 2 := by decide
  have HRT := Aside0.mk hRt
  clear hRt
  go_enter Try.func12, Try.ntmps12
  go_wp2_with fail
  refine (new_calls 6 8 64 2 ⟨by omega, by omega⟩ ⟨by omega, by omega⟩ ⟨by omega, by omega⟩ ⟨by omega, by omega⟩ _).mono ?_
  rintro e w1 ⟨hcase, hw1⟩
  have HB1 := Aside0.mk (below_go hA.out hw1)
  have HW1 := Aside0.mk (show w.heap.size ≤ (w.alloc (.cells #[.int .i64 6, .int .i64 8, .int .i64 64, .int .i64 2] 23)).heap.size from hA.out.size)
  rcases hcase with ⟨hn, _⟩ | ⟨_, xb, v, rfl, hD, hxb⟩
  · exact absurd HRT.out hn
  have hD' : Dev w1 xb (w.alloc (.cells #[.int .i64 6, .int .i64 8, .int .i64 64, .int .i64 2] 23)).heap.size (fun k => (w.alloc (.cells #[.int .i64 6, .int .i64 8, .int .i64 64, .int .i64 2] 23)).heap.size ≤ k) 6 8 64 2 (kps 0) v := hD
  generalize (w.alloc (.cells #[.int .i64 6, .int .i64 8, .int .i64 64, .int .i64 2] 23)).heap.size = B at *
  have HD := Aside0.mk hD'
  have HBW := Aside0.mk (show B ≤ w1.heap.size from by have := (Array.getElem?_eq_some_iff.1 hD'.blk).1; omega)
  clear hD hD' hw1 hxb hA
  go_wp2_with fail
  go_loopg [3] 4 (fun g v3 wr => ∃ i : Nat, v3 = .int .u8 (i : Int) ∧ 1 ≤ i ∧ i ≤ 4 ∧ Aside0 (g + i = 5) ∧ Aside0 (Dev wr xb B (fun k => B ≤ k) 6 8 64 2 (kps (i - 1)) v ∧ Below B w1 wr))
  case atStart => exact ⟨1, rfl, by omega, by omega, ⟨rfl⟩, ⟨HD.out, Below.refl _ _⟩⟩
  case round =>
    obtain ⟨i, rfl, hi1, hi4, HK, HS⟩ := hrel
    by_cases hlt : i < 4
    · have HC := Aside0.mk (kblk_C wr i wr.heap.size (by omega) rfl)
      have HA := Aside0.mk (alloc_below wr (.cells #[.int .u8 (i : Int), .int .u8 (i : Int), .int .u8 (i : Int), .int .u8 (i : Int)] 5))
      have HDA := Aside0.mk (HS.out.1.below HA.out)
      go_wp2_with fail
      refine (block_calls 64 (by omega) (by omega) _ 4 4 _ _ HC.out).mono ?_
      rintro e w3 ⟨v3, rfl, hO3, hw3⟩
      obtain ⟨A3, n3, c3, rfl, hc3, hC3⟩ := hO3.reads
      have HC3 := Aside0.mk hC3
      have HD3 := Aside0.mk (HDA.out.below hw3)
      have HB3 := Aside0.mk (below_go HA.out hw3)
      have HL3 := Aside0.mk (show (front (64 : Int).toNat (min (64 : Int).toNat 4) (List.replicate 4 (UInt8.ofNat i))).length = 64 from front_len (by decide) (by simp))
      clear hO3 hw3 hc3 hC3
      go_wp2_with fail
      refine (append_calls xb B _ 6 8 64 2 HRT.out _ v 3 ⟨by omega, by omega⟩ A3 n3 c3 _ _ HD3.out (fun k hk => ?_) HC3.out (kps_small _ (by omega))).mono ?_
      · have h1 := HS.out.2.size
        have h2 := HB3.out.size
        have h3 := HBW.out
        show B ≤ k
        omega
      rintro e w4 ⟨ps', hR, hD4, hCh⟩
      obtain ⟨rfl, hps⟩ := app_only (kps_facts (i - 1) (by omega)).1 HL3.out (by omega) (kps_facts (i - 1) (by omega)).2 hR
      have HD4 := Aside0.mk hD4
      have HPS := Aside0.mk hps
      have HB4 := Aside0.mk (hCh.to_below (B := B) (by have h1 := HS.out.2.size; have h2 := HB3.out.size; have h3 := HBW.out; omega) (fun k hk => hk))
      clear hR hD4 hps hCh
      unfold addrV
      by_cases h1 : i = 1
      · subst h1
        go_wp2_with fail
        refine (flush_calls xb B _ 6 8 64 2 (by omega) (by omega) _ v _ (HD4.out.below (alloc_below _ _))).mono ?_
        rintro e w5 ⟨rfl, hD5, hCh5⟩
        have HD5 := Aside0.mk hD5
        have HB5 := Aside0.mk (hCh5.to_below (B := B) (by have h1 := HS.out.2.size; have h2 := HB3.out.size; have h3 := HBW.out; have h4 := HB4.out.size; simp; omega) (fun k hk => hk))
        clear hD5 hCh5
        go_wp2
        go_roundg (gk - 1)
        case measure => have := HK.out; omega
        case rel =>
          refine ⟨2, by congr 1, by omega, by omega, ⟨by have := HK.out; omega⟩, ⟨?_, ?_⟩⟩
          · have := HD5.out
            rw [HPS.out] at this
            exact this
          · exact ((HS.out.2.trans (HB3.out.mono (by have h1 := HS.out.2.size; have h3 := HBW.out; omega))).trans HB4.out).trans (((alloc_below _ _).mono (by have h1 := HS.out.2.size; have h2 := HB3.out.size; have h3 := HBW.out; have h4 := HB4.out.size; omega)).trans HB5.out)
      · have HNE := Aside0.mk h1
        have hne1 : ((i : Int) == 1) = false := by rw [beq_eq_false_iff_ne]; omega
        clear h1
        go_wp2
        go_roundg (gk - 1)
        case measure => have := HK.out; omega
        case rel =>
          have h1 := HNE.out
          refine ⟨i + 1, by congr 1, by omega, by omega, ⟨by have := HK.out; omega⟩, ⟨?_, ?_⟩⟩
          · have := HD4.out.below (alloc_below _ (.cells #[.int .i64 3, .int .i64 ((i - 1 : Nat) : Int)] 40))
            rw [HPS.out] at this
            obtain ⟨j, rfl⟩ : ∃ j, i = j + 2 := ⟨i - 2, by omega⟩
            exact this
          · exact ((HS.out.2.trans (HB3.out.mono (by have h1 := HS.out.2.size; have h3 := HBW.out; omega))).trans HB4.out).trans (((alloc_below _ _).mono (by have h1 := HS.out.2.size; have h2 := HB3.out.size; have h3 := HBW.out; have h4 := HB4.out.size; omega)))
    · obtain rfl : i = 4 := by omega
      have HBWr := Aside0.mk (Nat.le_trans HBW.out HS.out.2.size)
      have HDT := Aside0.mk ((HS.out.1.below (alloc_below wr (.cells #[.int .i64 0, .int .i64 0, .int .i64 0, .int .i64 0, .int .i64 0, .int .i64 0, .int .i64 0, .int .i64 3] 67))))
      have HDT2 := Aside0.mk (HS.out.1.tight (ok' := fun k => B ≤ k ∧ k ≠ wr.heap.size) (fun k hk _ hlt => ⟨hk, by omega⟩) |>.below (alloc_below wr (.cells #[.int .i64 0, .int .i64 0, .int .i64 0, .int .i64 0, .int .i64 0, .int .i64 0, .int .i64 0, .int .i64 3] 67)))
      go_wp2_with fail
      refine (crash_calls xb B _ 6 8 2 64 (by omega) (by omega) _ kps_fit v _ 4 4 kls _ HDT2.out (fun k hk => ?_) (fun w2 hc => kls_C (blk_kept (blk_here rfl) hc.kept (fun h => h.2 rfl)))).mono ?_
      · have h1 := HBWr.out
        simp at hk
        exact ⟨by omega, by omega⟩
      rintro e w5 ⟨rfl, hD5, hCh5⟩
      have HD5 := Aside0.mk hD5
      have HB5 := Aside0.mk ((HS.out.2.trans ((alloc_below wr _).mono HBWr.out)).trans (hCh5.to_below (B := B) (by have := HBWr.out; simp; omega) (fun k hk => hk.1)))
      clear hD5 hCh5
      go_wp2_with fail
      refine (at_calls xb B _ 6 8 64 2 (by omega) (by omega) _ v 3 ⟨by omega, by omega⟩ _ HD5.out).mono ?_
      rintro e w6 ⟨hR6, hw6⟩
      have hR6' : e = .returned (.tuple #[.int .i64 2, .int .i64 2]) := by
        obtain ⟨h1, h2, h3, h4, h5, -⟩ := kps_end
        rcases hR6 with ⟨h6, _⟩ | ⟨_, h6⟩
        · rw [h1] at h6; exact absurd h6 (by decide)
        · rw [show (3 : Int).toNat = 3 from rfl, h2, h3] at h6; exact h6
      subst hR6'
      have HD6 := Aside0.mk (HD5.out.below hw6)
      have HB6 := Aside0.mk (HB5.out.trans (hw6.mono (Nat.le_trans HBW.out HB5.out.size)))
      clear hR6 hw6
      go_wp2_with fail
      refine (read_calls xb B _ 6 8 64 2 HRT.out _ v 3 1 ⟨by omega, by omega⟩ ⟨by omega, by omega⟩ _ HD6.out kps_end_small).mono ?_
      rintro e w7 ⟨⟨u, er, bs, rfl, hR, hO⟩, hw7⟩
      have hRR : er = 0 ∧ bs = (((((kps 3).mapIdx (crashF 64 kls)).getD 3 ([], 0)).1.drop 64).take 64) := by
        obtain ⟨h1, h2, h3, h4, h5, -⟩ := kps_end
        rcases hR with ⟨h6, _⟩ | ⟨_, h6, _⟩ | ⟨_, _, h6, h7⟩
        · rw [h1] at h6; exact absurd h6 (by decide)
        · rw [show (3 : Int).toNat = 3 from rfl, h2] at h6; exact absurd h6 (by decide)
        · exact ⟨h6, h7⟩
      obtain ⟨rfl, hbs⟩ := hRR
      obtain ⟨A7, n7, c7, rfl, hc7, hC7⟩ := hO.reads
      have hn7 : n7 = 64 := by rw [← (C_len hC7).1, hbs]; exact kps_end.2.2.2.2.2
      subst hn7
      obtain ⟨a2, rfl, b2⟩ := byte_at hC7 2 (by omega)
      obtain ⟨a3, e3, b3⟩ := byte_at hC7 3 (by omega)
      injection e3 with e3
      subst e3
      rw [hbs, kps_end.2.2.2.1] at b2
      rw [hbs, kps_end.2.2.2.2.1] at b3
      obtain ⟨g2, rfl⟩ := Kd.R_head hO
      have b2' : w7.cell? ⟨g2, 2, none⟩ = some (.int .u8 2) := by rw [add_plain] at b2; exact b2
      have b3' : w7.cell? ⟨g2, 3, none⟩ = some (.int .u8 0) := by rw [add_plain] at b3; exact b3
      have HB7 := Aside0.mk (HB6.out.trans (hw7.mono (Nat.le_trans HBW.out HB6.out.size)))
      clear hR hw7 hO hC7 hbs b2 b3 hc7
      go_wp2_with fail
      refine (new_calls 0 0 0 0 ⟨by omega, by omega⟩ ⟨by omega, by omega⟩ ⟨by omega, by omega⟩ ⟨by omega, by omega⟩ _).mono ?_
      rintro e w8 ⟨hcase, hw8⟩
      rcases hcase with ⟨_, rfl⟩ | ⟨hr, _⟩
      · have HB8 := Aside0.mk (HB7.out.trans (hw8.mono (Nat.le_trans HBW.out HB7.out.size)))
        clear hw8
        go_wp2
        go_ret
        exact ⟨rfl, HB1.out.trans (HB8.out.mono HW1.out)⟩
      · exact absurd hr (by decide)
end Go.Proofs.Ytmkjglnggkkpeaa.Dv
