/- slices.Chunk: its closure's contract: the pieces, one behind the other. -/
import Derived.Test.YtmkjglnggkkpeaaEqvPure
import Derived.Test.YtmkjglnggkkpeaaBridge
import Derived.RangeFuncBox
import Derived.Shelf.Abstract
import Derived.Shelf.RegionOpen
import Derived.OwnWalkIn
import Derived.TacticsInMore
import Derived.LoopNIn
import Derived.LoopIn
namespace Go.Proofs.Ytmkjglnggkkpeaa.Dv
open Go.RowKit Go.Shelf Go.Proofs.YtmkjglnggkkpeaaW.PrintWords Go.Proofs.YtmkjglnggkkpeaaW.PrintMore Go.Proofs.Ytmkjglnggkkpeaa.Base Go.Proofs.Ytmkjglnggkkpeaa.Shp
set_option linter.unusedVariables false
set_option linter.unusedSimpArgs false
theorem chunk_calls (A : Option Addr) (n cap : Nat) (b : Int) (hb : 1 ≤ b) (w : World) :
    Calls Try.prog 43 #[.slice A n cap, .int .i64 b] w fun e w' => e = .returned (.func (.func 51) #[] #[.pointer (some ⟨w.heap.size, 0, none⟩), .pointer (some ⟨w.heap.size + 1, 0, none⟩)]) ∧
      (w.alloc (.cells #[.slice A n cap] 32)).alloc (.cells #[.int .i64 b] 3) = w' := by
  have hd : decide (b < 1) = false := decide_eq_false (by omega)
  go_enter Try.func43, Try.ntmps43
  go_wp2
  go_ret
  exact ⟨rfl, rfl⟩
attribute [local go_sem] Oper.semAt_some
attribute [local go_sem] max2_mx min2_mn max_two min_two
theorem cut_lhm {P : Program} (t e : TypeId) {i : TypeInfo} (ht : P.underlying t = some (.slice e)) (hi : P.info? e = some i) (hsz : i.size = 1) (A : Option Addr) (n c lo b : Nat) (hb : 1 ≤ b) (h1 : lo + b ≤ n) (hc : n ≤ c) :
    ∀ W : World, (Instr.slice t (.slice A n c) (some (.int .i64 (lo : Int))) (some (.int .i64 ((lo : Int) + (b : Int)))) (some (.int .i64 ((lo : Int) + (b : Int))))).run P W = .ok (.slice (A.map (·.add lo)) b b) W := by
  intro W
  have hel : P.elem t = e := by simp [Program.elem, ht]
  have hu : P.underlying t = some (.slice (P.elem t)) := by rw [hel]; exact ht
  rw [run_slice_lhm W t A n c hu .i64 .i64 .i64 (lo : Int) _ _ (by omega) (by omega) (by omega) (by omega), hel]
  simp [sizeOf, typeInfo, hi, hsz, sliced, Result.andThen]
  have e1 : ((lo : Int) + (b : Int)).toNat = lo + b := by omega
  rw [e1]
  refine ⟨fun h => by omega, by omega⟩
/-- The boxes of a Chunk's closure lie as they lay. -/
def KpB (Bs : Nat) (W W' : World) : Prop := ∀ k, (k = Bs ∨ k = Bs + 1) → W'.heap[k]? = W.heap[k]?
theorem KpB.trans {Bs : Nat} {A B C : World} (h : KpB Bs A B) (k : KpB Bs B C) : KpB Bs A C := fun j hj => (k j hj).trans (h j hj)
theorem KpB.cell {Bs : Nat} {W W' : World} (h : KpB Bs W W') : W'.cell? ⟨Bs, 0, none⟩ = W.cell? ⟨Bs, 0, none⟩ ∧ W'.cell? ⟨Bs + 1, 0, none⟩ = W.cell? ⟨Bs + 1, 0, none⟩ :=
  ⟨World.cell?_of_block (h Bs (.inl rfl)), World.cell?_of_block (h (Bs + 1) (.inr rfl))⟩
def chunkV (A : Option Addr) (b k : Nat) : Value := .slice (A.map (·.add (k * b))) b b
def firsts (cnt : Nat) (k : Nat) : List (Fin cnt) := (List.finRange cnt).take k
theorem firsts_succ {cnt k : Nat} (h : k < cnt) : firsts cnt k ++ [⟨k, h⟩] = firsts cnt (k + 1) := by
  unfold firsts
  rw [List.take_succ_eq_append_getElem (by simp; exact h)]
  simp
theorem firsts_len {cnt k : Nat} (h : k ≤ cnt) : (firsts cnt k).length = k := by unfold firsts; simp; omega
theorem firsts_all (cnt : Nat) : firsts cnt cnt = List.finRange cnt := by unfold firsts; rw [List.take_of_length_le (by simp)]
set_option maxRecDepth 100000 in
set_option maxHeartbeats 4000000 in
theorem chunk1_in (n l Bs : Nat) (A : Option Addr) (m cap b cnt : Nat) (hb : 1 ≤ b) (hm : m = cnt * b) (hmc : m ≤ cap) (hmm : m ≤ 100000000) (J Jx : List (Fin cnt) → World → Prop) (hJn : ∀ s W W', J s W → W.grownBy W' none → J s W')
    (hY : ∀ pre (x : Fin cnt) W, J pre W → pre.length < cnt → YieldAt Fence.wide (n - 1) Try.prog l #[chunkV A b x.1] W fun e W' =>
      (e = .returned (.bool true) ∧ J (pre ++ [x]) W' ∧ KpB Bs W W') ∨ (e = .returned (.bool false) ∧ Jx (pre ++ [x]) W'))
    (W : World) (hs : W.cell? ⟨Bs, 0, none⟩ = some (.slice A m cap)) (hn : W.cell? ⟨Bs + 1, 0, none⟩ = some (.int .i64 (b : Int))) (h0 : J [] W) :
    CallsIn Fence.wide n Try.prog 51 #[.func (.yield l) #[] #[], .pointer (some ⟨Bs, 0, none⟩), .pointer (some ⟨Bs + 1, 0, none⟩)] W fun e W' => (∃ v, e = .returned v) ∧
      ((∃ ys, ys = List.finRange cnt ∧ J ys W') ∨ (∃ pre : List (Fin cnt), True ∧ Jx pre W')) := by
  have HS := Aside0.mk (And.intro hs hn)
  have HY := Aside0.mk hY
  have HJN := Aside0.mk hJn
  have HM := Aside0.mk hm
  have H0 := Aside0.mk h0
  have hbm : b ≤ 100000000 ∨ cnt = 0 := by
    rcases Nat.eq_zero_or_pos cnt with h | h
    · exact .inr h
    · have : 1 * b ≤ cnt * b := Nat.mul_le_mul_right b h
      omega
  have HBM := Aside0.mk hbm
  clear hm hY h0 hbm hJn
  refine callsIn_of_wp Try.func51 rfl trivial ?_ rfl
  simp only [Try.ntmps51, List.size_toArray, List.length_cons, List.length_nil, Nat.reduceAdd, Nat.reduceSub, Array.replicate_succ, Array.replicate_zero, List.push_toArray, List.append_toArray, List.nil_append, List.cons_append]
  gi_wp2
  clear hs hn
  gi_loopw [4] (fun i wr => ∃ (k t : Nat), i = .int .i64 (t : Int) ∧ t ≤ m ∧ k ≤ cnt ∧ Aside0 (t = k * b) ∧ Aside0 (J (firsts cnt k) wr ∧ KpB Bs W wr)) (fun i _ => m - (intOf i).toNat)
  case atStart => exact ⟨0, 0, rfl, Nat.zero_le _, Nat.zero_le _, ⟨by simp⟩, ⟨H0.out, fun _ _ => rfl⟩⟩
  case round =>
    obtain ⟨k, t, rfl, htm, hkc, HT, HJ⟩ := hrel
    obtain ⟨e1, e2⟩ := HJ.out.2.cell
    have s1 : wr.cell? ⟨Bs, 0, none⟩ = some (.slice A m cap) := e1.trans HS.out.1
    have s2 : wr.cell? ⟨Bs + 1, 0, none⟩ = some (.int .i64 (b : Int)) := e2.trans HS.out.2
    clear e1 e2
    by_cases hlt : t < m
    · have hkk : k < cnt := by
        rcases Nat.lt_or_ge k cnt with h | h
        · exact h
        · have : k = cnt := by omega
          subst this
          rw [← HT.out] at HM
          have := HM.out
          omega
      have htb : t + b ≤ m := by
        rw [HM.out, HT.out, ← Nat.succ_mul]
        exact Nat.mul_le_mul_right b hkk
      have hbb : b ≤ 100000000 := by have := HBM.out; omega
      have hmn : mn (b : Int) (((m - t : Nat) : Int)) = (b : Int) := by unfold mn; split <;> omega
      have hmn2 : mn (b : Int) ((m : Int) - (t : Int)) = (b : Int) := by unfold mn; split <;> omega
      gi_wp2
      refine wpIn_wide.2 ?_
      go_quiet (fail)
      have s1 := pw_cell_below (pw_below_drewN (Below.refl wr.heap.size wr) nq) s1
      have s2 := pw_cell_below (pw_below_drewN (Below.refl wr.heap.size wr) nq) s2
      have HJ2 := Aside0.mk (show J (firsts cnt k) (wr.drewN nq) ∧ KpB Bs W (wr.drewN nq) from ⟨HJN.out _ _ _ HJ.out.1 ⟨rfl, rfl, rfl, Nat.le_refl _, fun _ _ _ => rfl⟩, HJ.out.2⟩)
      generalize wr.drewN nq = wd at *
      obtain ⟨fn, tmps, assign, body, hy, hR⟩ := HY.out _ ⟨k, hkk⟩ wd HJ2.out.1 (by rw [firsts_len hkc]; exact hkk)
      unfold chunkV at hy
      dsimp only at hy
      rw [← HT.out] at hy
      obtain ⟨i0, hi0, hzz⟩ := Option.map_eq_some_iff.1 info_u8
      simp only [Prod.mk.injEq] at hzz
      have hcut := cut_lhm (P := Try.prog) 32 5 Try.underlying32 hi0 hzz.2.1 A m cap t b hb htb hmc
      clear hi0 hzz hmn hmn2
      gi_wp2
      refine ⟨fun h => by simp [Fence.wide] at h, hR.mono ?_⟩
      rintro e W3 (⟨rfl, hJ3, hk3⟩ | ⟨rfl, hJx3⟩)
      · have s2 : W3.cell? ⟨Bs + 1, 0, none⟩ = some (.int .i64 (b : Int)) := (hk3.cell).2.trans s2
        rw [firsts_succ hkk] at hJ3
        have HJ3 := Aside0.mk (And.intro hJ3 (HJ2.out.2.trans hk3))
        clear hJ3 hk3 hy hR hcut
        gi_wp2
        go_roundw
        case rel => exact ⟨k + 1, t + b, by congr 1, htb, hkk, ⟨by rw [HT.out, Nat.succ_mul]⟩, HJ3⟩
        case measure => simp [intOf]; omega
      · gi_wp2
        refine bodyPost_ret (results_none rfl _ _ _) rfl ?_
        exact ⟨⟨_, rfl⟩, .inr ⟨_, trivial, hJx3⟩⟩
    · have hkk : k = cnt := by
        have h1 := HM.out
        have h2 := HT.out
        rcases Nat.lt_or_ge k cnt with h | h
        · have : (k + 1) * b ≤ cnt * b := Nat.mul_le_mul_right b h
          rw [Nat.succ_mul] at this
          omega
        · omega
      have HKK := Aside0.mk hkk
      clear hkk
      gi_wp2
      go_end0
      have h := HJ.out.1
      rw [HKK.out, firsts_all] at h
      exact ⟨⟨_, rfl⟩, .inl ⟨_, rfl, h⟩⟩
theorem chunk_stops (n Bs : Nat) (A : Option Addr) (m cap b cnt : Nat) (hb : 1 ≤ b) (hm : m = cnt * b) (hmc : m ≤ cap) (hmm : m ≤ 100000000) (w : World) (hBs : Bs + 1 < w.heap.size)
    (hs : w.cell? ⟨Bs, 0, none⟩ = some (.slice A m cap)) (hn : w.cell? ⟨Bs + 1, 0, none⟩ = some (.int .i64 (b : Int))) :
    SeqStopsK Fence.wide n Try.prog 51 #[.pointer (some ⟨Bs, 0, none⟩), .pointer (some ⟨Bs + 1, 0, none⟩)] (fun k : Fin cnt => #[chunkV A b k.1]) (KpB Bs) (fun ys => ys = List.finRange cnt) (fun _ => True) cnt w := fun l J Jx W hW hJ _ hY h0 =>
  chunk1_in n l Bs A m cap b cnt hb hm hmc hmm J Jx (fun s W W' hs hg => hJ s W W' none hs hg (fun r e => by cases e)) hY W ((hW.cell (by show Bs < _; omega)).trans hs) ((hW.cell hBs).trans hn) h0
end Go.Proofs.Ytmkjglnggkkpeaa.Dv
