/- Block: so many bytes, with a front. -/
import Derived.Test.YtmkjglnggkkpeaaDevBlk
namespace Go.Proofs.Ytmkjglnggkkpeaa.Dv
open Go.RowKit Go.Proofs.YtmkjglnggkkpeaaW.PrintWords Go.Proofs.YtmkjglnggkkpeaaW.PrintMore Go.Proofs.Ytmkjglnggkkpeaa.Base Go.Proofs.Ytmkjglnggkkpeaa.Shp
set_option linter.unusedVariables false
set_option linter.unusedSimpArgs false
/-- The front of f, then noughts: i bytes of f so far. -/
def front (n i : Nat) (f : List UInt8) : List UInt8 := f.take i ++ List.replicate (n - i) 0
theorem front_len {n i : Nat} {f : List UInt8} (h1 : i ≤ n) (h2 : i ≤ f.length) : (front n i f).length = n := by unfold front; rw [List.length_append, List.length_take, List.length_replicate]; omega
theorem front_set {n i : Nat} {f : List UInt8} (h1 : i < n) (h2 : i < f.length) : (front n i f).set i (f.getD i 0) = front n (i + 1) f := by
  unfold front
  have hl : (f.take i).length = i := by rw [List.length_take]; omega
  rw [List.set_append_right _ _ (by omega), hl, Nat.sub_self, List.take_succ_eq_append_getElem h2, List.append_assoc]
  congr 1
  obtain ⟨k, hk⟩ : ∃ k, n - i = k + 1 := ⟨n - i - 1, by omega⟩
  rw [hk, show n - (i + 1) = k by omega, List.replicate_succ, List.set_cons_zero, List.getD_eq_getElem?_getD, List.getElem?_eq_getElem h2]
  rfl
set_option maxRecDepth 100000 in
theorem block_calls (n : Int) (h0 : 0 ≤ n) (hn : n ≤ 100000000) (A : Option Addr) (m c : Nat) (f : List UInt8) (w : World) (h : byte.C w A m f) :
    Calls Try.prog 15 #[.int .i64 n, .slice A m c] w fun e w' => ∃ v, e = .returned v ∧ Own w' w.heap.size v (front n.toNat (min n.toNat m) f) ∧ Below w.heap.size w w' := by
  obtain ⟨k, rfl⟩ : ∃ k : Nat, n = (k : Int) := ⟨n.toNat, by omega⟩
  rw [Int.toNat_natCast]
  obtain ⟨hlen, hmax⟩ := C_len h
  have H := Aside0.mk h
  have HL := Aside0.mk hlen
  clear h hlen
  go_enter Try.func15, Try.ntmps15
  go_wp2_with (at_make; go_loud (refine Kd.R_make byte (w0 := w) w.heap.size 5 rfl rfl 32 (.tmp 7) (.tmp 7) rfl (k : Int) rfl rfl Try.underlying32 (.int .u8 0) 1 info_u8 rfl (by decide) (by decide) (0 : UInt8) (ok := anyB) (okp := fun _ => False) rfl (fun _ h => h.elim) trivial (by omega) (by simp; omega) (Below.refl _ _) (Nat.le_refl _) ?_); intro v1 w1 hR hB _ _; have HR := Aside0.mk hR; have HB := Aside0.mk hB; clear hR hB)
  have HO0 := Aside0.mk (show Own w1 w.heap.size v1 (front k 0 f) from by
    have := HR.out
    rw [Int.toNat_natCast] at this
    exact this)
  obtain ⟨A1, n1, c1, rfl, hc1, hC1⟩ := Own.reads HO0.out
  obtain ⟨hn1, _⟩ := C_len hC1
  rw [front_len (Nat.zero_le _) (Nat.zero_le _)] at hn1
  subst hn1
  clear hC1 HR
  go_loopg [6] k (fun g v6 wr => ∃ i : Nat, v6 = .int .i64 (i : Int) ∧ i ≤ k ∧ i ≤ m ∧ Aside0 (g + i = k) ∧ Aside0 (Own wr w.heap.size (.slice A1 k c1) (front k i f) ∧ Below w.heap.size w wr))
  case atStart => exact ⟨0, rfl, by omega, by omega, ⟨rfl⟩, ⟨HO0.out, HB.out⟩⟩
  case round =>
    obtain ⟨i, rfl, hi, him, HK, HS⟩ := hrel
    by_cases hlt : i < k
    · by_cases hlm : i < m
      · obtain ⟨g, n2, cap2, he, hnn, hg, hcell, hfr, hst⟩ := HS.out.1.store i (by rw [front_len hi (by rw [HL.out]; exact him)]; exact hlt) (f.getD i 0)
        simp only [Value.slice.injEq] at he
        obtain ⟨rfl, rfl, rfl⟩ := he
        obtain ⟨ad, rfl, hb⟩ := byte_at (Kd.C_below H.out HS.out.2) i hlm
        have HST := Aside0.mk (show Own _ w.heap.size (.slice (some ⟨g, 0, none⟩) k c1) (front k (i + 1) f) from by rw [← front_set hlt (by rw [HL.out]; exact hlm)]; exact hst)
        have HBB := Aside0.mk (Below.setCell HS.out.2 (p := ⟨g, i, none⟩) hg (.int .u8 ((f.getD i 0).toNat : Int)))
        clear hst hnn
        obtain ⟨x, hx⟩ : ∃ x, f.getD i 0 = x := ⟨_, rfl⟩
        obtain ⟨y, hy⟩ : ∃ y, ((front k i f).getD i 0) = y := ⟨_, rfl⟩
        rw [hx] at HST HBB hb
        rw [hy] at hcell
        clear hx hy
        go_wp2
        go_roundg (gk - 1)
        case measure => have := HK.out; omega
        case rel => exact ⟨i + 1, by congr 1, by omega, by omega, ⟨by have := HK.out; omega⟩, ⟨HST.out, HBB.out⟩⟩
      · have hmi : min k m = i := by omega
        have HM := Aside0.mk hmi
        clear hmi
        go_wp2
        go_ret
        exact ⟨_, rfl, by rw [HM.out]; exact HS.out.1, HS.out.2⟩
    · have hmi : min k m = i := by omega
      have HM := Aside0.mk hmi
      clear hmi
      go_wp2
      go_ret
      exact ⟨_, rfl, by rw [HM.out]; exact HS.out.1, HS.out.2⟩
end Go.Proofs.Ytmkjglnggkkpeaa.Dv
