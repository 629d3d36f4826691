/- A block's sum, with noughts in its place: rec.sum. -/
import Derived.Test.YtefgahakbnfdeaaDoorRecAll
namespace Go.Proofs.YtefgahakbnfdeaaDoor.Rc
open Go.RowKit Go.Proofs.YtefgahakbnfdeaaDoorW.PrintWords Go.Proofs.YtefgahakbnfdeaaDoorW.PrintMore Go.Proofs.YtefgahakbnfdeaaDoor.Base
set_option linter.unusedVariables false
set_option linter.unusedSimpArgs false
theorem sum_lit (W : World) (ad : Addr) (n c : Nat) (xs : List UInt8) (h : byte.C W (some ad) n xs) (h8 : 8 < n) (hc : n ≤ c) :
    (Kd.slice 5 byte).C (((W.alloc (.cells #[.int .u8 0, .int .u8 0, .int .u8 0, .int .u8 0] 5))).alloc (.cells #[.slice (some ad) 4 c, .slice (some ⟨W.heap.size, 0, none⟩) 4 4, .slice (some ⟨ad.block, ad.off + 8, none⟩) (n - 8) (c - 8)] 27))
      (some ⟨W.heap.size + 1, 0, none⟩) 3 [xs.take 4, [0, 0, 0, 0], xs.drop 8] := by
  have h1 := C_take h 4 (by omega)
  have h2 := C_drop h hc 8 (by omega)
  rw [if_neg (by omega)] at h2
  have e8 : ad.add (8 * byte.sz) = ⟨ad.block, ad.off + 8, none⟩ := by show ad.add 8 = _; simp [Addr.add]
  rw [Option.map_some, e8] at h2
  have h3 : byte.C (W.alloc (.cells #[.int .u8 0, .int .u8 0, .int .u8 0, .int .u8 0] 5)) (some ⟨W.heap.size, 0, none⟩) 4 [0, 0, 0, 0] := C_lit rfl (by exact ⟨rfl, rfl, rfl, rfl, trivial⟩) rfl rfl (by decide)
  have hb := alloc_below W (.cells #[.int .u8 0, .int .u8 0, .int .u8 0, .int .u8 0] 5)
  exact C_lit rfl (by exact ⟨K_bytes (Kd.C_below h1 hb) (by omega), K_bytes h3 (by omega), K_bytes (Kd.C_below h2 hb) (by omega), trivial⟩) (by simp) rfl (by simp)
set_option maxHeartbeats 1000000 in
theorem sum_calls (A : Option Addr) (n c : Nat) (xs : List UInt8) (w : World) (h : byte.C w A n xs) (h8 : 8 < n) (hc : n ≤ c) (hcm : c ≤ 9223372036854775807) :
    Calls Tryd.prog 21 #[.slice A n c] w fun e w' => e = .returned (.int .u32 (sumOf xs : Int)) ∧ Below w.heap.size w w' := by
  obtain ⟨ad, rfl, -⟩ := byte_at h 0 (by omega)
  have HC := Aside0.mk h
  have hmk : ∀ W : World, (Instr.makeSlice 27 (.int .i64 4) (.int .i64 4)).run Tryd.prog W = .ok (.slice (some ⟨W.heap.size, 0, none⟩) 4 4) (W.alloc (.cells #[.int .u8 0, .int .u8 0, .int .u8 0, .int .u8 0] 5)) := fun _ => by kernel_rfl
  have c1 : (4 : Int) ≤ (c : Int) := by omega
  have c2 : (8 : Int) ≤ (n : Int) := by omega
  have c3 : (8 : Int) ≤ (c : Int) := by omega
  have c4 : ¬ c = 8 := by omega
  have HLt := Aside0.mk (Kd.C_below (sum_lit w ad n c xs h h8 hc) (below_drew (Below.refl _ _)))
  have HB := Aside0.mk (below_drew ((alloc_below w (.cells #[.int .u8 0, .int .u8 0, .int .u8 0, .int .u8 0] 5)).alloc (by simp) (.cells #[.slice (some ad) 4 c, .slice (some ⟨w.heap.size, 0, none⟩) 4 4, .slice (some ⟨ad.block, ad.off + 8, none⟩) (n - 8) (c - 8)] 27)))
  clear h
  go_enter Tryd.func21, Tryd.ntmps21
  go_wp2
  go_region_held3 (fun _ => True) (trivial) ((go_at_call 14; (with_reducible refine (Crc.crc_sum_calls _ _ _ _ _ HLt.out).mono ?_); rintro e w8 ⟨rfl, rfl⟩))
  go_wp2
  go_ret
  refine ⟨?_, HB.out⟩
  show Ending.returned (.int .u32 _) = _
  unfold sumOf zr
  simp
end Go.Proofs.YtefgahakbnfdeaaDoor.Rc
