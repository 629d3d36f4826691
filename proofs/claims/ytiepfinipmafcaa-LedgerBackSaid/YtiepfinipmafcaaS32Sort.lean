/- slices.Sort at uint32: the sorted list; none. -/
import Derived.Sort.AssemblyPlain
import Derived.Sort.Walk13
import Derived.Sort.WalkA14
import Derived.Test.YtiepfinipmafcaaProg
import Derived.Test.YtiepfinipmafcaaS32Ins
import Derived.Test.YtiepfinipmafcaaS32Part
import Derived.Test.YtiepfinipmafcaaS32Brk
import Derived.Test.YtiepfinipmafcaaS32Piv
import Derived.Test.YtiepfinipmafcaaS32Peq
import Derived.Test.YtiepfinipmafcaaS32Prt
import Derived.Test.YtiepfinipmafcaaS32Pdq
import Derived.Test.YtiepfinipmafcaaS32Len
namespace Go.Proofs.Ytiepfinipmafcaa.S32
open Go.RowKit Go.Sort
set_option linter.unusedVariables false
set_option linter.unusedSimpArgs false
theorem insertionSort_u32_nil (p : Option Addr) (cap : Nat) (w : World) :
    Calls Try.prog 42 #[.slice p 0 cap, .int .i64 0, .int .i64 0] w fun e w' => e = .returned (.tuple #[]) ∧ w' = w := by
  go_enter Try.func42, Try.ntmps42
  go_wp2
  refine wp_loop_rounds 1 ?_
  rw [rounds_succ]
  go_wp2
  go_end0
  exact ⟨rfl, rfl⟩
set_option maxRecDepth 100000 in
theorem pdqsort_u32_nil (p : Option Addr) (cap : Nat) (w : World) :
    Calls Try.prog 40 #[.slice p 0 cap, .int .i64 0, .int .i64 0, .int .i64 0] w fun e w' => e = .returned (.tuple #[]) ∧ w' = w := by
  go_enter Try.func40, Try.ntmps40
  go_wp2
  refine wp_loop_rounds 1 ?_
  rw [rounds_succ]
  go_wp2_with (first | (go_at_call 42; refine (insertionSort_u32_nil p cap _).mono ?_; rintro e w' ⟨rfl, rfl⟩))
  refine bodyPost_ret (results_none rfl _ _ _) rfl ?_
  exact ⟨rfl, rfl⟩
set_option maxRecDepth 100000 in
theorem Sort_u32_nil (p : Option Addr) (cap : Nat) (w : World) :
    Calls Try.prog 37 #[.slice p 0 cap] w fun e w' => e = .returned (.tuple #[]) ∧ w' = w := by
  have hLen : ∀ w, Calls Try.prog 41 #[.int .u64 0] w fun e w' => e = .returned (.int .i64 0) ∧ w' = w := fun w => bits_Len 0 w (by omega) (by omega)
  go_enter Try.func37, Try.ntmps37
  go_wp2_with (first
    | (go_at_call 41; refine (hLen _).mono ?_; rintro e w' ⟨rfl, rfl⟩)
    | (go_at_call 40; refine (pdqsort_u32_nil p cap _).mono ?_; rintro e w' ⟨rfl, rfl⟩))
  go_end0
  exact ⟨rfl, rfl⟩
def pdqWalkP : Prop := ∀ (blk off cap a b limit : Nat) (d : Array Int) (w : World), Holds (Value.int .u32) w blk off d → blk < w.heap.size → a ≤ b → b ≤ d.size → d.size < 4611686018427387904 → limit < 4611686018427387904 → Below ltInt a b d →
  Calls Try.prog 40 #[.slice (some ⟨blk, off, none⟩) d.size cap, .int .i64 a, .int .i64 b, .int .i64 limit] w fun e w' =>
    e = .returned (.tuple #[]) ∧ ∃ n os, w' = grow (putRow (Value.int .u32) (Sort.ahead w n) blk off (Sort.pdq ltInt d a b limit true true)) os
set_option maxRecDepth 100000 in
theorem Sort_u32 (hpdq : pdqWalkP) (blk off cap : Nat) (d : Array Int) (w : World) (hH : Holds (Value.int .u32) w blk off d) (hblk : blk < w.heap.size) (hsz : d.size < 4611686018427387904) :
    Calls Try.prog 37 #[.slice (some ⟨blk, off, none⟩) d.size cap] w fun e w' => e = .returned (.tuple #[]) ∧ ∃ n os, w' = grow (putRow (Value.int .u32) (Sort.ahead w n) blk off (Sort.sort ltInt d)) os := by
  have HH : Hid (Holds (Value.int .u32) w blk off d) := hH
  clear hH
  have hLen : ∀ w, Calls Try.prog 41 #[.int .u64 (d.size : Int)] w fun e w' => e = .returned (.int .i64 (bitsLen d.size : Nat)) ∧ w' = w := fun w => by
    have h := bits_Len (d.size : Int) w (by omega) (by omega)
    rwa [Int.toNat_natCast, bitLen_eq _ (by omega)] at h
  have hk : bitsLen d.size ≤ 62 := (bitsLen_le_iff d.size 62).2 (by omega)
  go_enter Try.func37, Try.ntmps37
  go_wp2_with (first
    | (go_at_call 41; refine (hLen _).mono ?_; rintro e w' ⟨rfl, rfl⟩)
    | (go_at_call 40; refine (hpdq blk off cap 0 d.size (bitsLen d.size) d _ (by exact HH.out) (by exact hblk) (Nat.zero_le _) (Nat.le_refl _) hsz (by omega) (Or.inl rfl)).mono ?_; rintro e w' ⟨rfl, n, os, rfl⟩))
  go_end0
  exact ⟨rfl, n, os, rfl⟩
theorem calleesU : CalleesU where
  ins := insertionSort_u32
  brk := breakPatterns_u32
  piv := choosePivot_u32
  par := partialInsertionSort_u32
  peq := partitionEqualOrdered_u32
  prt := partitionOrdered_u32
theorem plainU : Plain13 where
  swo := swo_ltInt
  ins := insertionSort_holds
  par := partialInsertionSort_holds
  prt := partition_holds _
  peq := partitionEqual_holds _
  pdq := pdq_sorts _
theorem pdqWalkU : pdqWalkP := fun blk off cap a b limit d w hH hb hab hbd hsz hl hB =>
  pdqsort_u32 calleesU plainU (b - a + 1) blk off cap a b limit d w (by omega) hH hb hab hbd hsz hl hB
theorem sort_eq_u (zs : List Int) : Sort.sort ltInt zs.toArray = (zs.mergeSort fun x y => decide (x ≤ y)).toArray := by
  rw [← sortInt zs]
theorem slices_Sort_u32 (blk off cap : Nat) (ss : List Int) (w : World) (hH : Holds (Value.int .u32) w blk off ss.toArray) (hblk : blk < w.heap.size) (hsz : ss.length < 4611686018427387904) :
    Calls Try.prog 37 #[.slice (some ⟨blk, off, none⟩) ss.length cap] w fun e w' =>
      e = .returned (.tuple #[]) ∧ ∃ n os, w' = grow (putRow (Value.int .u32) (Sort.ahead w n) blk off (ss.mergeSort fun x y => decide (x ≤ y)).toArray) os := by
  have h := Sort_u32 pdqWalkU blk off cap ss.toArray w hH hblk (by simpa using hsz)
  rw [sort_eq_u] at h
  simpa using h
end Go.Proofs.Ytiepfinipmafcaa.S32
