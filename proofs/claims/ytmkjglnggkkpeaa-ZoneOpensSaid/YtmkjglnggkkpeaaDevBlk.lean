/- SameBytes; Block: so many bytes, with a front. -/
import Derived.Test.YtmkjglnggkkpeaaDevOps
import Derived.Laws.BytesArg
namespace Go.Proofs.Ytmkjglnggkkpeaa.Dv
open Go.RowKit Go.Proofs.YtmkjglnggkkpeaaW.PrintWords Go.Proofs.YtmkjglnggkkpeaaW.PrintMore Go.Proofs.Ytmkjglnggkkpeaa.Base Go.Proofs.Ytmkjglnggkkpeaa.Shp
set_option linter.unusedVariables false
set_option linter.unusedSimpArgs false
theorem conv_bytes (w : World) (A : Option Addr) (n c : Nat) (xs : List UInt8) (h : byte.C w A n xs) : (convert 32 9 (.slice A n c)).run Try.prog w = .ok (.string ⟨xs.toArray⟩) w := by
  obtain ⟨hl, hm⟩ := C_len h
  cases A with
  | none =>
    have hx : xs = [] := by
      rcases Nat.eq_zero_or_pos n with h0 | h0
      · exact List.eq_nil_of_length_eq_zero (by omega)
      · obtain ⟨ad, he, _⟩ := h.2.2 h0
        cases he
    subst hx
    exact run_convert_bytes_nil w _ _ Try.underlying32 Try.underlying5 n c _ Try.underlying9
  | some ad =>
    have hld : (loadCells ad n).run Try.prog w = .ok ((xs.map fun b => (b.toNat : Int)).map (Value.int .u8)).toArray w := by
      have := run_loadCells_list (P := Try.prog) w ad ((xs.map fun b => (b.toNat : Int)).map (Value.int .u8)) (fun j v hj => by
        have hjl : j < xs.length := by have := (List.getElem?_eq_some_iff.1 hj).1; simpa using this
        obtain ⟨ad', e, hc⟩ := byte_at h j (by omega)
        injection e with e
        subst e
        rw [hc]
        simp [List.getElem?_eq_getElem hjl] at hj
        subst hj
        simp [List.getD, List.getElem?_eq_getElem hjl])
      simpa [hl] using this
    rw [run_convert_bytes_string w _ _ _ _ n c Try.underlying32 Try.underlying5 Try.underlying9, run_bytesToString w _ n c _ hld, foldl_push_bytes]
    simp [ByteArray.empty, ByteArray.emptyWithCapacity]
    have : ((fun n : Int => UInt8.ofNat n.toNat) ∘ fun b : UInt8 => (b.toNat : Int)) = id := by funext b; simp
    rw [this]
    simp
    rfl
theorem same_calls (A B : Option Addr) (n k c d : Nat) (xs ys : List UInt8) (w : World) (h : byte.C w A n xs) (h2 : byte.C w B k ys) :
    Calls Try.prog 18 #[.slice A n c, .slice B k d] w fun e w' => e = .returned (.bool (decide (xs = ys))) ∧ w = w' := by
  have e1 := conv_bytes w A n c xs h
  have e2 := conv_bytes w B k d ys h2
  clear h h2
  go_enter Try.func18, Try.ntmps18
  go_wp2
  go_ret
  refine ⟨?_, rfl⟩
  show Ending.returned (.bool (xs == ys)) = _
  congr 2
  rw [Bool.eq_iff_iff, beq_iff_eq, decide_eq_true_eq]
end Go.Proofs.Ytmkjglnggkkpeaa.Dv
