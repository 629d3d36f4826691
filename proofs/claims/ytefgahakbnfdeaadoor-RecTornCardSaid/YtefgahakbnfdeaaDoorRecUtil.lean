/- Same bytes, own bytes; the chapter's examples. -/
import Derived.Test.YtefgahakbnfdeaaDoorRecDec
import Derived.Laws.BytesArg
import Derived.Handy
namespace Go.Proofs.YtefgahakbnfdeaaDoor.Rc
open Go.RowKit Go.Proofs.YtefgahakbnfdeaaDoorW.PrintWords Go.Proofs.YtefgahakbnfdeaaDoorW.PrintMore Go.Proofs.YtefgahakbnfdeaaDoor.Base
set_option linter.unusedVariables false
set_option linter.unusedSimpArgs false
theorem conv_bytes (w : World) (A : Option Addr) (n c : Nat) (xs : List UInt8) (h : byte.C w A n xs) : (convert 27 9 (.slice A n c)).run Tryd.prog w = .ok (.string ⟨xs.toArray⟩) w := by
  obtain ⟨hl, hm⟩ := C_len h
  cases A with
  | none =>
    have hx : xs = [] := by
      rcases Nat.eq_zero_or_pos n with h0 | h0
      · exact List.eq_nil_of_length_eq_zero (by omega)
      · obtain ⟨ad, he, _⟩ := h.2.2 h0
        cases he
    subst hx
    exact run_convert_bytes_nil w _ _ Tryd.underlying27 Tryd.underlying5 n c _ Tryd.underlying9
  | some ad =>
    have hld : (loadCells ad n).run Tryd.prog w = .ok ((xs.map fun b => (b.toNat : Int)).map (Value.int .u8)).toArray w := by
      have := run_loadCells_list (P := Tryd.prog) w ad ((xs.map fun b => (b.toNat : Int)).map (Value.int .u8)) (fun j v hj => by
        have hjl : j < xs.length := by have := (List.getElem?_eq_some_iff.1 hj).1; simpa using this
        obtain ⟨ad', e, hc⟩ := byte_at h j (by omega)
        injection e with e
        subst e
        rw [hc]
        simp [List.getElem?_eq_getElem hjl] at hj
        subst hj
        simp [List.getD, List.getElem?_eq_getElem hjl])
      simpa [hl] using this
    rw [run_convert_bytes_string w _ _ _ _ n c Tryd.underlying27 Tryd.underlying5 Tryd.underlying9, run_bytesToString w _ n c _ hld, foldl_push_bytes]
    simp [ByteArray.empty, ByteArray.emptyWithCapacity]
    have : ((fun n : Int => UInt8.ofNat n.toNat) ∘ fun b : UInt8 => (b.toNat : Int)) = id := by funext b; simp
    rw [this]
    simp
    rfl

theorem lentb_calls (A : Option Addr) (n cap : Nat) (xs : List UInt8) (hn : n ≤ 140737488355328) (w : World) (h : byte.C w A n xs) :
    Calls Tryd.prog 10 #[.slice A n cap] w fun e w' => ∃ v, e = .returned v ∧ Base.Own w' w.heap.size v xs ∧ Below w.heap.size w w' := by
  have H := Aside0.mk h
  clear h
  go_enter Tryd.func10, Tryd.ntmps10
  go_wp2_with (at_builtin; refine app_row (w0 := w) w.heap.size (.tmp 4) (.tmp 5) rfl rfl _ [] xs A n cap rfl rfl (Own.nil _ _) H.out (Below.refl _ _) (Nat.le_refl _) (by simp; omega) ?_; intro v1 w1 hO hB _; have HO1 := Aside0.mk hO; have HB1 := Aside0.mk hB; clear hO hB)
  go_ret
  exact ⟨_, rfl, HO1.out, HB1.out⟩
theorem not_zeros : ¬ RecIs (List.replicate 64 0) := fun h => by
  have := h.2.1
  revert this
  decide
/-- So many noughts. -/
def zobj (m : Nat) : Obj := .cells (madeCells #[.int .u8 0] m) 5
theorem make_run (m : Nat) (hm : m ≤ 281474976710656) : ∀ W : World, (Instr.makeSlice 27 (.int .i64 (m : Int)) (.int .i64 (m : Int))).run Tryd.prog W = .ok (.slice (some ⟨W.heap.size, 0, none⟩) m m) (W.alloc (zobj m)) :=
  print_make 27 5 .u8 1 Tryd.underlying27 info_u8 (by decide) m (by omega)
theorem made_own (W : World) (base m : Nat) (hb : base ≤ W.heap.size) (hm : m ≤ 9223372036854775807) : Base.Own (W.alloc (zobj m)) base (.slice (some ⟨W.heap.size, 0, none⟩) m m) (List.replicate m 0) :=
  own_mk (own_made_of' (enc := fun x : UInt8 => .int .u8 (x.toNat : Int)) (d := 0) W base 5 m hb hm)
theorem itm_lit (W : World) (x : Itm) (h : ItmOk x) : itK.C (W.alloc (.cells (itV x) 26)) (some ⟨W.heap.size, 0, none⟩) 1 [x] := by
  refine C_of_blockN (d := itK) (xs := [x]) (heap_alloc_new W _) rfl (fun j y hj => ?_) (by simp)
  cases j with
  | zero => simp at hj; subst hj; exact itK_mk h
  | succ j => simp at hj
theorem known_ok : RecOk 7 [(1, 2, 2, 0, 0)] 64 := by decide
theorem known_rok : ROk [(1, 2, 2, 0, 0)] 64 := by decide
set_option maxRecDepth 100000 in
set_option maxHeartbeats 2000000 in
theorem known_calls (w : World) : Calls Tryd.prog 5 #[] w fun e w' => e = .returned (.bool true) ∧ Below w.heap.size w w' := by
  have hmk : ∀ W : World, (Instr.makeSlice 27 (.int .i64 64) (.int .i64 64)).run Tryd.prog W = .ok (.slice (some ⟨W.heap.size, 0, none⟩) 64 64) (W.alloc (zobj 64)) := make_run 64 (by omega)
  have HM := Aside0.mk (made_own w w.heap.size 64 (Nat.le_refl _) (by omega))
  have HB := Aside0.mk (alloc_below w (zobj 64))
  go_enter Tryd.func5, Tryd.ntmps5
  go_wp2_with fail
  refine (decode_calls _ 64 64 (List.replicate 64 0) _ (own_C HM.out) (Nat.le_refl _) (by omega) (by omega)).mono ?_
  rintro e w1 ⟨hb1, ⟨his, -⟩ | ⟨-, rfl⟩⟩
  · exact absurd his not_zeros
  have HB1 := Aside0.mk (below_go HB.out hb1)
  clear hb1 hmk
  have r1 : rmZ 64 = 2 := by decide
  have r2 : rmZ 4096 = 214 := by decide
  have r3 : rmZ 100 = 0 := by decide
  have R := Aside0.mk (And.intro r1 (And.intro r2 r3))
  clear r1 r2 r3
  go_wp2_with fail
  have HI := Aside0.mk (itm_lit (w1.alloc (.cells #[.int .u64 0, .slice none 0 0] 35)) (1, 2, 2, 0, 0) (by unfold ItmOk; decide))
  have HB2 := Aside0.mk (below_alloc (below_alloc HB1.out (.cells #[.int .u64 0, .slice none 0 0] 35)) (.cells (itV (1, 2, 2, 0, 0)) 26))
  rw [show (w1.alloc (.cells #[.int .u64 0, .slice none 0 0] 35)).heap.size = w1.heap.size + 1 from by simp] at HI
  refine (encode_calls 7 (by omega) _ 1 1 [(1, 2, 2, 0, 0)] 64 (by omega) _ HI.out).mono ?_
  rintro e w2 ⟨hb2, ⟨hok, v, rfl, hO⟩ | ⟨hno, -⟩⟩
  case inr => exact absurd known_rok hno
  have hle : (enc 7 [(1, 2, 2, 0, 0)] (64 : Int).toNat).length = 64 := enc_len _ _ _ (by decide)
  obtain ⟨g, c, rfl, -, -, -, -⟩ := own_form hO (by omega)
  rw [hle]
  have HB3 := Aside0.mk (below_go HB2.out hb2)
  clear hle hb2 hO hok
  go_wp2_with fail
  refine (room_calls 64 (by omega) _).mono ?_
  rintro e w3 ⟨rfl, rfl⟩
  rw [R.out.1]
  go_wp2_with fail
  refine (room_calls 4096 (by omega) _).mono ?_
  rintro e w3 ⟨rfl, rfl⟩
  rw [R.out.2.1]
  go_wp2_with fail
  refine (room_calls 100 (by omega) _).mono ?_
  rintro e w3 ⟨rfl, rfl⟩
  rw [R.out.2.2]
  go_wp2
  go_ret
  exact ⟨rfl, HB3.out⟩
end Go.Proofs.YtefgahakbnfdeaaDoor.Rc
