/- New of a device. -/
import Derived.Test.YtmkjglnggkkpeaaDev
namespace Go.Proofs.Ytmkjglnggkkpeaa.Dv
open Go.RowKit Go.Proofs.YtmkjglnggkkpeaaW.PrintWords Go.Proofs.YtmkjglnggkkpeaaW.PrintMore Go.Proofs.Ytmkjglnggkkpeaa.Base Go.Proofs.Ytmkjglnggkkpeaa.Shp
set_option linter.unusedVariables false
set_option linter.unusedSimpArgs false
theorem pow_rng {b : Int} (h : Shp.Pow b) : 64 ≤ b ∧ b ≤ 4096 := by unfold Shp.Pow at h; omega
theorem info_part : (Try.prog.info? 73).map (fun i => (i.zero, i.size, i.bytes)) = some (some (.agg #[.slice none 0 0, .int .i64 0]), 2, 32) := by kernel_rfl
theorem zero_part (w : World) (base : Nat) : partK.M w base (fun _ => False) ([], 0) (Value.agg #[.slice none 0 0, .int .i64 0]).cells.toList := by
  exact ⟨[.slice none 0 0], [.int .i64 0], rfl, ⟨_, rfl, Kd.R_nil _ _ _ _ _⟩, ⟨rfl, by decide⟩⟩
theorem new_calls (z zb b r : Int) (hz : IsI z) (hzb : IsI zb) (hb : IsI b) (hr : IsI r) (w : World) :
    Calls Try.prog 13 #[.agg #[.int .i64 z, .int .i64 zb, .int .i64 b, .int .i64 r]] w
      fun e w' => ((¬ Rt z zb b r ∧ e = .returned (.pointer none)) ∨ (Rt z zb b r ∧ ∃ xb v, e = .returned (.pointer (some ⟨xb, 0, none⟩)) ∧ Dev w' xb w.heap.size (fun k => w.heap.size ≤ k) z zb b r (List.replicate z.toNat ([], 0)) v ∧ w.heap.size ≤ xb)) ∧ Below w.heap.size w w' := by
  have hA := Aside0.mk (alloc_below w (.cells #[.int .i64 z, .int .i64 zb, .int .i64 b, .int .i64 r] 23))
  go_enter Try.func13, Try.ntmps13
  go_wp2_with fail
  refine (right_calls z zb b r hz hzb hb hr _).mono ?_
  rintro e w1 ⟨rfl, hw1⟩
  have k0 := pw_cell_below hw1 (show (w.alloc (.cells #[.int .i64 z, .int .i64 zb, .int .i64 b, .int .i64 r] 23)).cell? ⟨w.heap.size, 0, none⟩ = some (.int .i64 z) by go_simp)
  have k1 := pw_cell_below hw1 (show (w.alloc (.cells #[.int .i64 z, .int .i64 zb, .int .i64 b, .int .i64 r] 23)).cell? ⟨w.heap.size, 1, none⟩ = some (.int .i64 zb) by go_simp)
  have k2 := pw_cell_below hw1 (show (w.alloc (.cells #[.int .i64 z, .int .i64 zb, .int .i64 b, .int .i64 r] 23)).cell? ⟨w.heap.size, 2, none⟩ = some (.int .i64 b) by go_simp)
  have k3 := pw_cell_below hw1 (show (w.alloc (.cells #[.int .i64 z, .int .i64 zb, .int .i64 b, .int .i64 r] 23)).cell? ⟨w.heap.size, 3, none⟩ = some (.int .i64 r) by go_simp)
  have HB1 := Aside0.mk (below_then hA.out (by simp) hw1)
  obtain ⟨g, hg⟩ : ∃ g, w.heap.size = g := ⟨_, rfl⟩
  rw [hg] at k0 k1 k2 k3 HB1 ⊢
  have HG := Aside0.mk hg
  clear hw1 hA hg
  by_cases hrt : Rt z zb b r
  · rw [decide_eq_true hrt]
    have hz6 : 6 ≤ z ∧ z ≤ 256 := ⟨hrt.1, hrt.2.1⟩
    obtain ⟨p1, p2⟩ := hz6
    have HRT := Aside0.mk hrt
    clear hrt
    go_wp2_with fail
    refine wp_region_held_drew (S := (fun w' => w'.cell? ⟨g, 0, none⟩ = some (.int .i64 z) ∧ w'.cell? ⟨g, 1, none⟩ = some (.int .i64 zb) ∧ w'.cell? ⟨g, 2, none⟩ = some (.int .i64 b) ∧ w'.cell? ⟨g, 3, none⟩ = some (.int .i64 r))) (by kernel_rfl) ⟨k0, k1, k2, k3⟩ (fun hHeld => ?_)
    refine wpAnyH_take (i := 0) (oi := { dst := some 6, op := Op.load 23 (Operand.tmp 1), type := 23, pos := "zone.go:38", after := #[], guard := none }) (v := ?_) rfl (by kernel_rfl) (by kernel_rfl) (by kernel_rfl) (fun _ _ _ h => h) (Or.inl ⟨by rfl, ?_⟩) (by assumption) ?_
    rotate_left
    · (intro w hSw; (try dsimp only at hSw); go_simp; (try with_reducible rfl))
    (try simp only [Act.put, List.setIfInBounds_toArray, List.set_cons_zero, List.set_cons_succ])
    refine wpAnyH_take (i := 1) (oi := { dst := some 7, op := Op.fieldAddr 23 (Operand.tmp 1) 0, type := 0, pos := "zone.go:38", after := #[], guard := none }) (v := ?_) rfl (by kernel_rfl) (by kernel_rfl) (by kernel_rfl) (fun _ _ _ h => h) (Or.inl ⟨by rfl, ?_⟩) (by assumption) ?_
    rotate_left
    · (intro w hSw; (try dsimp only at hSw); go_simp; (try with_reducible rfl))
    (try simp only [Act.put, List.setIfInBounds_toArray, List.set_cons_zero, List.set_cons_succ])
    refine wpAnyH_take (i := 2) (oi := { dst := some 8, op := Op.load 3 (Operand.tmp 7), type := 3, pos := "zone.go:38", after := #[{ on := 1, ground := Ground.data }], guard := none }) (v := ?_) rfl (by kernel_rfl) (by kernel_rfl) (by kernel_rfl) (fun _ _ _ h => h) (Or.inl ⟨by rfl, ?_⟩) (by assumption) ?_
    rotate_left
    · (intro w hSw; (try dsimp only at hSw); go_simp; (try with_reducible rfl))
    (try simp only [Act.put, List.setIfInBounds_toArray, List.set_cons_zero, List.set_cons_succ])
    refine wpAnyH_ready (rs := [3]) (by kernel_rfl) (by simp) ?_
    refine AllReadyH.cons (o := { dst := some 9, op := Op.makeSlice 68 (Operand.tmp 8) (Operand.tmp 8), type := 68, pos := "zone.go:38", after := #[{ on := 2, ground := Ground.data }, { on := 2, ground := Ground.data }], guard := none }) rfl (fun K hK => ?_) AllReadyH.nil
    refine Kd.S_make_step (w0 := w1.drew) partK w1.drew.heap.size 73 (by rfl) (N := 9) rfl 68 (.tmp 8) (.tmp 8) rfl z rfl rfl Try.underlying68 (.agg #[.slice none 0 0, .int .i64 0]) 32 info_part rfl (by decide) (by decide) ([], 0) (ok := fun k => w1.drew.heap.size ≤ k) (okp := fun _ => False) (zero_part _ _) (fun _ h => h.elim) (Nat.le_refl _) (by omega) (by omega) (Below.refl _ _) (Nat.le_refl _) ?_
    intro v1 w2 hS hb2 _ _
    have HS := Aside0.mk hS
    obtain ⟨A, c, rfl⟩ := Kd.R_slice (Kd.S_R hS)
    have HB2 := Aside0.mk hb2
    clear hS hb2
    refine hK.out _ _ ?_ (fun hHeld => ?_)
    · exact ⟨pw_cell_below HB2.out k0, pw_cell_below HB2.out k1, pw_cell_below HB2.out k2, pw_cell_below HB2.out k3⟩
    clear hK K
    (try simp only [Act.put, List.setIfInBounds_toArray, List.set_cons_zero, List.set_cons_succ])
    refine wpAnyH_take (i := 4) (oi := { dst := some 10, op := Op.build 70 #[(0, Operand.tmp 6), (1, Operand.tmp 9)], type := 70, pos := "zone.go:38", after := #[{ on := 0, ground := Ground.data }, { on := 3, ground := Ground.data }], guard := none }) (v := ?_) rfl (by kernel_rfl) (by kernel_rfl) (by kernel_rfl) (fun _ _ _ h => h) (Or.inl ⟨by rfl, ?_⟩) (by assumption) ?_
    rotate_left
    · (intro w hSw; (try dsimp only at hSw); go_simp; (try with_reducible rfl))
    (try simp only [Act.put, List.setIfInBounds_toArray, List.set_cons_zero, List.set_cons_succ])
    refine wpAnyH_ready (rs := [5]) (by kernel_rfl) (by simp) ?_
    refine AllReadyH.cons (o := { dst := some 11, op := Op.box 70 (Operand.tmp 10), type := 28, pos := "zone.go:38", after := #[{ on := 4, ground := Ground.data }], guard := none }) rfl (fun K hK => ?_) AllReadyH.nil
    go_simp
    refine hK.out _ _ ?_ (fun hHeld => ?_)
    · exact ⟨pw_cell_below (alloc_below _ _) hHeld.1, pw_cell_below (alloc_below _ _) hHeld.2.1, pw_cell_below (alloc_below _ _) hHeld.2.2.1, pw_cell_below (alloc_below _ _) hHeld.2.2.2⟩
    clear hK K
    (try simp only [Act.put, List.setIfInBounds_toArray, List.set_cons_zero, List.set_cons_succ])
    refine wpAnyH_take (i := 6) (oi := { dst := some 2, op := Op.assign (Operand.tmp 11), type := 28, pos := "zone.go:38", after := #[{ on := 5, ground := Ground.data }, { on := 0, ground := Ground.phase }, { on := 1, ground := Ground.phase }, { on := 2, ground := Ground.phase }, { on := 3, ground := Ground.phase }, { on := 4, ground := Ground.phase }, { on := 5, ground := Ground.phase }], guard := none }) (v := ?_) rfl (by kernel_rfl) (by kernel_rfl) (by kernel_rfl) (fun _ _ _ h => h) (Or.inl ⟨by rfl, ?_⟩) (by assumption) ?_
    rotate_left
    · (intro w hSw; (try dsimp only at hSw); go_simp; (try with_reducible rfl))
    (try simp only [Act.put, List.setIfInBounds_toArray, List.set_cons_zero, List.set_cons_succ])
    refine wpAnyH_done (by kernel_rfl) ?_ _
    go_wp2
    go_ret
    have hsz := HB1.out.size
    have hsz2 := HB2.out.size
    have hgs := HG.out
    have HS' := HS.out
    rw [List.length_replicate] at HS'
    refine ⟨.inr ⟨HRT.out, w2.heap.size, _, rfl, ⟨blk_here rfl, ?_⟩, ?_⟩, ?_⟩
    · exact Kd.S_mono (Kd.S_lower (Kd.S_alloc HS' _) (show w.heap.size ≤ w1.drew.heap.size from hsz)) (fun k hk => Nat.le_trans hsz hk)
    · exact Nat.le_trans hsz hsz2
    · exact (show Below w.heap.size w w1 from by rw [hgs]; exact HB1.out).trans (below_go (Below.refl _ _) (below_go (below_drew (Below.refl _ _)) (below_go HB2.out (alloc_below _ _))) |>.mono hsz)
  · rw [decide_eq_false hrt]
    have HRT := Aside0.mk hrt
    clear hrt
    go_wp2
    go_ret
    exact ⟨.inl ⟨HRT.out, rfl⟩, by rw [HG.out]; exact HB1.out⟩
end Go.Proofs.Ytmkjglnggkkpeaa.Dv
