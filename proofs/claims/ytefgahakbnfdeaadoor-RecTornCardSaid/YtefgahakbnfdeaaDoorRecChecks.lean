/- RecChecks walks whole. Written by genrecchecks.py. -/
import Derived.Test.YtefgahakbnfdeaaDoorRecChk
namespace Go.Proofs.YtefgahakbnfdeaaDoor.Rc
open Go.RowKit Go.Proofs.YtefgahakbnfdeaaDoorW.PrintWords Go.Proofs.YtefgahakbnfdeaaDoorW.PrintMore Go.Proofs.YtefgahakbnfdeaaDoor.Base
set_option linter.unusedVariables false
set_option linter.unusedSimpArgs false
attribute [local go_sem] max2_mx max_two
theorem set_same (xs : List UInt8) (i : Nat) (hi : i < xs.length) : xs.set i (xs.getD i 0) = xs := by
  rw [List.getD_eq_getElem?_getD, List.getElem?_eq_getElem hi]
  exact List.set_getElem_self hi
theorem chk_set (x : Itm) (xs : List UInt8) (h : ChkIs x xs) (i : Nat) (hi : i < xs.length) (c : UInt8) : decide (ChkIs x (xs.set i c)) = (((xs.getD i 0).toNat : Int) == (c.toNat : Int)) := by
  rw [Bool.eq_iff_iff, decide_eq_true_iff, beq_iff_eq]
  constructor
  · intro h2
    have hs : Crc.sum (Crc.nat (xs.set i c)) = Crc.sum (Crc.nat xs) := h2.2.1.symm.trans h.2.1
    have e1 : ∀ y, Crc.nat (xs.set i y) = Crc.nat (xs.take i) ++ y.toNat :: Crc.nat (xs.drop (i + 1)) := by
      intro y
      rw [List.set_eq_take_append_cons_drop, if_pos hi, Crc.nat_append, Crc.nat_cons]
    have e2 := e1 (xs.getD i 0)
    rw [set_same xs i hi] at e2
    rw [e1 c, e2] at hs
    have := Crc.sum_one _ _ c.toNat (xs.getD i 0).toNat (Crc.nat_lt _) c.toNat_lt (xs.getD i 0).toNat_lt hs
    omega
  · intro hh
    have : c = xs.getD i 0 := UInt8.toNat_inj.1 (by omega)
    rw [this, set_same xs i hi]
    exact h
/-- The item's five cells. -/
def I5 (w : World) (g : Nat) (x : Itm) : Prop := w.cell? ⟨g, 0, none⟩ = some (.int .u32 (x.1 : Int)) ∧ w.cell? ⟨g, 1, none⟩ = some (.int .u64 (x.2.1 : Int)) ∧ w.cell? ⟨g, 2, none⟩ = some (.int .u8 (x.2.2.1 : Int)) ∧ w.cell? ⟨g, 3, none⟩ = some (.int .u32 (x.2.2.2.1 : Int)) ∧ w.cell? ⟨g, 4, none⟩ = some (.int .u16 (x.2.2.2.2 : Int))
theorem I5.below {w w' : World} {g : Nat} {x : Itm} (h : I5 w g x) (hb : Below w.heap.size w w') : I5 w' g x :=
  ⟨pw_cell_below hb h.1, pw_cell_below hb h.2.1, pw_cell_below hb h.2.2.1, pw_cell_below hb h.2.2.2.1, pw_cell_below hb h.2.2.2.2⟩
theorem I5.here (w : World) (x : Itm) : I5 (w.alloc (.cells (itV x) 26)) w.heap.size x := by
  unfold itV
  exact ⟨by go_simp, by go_simp, by go_simp, by go_simp, by go_simp⟩
theorem I5.set {w : World} {g : Nat} {x : Itm} (h : I5 w g x) (a : Addr) (v : Value) (hne : g ≠ a.block) : I5 (w.setCell a v) g x := by
  have e : ∀ j, (w.setCell a v).cell? ⟨g, j, none⟩ = w.cell? ⟨g, j, none⟩ := by
    intro j
    unfold World.cell?
    rw [Below.heap_setCell _ a v g hne]
  exact ⟨(e 0).trans h.1, (e 1).trans h.2.1, (e 2).trans h.2.2.1, (e 3).trans h.2.2.2.1, (e 4).trans h.2.2.2.2⟩
theorem I5.plus {w : World} {g : Nat} {x : Itm} {P : Prop} (h : I5 w g x) (p : P) : w.cell? ⟨g, 0, none⟩ = some (.int .u32 (x.1 : Int)) ∧ w.cell? ⟨g, 1, none⟩ = some (.int .u64 (x.2.1 : Int)) ∧ w.cell? ⟨g, 2, none⟩ = some (.int .u8 (x.2.2.1 : Int)) ∧ w.cell? ⟨g, 3, none⟩ = some (.int .u32 (x.2.2.2.1 : Int)) ∧ w.cell? ⟨g, 4, none⟩ = some (.int .u16 (x.2.2.2.2 : Int)) ∧ P :=
  ⟨h.1, h.2.1, h.2.2.1, h.2.2.2.1, h.2.2.2.2, p⟩
set_option maxRecDepth 100000 in
set_option maxHeartbeats 4000000 in
theorem rchecks_walk (w : World) (x : Itm) (hx : ItmOk x) (Ad : Option Addr) (n cap : Nat) (xs : List UInt8) (hcap : n ≤ cap) (h : byte.C w Ad n xs) (hcm : cap ≤ 9223372036854775807) (k : Int) (hk : -9223372036854775808 ≤ k ∧ k ≤ 9223372036854775807) (y : UInt8) :
    Calls Tryd.prog 3 #[.agg (itV x), .slice Ad n cap, .int .i64 k, .int .u8 (y.toNat : Int)] w fun e w' => e = .returned (.bool true) ∧ Below w.heap.size w w' := by
  obtain ⟨hl, hm⟩ := C_len h
  have HL := Aside0.mk hl
  have HA := Aside0.mk (alloc_below w (.cells (itV x) 26))
  have HC := Aside0.mk h
  have HI := Aside0.mk (I5.here w x)
  have HX := Aside0.mk hx
  clear h hl hx
  by_cases h5 : 5000 < n
  · have hd : decide ((5000 : Int) < (n : Int)) = true := decide_eq_true (by omega)
    have hd' : decide (5000 < n) = true := decide_eq_true (by omega)
    clear h5
    go_enter Tryd.func3, Tryd.ntmps3
    go_wp2_with fail
    refine (known_calls _).mono ?_
    rintro e w1 ⟨rfl, hb1⟩
    have HB1 := Aside0.mk (below_go HA.out hb1)
    clear hb1
    go_wp2
    go_ret
    exact ⟨rfl, HB1.out⟩
  have hd : decide ((5000 : Int) < (n : Int)) = false := decide_eq_false (by omega)
  have hd' : decide (5000 < n) = false := decide_eq_false (by omega)
  have hn5 : n ≤ 5000 := by omega
  clear h5
  go_enter Tryd.func3, Tryd.ntmps3
  go_wp2_with fail
  refine (known_calls _).mono ?_
  rintro e w1 ⟨rfl, hb1⟩
  have HB1 := Aside0.mk (below_go HA.out hb1)
  have HI1 := Aside0.mk (HI.out.below hb1)
  obtain ⟨g, hg⟩ : ∃ g, w.heap.size = g := ⟨_, rfl⟩
  rw [hg] at HI1 ⊢
  have HG := Aside0.mk hg
  clear hb1 hd hd' hg HI
  obtain ⟨bb, hbb⟩ : ∃ bb, decide (ChkIs x xs) = bb := ⟨_, rfl⟩
  have HBB := Aside0.mk hbb
  have hq1 : (bb != bb) = false := by cases bb <;> rfl
  have hq2 : ((endsAt xs n : Int) != (endsAt xs n : Int)) = false := by rw [bne_eq_false_iff_eq]
  go_wp2
  have k0 := HI1.out
  unfold I5 at k0
  obtain ⟨k0, k1, k2, k3, k4⟩ := k0
  have HX0 := Aside0.mk (show Below w1.heap.size w1 w1.drew from below_drew (Below.refl _ _))
  refine wp_region_held_drew (S := fun w' => w'.cell? ⟨g, 0, none⟩ = some (.int .u32 (x.1 : Int)) ∧ w'.cell? ⟨g, 1, none⟩ = some (.int .u64 (x.2.1 : Int)) ∧ w'.cell? ⟨g, 2, none⟩ = some (.int .u8 (x.2.2.1 : Int)) ∧ w'.cell? ⟨g, 3, none⟩ = some (.int .u32 (x.2.2.2.1 : Int)) ∧ w'.cell? ⟨g, 4, none⟩ = some (.int .u16 (x.2.2.2.2 : Int))) (by kernel_rfl) (HI1.out.below HX0.out) (fun hHeld => ?_)
  refine wpAnyH_take (i := 0) (oi := { dst := some 19, op := Op.load 26 (Operand.tmp 4), type := 26, pos := "law.go:77", after := #[], guard := none }) (v := ?_) rfl (by kernel_rfl) (by kernel_rfl) (by kernel_rfl) (fun _ _ _ h => h) (Or.inl ⟨by rfl, ?_⟩) (by assumption) ?_
  rotate_left
  · (intro w hSw; (try dsimp only at hSw); go_simp; (try with_reducible rfl))
  (try simp only [Act.put, List.setIfInBounds_toArray, List.set_cons_zero, List.set_cons_succ])
  refine wpAnyH_take (i := 1) (oi := { dst := some 20, op := Op.move (Operand.tmp 1), type := 27, pos := "law.go:77", after := #[], guard := none }) (v := ?_) rfl (by kernel_rfl) (by kernel_rfl) (by kernel_rfl) (fun _ _ _ h => h) (Or.inl ⟨by rfl, ?_⟩) (by assumption) ?_
  rotate_left
  · (intro w hSw; (try dsimp only at hSw); go_simp; (try with_reducible rfl))
  (try simp only [Act.put, List.setIfInBounds_toArray, List.set_cons_zero, List.set_cons_succ])
  refine wpAnyH_take (i := 3) (oi := { dst := some 22, op := Op.load 26 (Operand.tmp 4), type := 26, pos := "law.go:77", after := #[], guard := none }) (v := ?_) rfl (by kernel_rfl) (by kernel_rfl) (by kernel_rfl) (fun _ _ _ h => h) (Or.inl ⟨by rfl, ?_⟩) (by assumption) ?_
  rotate_left
  · (intro w hSw; (try dsimp only at hSw); go_simp; (try with_reducible rfl))
  (try simp only [Act.put, List.setIfInBounds_toArray, List.set_cons_zero, List.set_cons_succ])
  refine wpAnyH_take (i := 4) (oi := { dst := some 23, op := Op.move (Operand.tmp 1), type := 27, pos := "law.go:77", after := #[], guard := none }) (v := ?_) rfl (by kernel_rfl) (by kernel_rfl) (by kernel_rfl) (fun _ _ _ h => h) (Or.inl ⟨by rfl, ?_⟩) (by assumption) ?_
  rotate_left
  · (intro w hSw; (try dsimp only at hSw); go_simp; (try with_reducible rfl))
  (try simp only [Act.put, List.setIfInBounds_toArray, List.set_cons_zero, List.set_cons_succ])
  refine wpAnyH_ready (rs := [2]) (by kernel_rfl) (by simp) ?_
  refine (AllReadyH.cons (o := { dst := some 21, op := Op.call { callee := Callee.value (Operand.func 6), args := #[Operand.tmp 19, Operand.tmp 20], argTypes := #[26, 27] }, type := 4, pos := "law.go:77", after := #[{ on := 0, ground := Ground.data }, { on := 1, ground := Ground.data }], guard := none }) rfl (fun K hK => ?_) AllReadyH.nil)
  go_simp
  refine (check_calls x Ad n cap xs _ HX.out (Kd.C_below HC.out (below_go HB1.out HX0.out)) hcap).mono ?_
  rintro e v2 ⟨rfl, hb2⟩
  rw [HBB.out]
  have HX1 := Aside0.mk (below_go HX0.out hb2)
  clear hb2
  refine hK.out _ _ ?_ (fun hHeld => ?_)
  · exact HI1.out.below HX1.out
  clear hK K
  (try simp only [Act.put, List.setIfInBounds_toArray, List.set_cons_zero, List.set_cons_succ])
  refine wpAnyH_ready (rs := [5]) (by kernel_rfl) (by simp) ?_
  refine (AllReadyH.cons (o := { dst := some 24, op := Op.call { callee := Callee.value (Operand.func 7), args := #[Operand.tmp 22, Operand.tmp 23], argTypes := #[26, 27] }, type := 4, pos := "law.go:77", after := #[{ on := 3, ground := Ground.data }, { on := 4, ground := Ground.data }, { on := 2, ground := Ground.chain }], guard := none }) rfl (fun K hK => ?_) AllReadyH.nil)
  go_simp
  refine (rcheck_calls x Ad n cap xs _ HX.out (Kd.C_below HC.out (below_go HB1.out HX1.out))).mono ?_
  rintro e v5 ⟨rfl, hb2⟩
  rw [HBB.out]
  have HX2 := Aside0.mk (below_go HX1.out hb2)
  clear hb2
  refine hK.out _ _ ?_ (fun hHeld => ?_)
  · exact HI1.out.below HX2.out
  clear hK K
  (try simp only [Act.put, List.setIfInBounds_toArray, List.set_cons_zero, List.set_cons_succ])
  refine wpAnyH_take (i := 6) (oi := { dst := some 25, op := Op.binOp BinOp.neq 4 (Operand.tmp 21) (Operand.tmp 24) 4, type := 4, pos := "law.go:77", after := #[{ on := 2, ground := Ground.data }, { on := 5, ground := Ground.data }], guard := none }) (v := ?_) rfl (by kernel_rfl) (by kernel_rfl) (by kernel_rfl) (fun _ _ _ h => h) (Or.inl ⟨by rfl, ?_⟩) (by assumption) ?_
  rotate_left
  · (intro w hSw; (try dsimp only at hSw); go_simp; (try with_reducible rfl))
  (try simp only [Act.put, List.setIfInBounds_toArray, List.set_cons_zero, List.set_cons_succ])
  refine wpAnyH_take (i := 7) (oi := { dst := some 26, op := Op.move (Operand.tmp 25), type := 4, pos := "law.go:77", after := #[{ on := 6, ground := Ground.data }, { on := 5, ground := Ground.chain }], guard := none }) (v := ?_) rfl (by kernel_rfl) (by kernel_rfl) (by kernel_rfl) (fun _ _ _ h => h) (Or.inl ⟨by rfl, ?_⟩) (by assumption) ?_
  rotate_left
  · (intro w hSw; (try dsimp only at hSw); go_simp; (try with_reducible rfl))
  (try simp only [Act.put, List.setIfInBounds_toArray, List.set_cons_zero, List.set_cons_succ])
  refine wpAnyH_take (i := 8) (oi := { dst := some 27, op := Op.move (Operand.tmp 1), type := 27, pos := "law.go:77", after := #[{ on := 7, ground := Ground.guard }], guard := some (7, false) }) (v := ?_) rfl (by kernel_rfl) (by kernel_rfl) (by kernel_rfl) (fun _ _ _ h => h) (Or.inl ⟨by rfl, ?_⟩) (by assumption) ?_
  rotate_left
  · (intro w hSw; (try dsimp only at hSw); go_simp; (try with_reducible rfl))
  (try simp only [Act.put, List.setIfInBounds_toArray, List.set_cons_zero, List.set_cons_succ])
  refine wpAnyH_take (i := 10) (oi := { dst := some 29, op := Op.move (Operand.tmp 1), type := 27, pos := "law.go:77", after := #[{ on := 7, ground := Ground.guard }], guard := some (7, false) }) (v := ?_) rfl (by kernel_rfl) (by kernel_rfl) (by kernel_rfl) (fun _ _ _ h => h) (Or.inl ⟨by rfl, ?_⟩) (by assumption) ?_
  rotate_left
  · (intro w hSw; (try dsimp only at hSw); go_simp; (try with_reducible rfl))
  (try simp only [Act.put, List.setIfInBounds_toArray, List.set_cons_zero, List.set_cons_succ])
  refine wpAnyH_ready (rs := [9]) (by kernel_rfl) (by simp) ?_
  refine (AllReadyH.cons (o := { dst := some 28, op := Op.call { callee := Callee.value (Operand.func 8), args := #[Operand.tmp 27], argTypes := #[27] }, type := 3, pos := "law.go:77", after := #[{ on := 8, ground := Ground.data }, { on := 7, ground := Ground.chain }, { on := 7, ground := Ground.guard }], guard := some (7, false) }) rfl (fun K hK => ?_) AllReadyH.nil)
  go_simp
  refine (ends_calls Ad n cap xs _ (Kd.C_below HC.out (below_go HB1.out HX2.out)) hcap).mono ?_
  rintro e v9 ⟨rfl, hb2⟩
  have HX3 := Aside0.mk (below_go HX2.out hb2)
  clear hb2
  refine hK.out _ _ ?_ (fun hHeld => ?_)
  · exact HI1.out.below HX3.out
  clear hK K
  (try simp only [Act.put, List.setIfInBounds_toArray, List.set_cons_zero, List.set_cons_succ])
  refine wpAnyH_ready (rs := [11]) (by kernel_rfl) (by simp) ?_
  refine (AllReadyH.cons (o := { dst := some 30, op := Op.call { callee := Callee.value (Operand.func 9), args := #[Operand.tmp 29], argTypes := #[27] }, type := 3, pos := "law.go:77", after := #[{ on := 10, ground := Ground.data }, { on := 9, ground := Ground.chain }, { on := 7, ground := Ground.guard }], guard := some (7, false) }) rfl (fun K hK => ?_) AllReadyH.nil)
  go_simp
  refine (rends_calls Ad n cap xs _ (Kd.C_below HC.out (below_go HB1.out HX3.out))).mono ?_
  rintro e v11 ⟨rfl, rfl⟩
  have HX4 := HX3
  refine hK.out _ _ ?_ (fun hHeld => ?_)
  · exact HI1.out.below HX4.out
  clear hK K
  (try simp only [Act.put, List.setIfInBounds_toArray, List.set_cons_zero, List.set_cons_succ])
  refine wpAnyH_take (i := 12) (oi := { dst := some 31, op := Op.binOp BinOp.neq 3 (Operand.tmp 28) (Operand.tmp 30) 3, type := 4, pos := "law.go:77", after := #[{ on := 9, ground := Ground.data }, { on := 11, ground := Ground.data }, { on := 7, ground := Ground.guard }], guard := some (7, false) }) (v := ?_) rfl (by kernel_rfl) (by kernel_rfl) (by kernel_rfl) (fun _ _ _ h => h) (Or.inl ⟨by rfl, ?_⟩) (by assumption) ?_
  rotate_left
  · (intro w hSw; (try dsimp only at hSw); go_simp; (try with_reducible rfl))
  (try simp only [Act.put, List.setIfInBounds_toArray, List.set_cons_zero, List.set_cons_succ])
  refine wpAnyH_take (i := 13) (oi := { dst := some 32, op := Op.pick (Operand.tmp 26) (Operand.const (Value.bool true)) (Operand.tmp 31), type := 4, pos := "law.go:77", after := #[{ on := 7, ground := Ground.data }, { on := 12, ground := Ground.data }], guard := none }) (v := ?_) rfl (by kernel_rfl) (by kernel_rfl) (by kernel_rfl) (fun _ _ _ h => h) (Or.inl ⟨by rfl, ?_⟩) (by assumption) ?_
  rotate_left
  · (intro w hSw; (try dsimp only at hSw); go_simp; (try with_reducible rfl))
  (try simp only [Act.put, List.setIfInBounds_toArray, List.set_cons_zero, List.set_cons_succ])
  refine wpAnyH_done (by kernel_rfl) ?_ _
  have HB3 := Aside0.mk (below_go HB1.out HX4.out)
  have HI3 := Aside0.mk (HI1.out.below HX4.out)
  clear k0 k1 k2 k3 k4 hq1 hq2 HX0 HX1 HX2 HX3 HX4 hbb
  have k0 := HI3.out
  unfold I5 at k0
  obtain ⟨k0, k1, k2, k3, k4⟩ := k0
  by_cases hz : n = 0
  · have hz0 : ((n : Int) == 0) = true := by rw [beq_iff_eq]; omega
    clear hz
    go_wp2
    go_ret
    exact ⟨rfl, HB3.out⟩
  have hz0 : ((n : Int) == 0) = false := by rw [beq_eq_false_iff_ne]; omega
  go_wp2_with fail
  refine (check_calls x Ad n cap xs _ HX.out (Kd.C_below HC.out HB3.out) hcap).mono ?_
  rintro e w4 ⟨rfl, hb4⟩
  rw [HBB.out]
  have HB4 := Aside0.mk (below_go HB3.out hb4)
  have HI4' := Aside0.mk (HI3.out.below hb4)
  clear hb4 k0 k1 k2 k3 k4
  cases bb with
  | false =>
    go_wp2
    go_ret
    exact ⟨rfl, HB4.out⟩
  | true =>
    go_wp2_with fail
    refine (lentb_calls Ad n cap xs (by omega) _ (Kd.C_below HC.out HB4.out)).mono ?_
    rintro e w5 ⟨v5, rfl, hO5, hb5⟩
    obtain ⟨g5, c5, rfl, hg5, hg5', hc5, hc5m⟩ := own_form hO5 (by rw [HL.out]; omega)
    rw [HL.out] at hO5 hc5 ⊢
    obtain ⟨at_, hat, hatm⟩ : ∃ at_ : Nat, (mx k 0).tmod (n : Int) = (at_ : Int) ∧ at_ < n := by
      obtain ⟨u, hu⟩ := Int.eq_ofNat_of_zero_le (mx0 k hk.2).1
      refine ⟨u % n, ?_, Nat.mod_lt _ (by omega)⟩
      rw [hu, Int.ofNat_tmod]
    obtain ⟨g', n', c', he, -, -, e0, z0, hO4⟩ := hO5.store at_ (by rw [HL.out]; exact hatm) y
    simp only [Value.slice.injEq, Option.some.injEq, Addr.mk.injEq, and_true] at he
    obtain ⟨rfl, -, -⟩ := he
    have HO4 := Aside0.mk hO4
    have hlo : g < w4.heap.size := by
      have h1 := HI4'.out.1
      by_cases hh : g < w4.heap.size
      · exact hh
      · simp [World.cell?, Array.getElem?_eq_none (Nat.le_of_not_lt hh)] at h1
    have HI5 := Aside0.mk (HI4'.out.below hb5)
    have HB5 := Aside0.mk (below_go HB4.out hb5)
    have a1 : (0 : Int) ≤ (at_ : Int) := by omega
    have a2 : (at_ : Int) < (n : Int) := by omega
    clear hb5 hO5 hO4
    go_wp2
    obtain ⟨W4, hW4⟩ : ∃ W4, w5.setCell ⟨g5, at_, none⟩ (.int .u8 (y.toNat : Int)) = W4 := ⟨_, rfl⟩
    have HI4 := Aside0.mk (show I5 W4 g x by rw [← hW4]; exact HI5.out.set _ _ (by show g ≠ g5; omega))
    have HB6 := Aside0.mk (show Below w.heap.size w W4 by rw [← hW4]; exact HB5.out.setCell (by show w.heap.size ≤ g5; have := HB4.out.size; omega) _)
    have HCS := Aside0.mk (chk_set x xs (of_decide_eq_true HBB.out) at_ (by rw [HL.out]; exact hatm) y)
    rw [hW4] at HO4 ⊢
    obtain ⟨ad, rfl, f4⟩ := byte_at (Kd.C_below HC.out HB6.out) at_ hatm
    obtain ⟨z, hzv⟩ : ∃ z, xs.getD at_ 0 = z := ⟨_, rfl⟩
    rw [hzv] at HCS f4
    obtain ⟨zz, hzz⟩ : ∃ zz, ((z.toNat : Int) == (y.toNat : Int)) = zz := ⟨_, rfl⟩
    rw [hzz] at HCS
    have hq3 : (zz == zz) = true := by cases zz <;> rfl
    clear hzv hW4 hlo e0 z0 hg5 hg5' hat hz0 hz
    refine wp_region_held_drew (S := fun w' => w'.cell? ⟨g, 0, none⟩ = some (.int .u32 (x.1 : Int)) ∧ w'.cell? ⟨g, 1, none⟩ = some (.int .u64 (x.2.1 : Int)) ∧ w'.cell? ⟨g, 2, none⟩ = some (.int .u8 (x.2.2.1 : Int)) ∧ w'.cell? ⟨g, 3, none⟩ = some (.int .u32 (x.2.2.2.1 : Int)) ∧ w'.cell? ⟨g, 4, none⟩ = some (.int .u16 (x.2.2.2.2 : Int)) ∧ w'.cell? (ad.add at_) = some (.int .u8 (z.toNat : Int))) (by kernel_rfl) ((HI4.out.below (below_drew (Below.refl _ _))).plus (pw_cell_below (below_drew (Below.refl _ _)) f4)) (fun hHeld => ?_)
    refine wpAnyH_take (i := 0) (oi := { dst := some 53, op := Op.load 26 (Operand.tmp 4), type := 26, pos := "law.go:86", after := #[], guard := none }) (v := ?_) rfl (by kernel_rfl) (by kernel_rfl) (by kernel_rfl) (fun _ _ _ h => h) (Or.inl ⟨by rfl, ?_⟩) (by assumption) ?_
    rotate_left
    · (intro w hSw; (try dsimp only at hSw); go_simp; (try with_reducible rfl))
    (try simp only [Act.put, List.setIfInBounds_toArray, List.set_cons_zero, List.set_cons_succ])
    refine wpAnyH_take (i := 1) (oi := { dst := some 54, op := Op.move (Operand.tmp 9), type := 27, pos := "law.go:86", after := #[], guard := none }) (v := ?_) rfl (by kernel_rfl) (by kernel_rfl) (by kernel_rfl) (fun _ _ _ h => h) (Or.inl ⟨by rfl, ?_⟩) (by assumption) ?_
    rotate_left
    · (intro w hSw; (try dsimp only at hSw); go_simp; (try with_reducible rfl))
    (try simp only [Act.put, List.setIfInBounds_toArray, List.set_cons_zero, List.set_cons_succ])
    refine wpAnyH_take (i := 3) (oi := { dst := some 56, op := Op.move (Operand.tmp 1), type := 27, pos := "law.go:86", after := #[], guard := none }) (v := ?_) rfl (by kernel_rfl) (by kernel_rfl) (by kernel_rfl) (fun _ _ _ h => h) (Or.inl ⟨by rfl, ?_⟩) (by assumption) ?_
    rotate_left
    · (intro w hSw; (try dsimp only at hSw); go_simp; (try with_reducible rfl))
    (try simp only [Act.put, List.setIfInBounds_toArray, List.set_cons_zero, List.set_cons_succ])
    refine wpAnyH_take (i := 4) (oi := { dst := some 57, op := Op.move (Operand.tmp 10), type := 3, pos := "law.go:86", after := #[], guard := none }) (v := ?_) rfl (by kernel_rfl) (by kernel_rfl) (by kernel_rfl) (fun _ _ _ h => h) (Or.inl ⟨by rfl, ?_⟩) (by assumption) ?_
    rotate_left
    · (intro w hSw; (try dsimp only at hSw); go_simp; (try with_reducible rfl))
    (try simp only [Act.put, List.setIfInBounds_toArray, List.set_cons_zero, List.set_cons_succ])
    refine wpAnyH_take (i := 5) (oi := { dst := some 58, op := Op.indexAddr 27 (Operand.tmp 56) (Operand.tmp 57), type := 0, pos := "law.go:86", after := #[{ on := 3, ground := Ground.data }, { on := 4, ground := Ground.data }], guard := none }) (v := ?_) rfl (by kernel_rfl) (by kernel_rfl) (by kernel_rfl) (fun _ _ _ h => h) (Or.inl ⟨by rfl, ?_⟩) (by assumption) ?_
    rotate_left
    · (intro w hSw; (try dsimp only at hSw); go_simp; (try with_reducible rfl))
    (try simp only [Act.put, List.setIfInBounds_toArray, List.set_cons_zero, List.set_cons_succ])
    refine wpAnyH_take (i := 6) (oi := { dst := some 59, op := Op.load 5 (Operand.tmp 58), type := 5, pos := "law.go:86", after := #[{ on := 5, ground := Ground.data }], guard := none }) (v := ?_) rfl (by kernel_rfl) (by kernel_rfl) (by kernel_rfl) (fun _ _ _ h => h) (Or.inl ⟨by rfl, ?_⟩) (by assumption) ?_
    rotate_left
    · (intro w hSw; (try dsimp only at hSw); go_simp; (try with_reducible rfl))
    (try simp only [Act.put, List.setIfInBounds_toArray, List.set_cons_zero, List.set_cons_succ])
    refine wpAnyH_take (i := 7) (oi := { dst := some 60, op := Op.move (Operand.tmp 3), type := 5, pos := "law.go:86", after := #[], guard := none }) (v := ?_) rfl (by kernel_rfl) (by kernel_rfl) (by kernel_rfl) (fun _ _ _ h => h) (Or.inl ⟨by rfl, ?_⟩) (by assumption) ?_
    rotate_left
    · (intro w hSw; (try dsimp only at hSw); go_simp; (try with_reducible rfl))
    (try simp only [Act.put, List.setIfInBounds_toArray, List.set_cons_zero, List.set_cons_succ])
    refine wpAnyH_take (i := 8) (oi := { dst := some 61, op := Op.binOp BinOp.eql 5 (Operand.tmp 59) (Operand.tmp 60) 5, type := 4, pos := "law.go:86", after := #[{ on := 6, ground := Ground.data }, { on := 7, ground := Ground.data }], guard := none }) (v := ?_) rfl (by kernel_rfl) (by kernel_rfl) (by kernel_rfl) (fun _ _ _ h => h) (Or.inl ⟨by rfl, ?_⟩) (by assumption) ?_
    rotate_left
    · (intro w hSw; (try dsimp only at hSw); go_simp; (try with_reducible rfl))
    (try simp only [Act.put, List.setIfInBounds_toArray, List.set_cons_zero, List.set_cons_succ])
    refine wpAnyH_ready (rs := [2]) (by kernel_rfl) (by simp) ?_
    refine (AllReadyH.cons (o := { dst := some 55, op := Op.call { callee := Callee.value (Operand.func 6), args := #[Operand.tmp 53, Operand.tmp 54], argTypes := #[26, 27] }, type := 4, pos := "law.go:86", after := #[{ on := 0, ground := Ground.data }, { on := 1, ground := Ground.data }], guard := none }) rfl (fun K hK => ?_) AllReadyH.nil)
    go_simp
    refine (check_calls x (some ⟨g5, 0, none⟩) n c5 (xs.set at_ y) _ HX.out (Kd.C_below (own_C HO4.out) (below_drew (Below.refl _ _))) hc5).mono ?_
    rintro e v2 ⟨rfl, hb2⟩
    rw [HCS.out]
    have HZ := Aside0.mk (below_go (below_drew (Below.refl W4.heap.size W4)) hb2)
    clear hb2
    refine hK.out _ _ ?_ (fun hHeld => ?_)
    · exact (HI4.out.below HZ.out).plus (pw_cell_below HZ.out f4)
    clear hK K
    (try simp only [Act.put, List.setIfInBounds_toArray, List.set_cons_zero, List.set_cons_succ])
    refine wpAnyH_take (i := 9) (oi := { dst := some 62, op := Op.binOp BinOp.eql 4 (Operand.tmp 55) (Operand.tmp 61) 4, type := 4, pos := "law.go:86", after := #[{ on := 2, ground := Ground.data }, { on := 8, ground := Ground.data }], guard := none }) (v := ?_) rfl (by kernel_rfl) (by kernel_rfl) (by kernel_rfl) (fun _ _ _ h => h) (Or.inl ⟨by rfl, ?_⟩) (by assumption) ?_
    rotate_left
    · (intro w hSw; (try dsimp only at hSw); go_simp; (try with_reducible rfl))
    (try simp only [Act.put, List.setIfInBounds_toArray, List.set_cons_zero, List.set_cons_succ])
    refine wpAnyH_ready (rs := [10]) (by kernel_rfl) (by simp) ?_
    refine (AllReadyH.cons (o := { dst := some 8, op := Op.assign (Operand.tmp 62), type := 4, pos := "law.go:86", after := #[{ on := 9, ground := Ground.data }, { on := 2, ground := Ground.chain }, { on := 0, ground := Ground.phase }, { on := 1, ground := Ground.phase }, { on := 2, ground := Ground.phase }, { on := 3, ground := Ground.phase }, { on := 4, ground := Ground.phase }, { on := 5, ground := Ground.phase }, { on := 6, ground := Ground.phase }, { on := 7, ground := Ground.phase }, { on := 8, ground := Ground.phase }, { on := 9, ground := Ground.phase }], guard := none }) rfl (fun K hK => ?_) AllReadyH.nil)
    go_simp
    refine hK.out _ _ ?_ (fun hHeld => ?_)
    · exact (HI4.out.below HZ.out).plus (pw_cell_below HZ.out f4)
    clear hK K
    (try simp only [Act.put, List.setIfInBounds_toArray, List.set_cons_zero, List.set_cons_succ])
    refine wpAnyH_done (by kernel_rfl) ?_ _
    go_wp2
    go_ret
    exact ⟨rfl, below_go HB6.out HZ.out⟩
end Go.Proofs.YtefgahakbnfdeaaDoor.Rc
