/- The two Checks. Written by genreccheck.py. -/
import Derived.Test.YtefgahakbnfdeaaDoorRecEnds
namespace Go.Proofs.YtefgahakbnfdeaaDoor.Rc
open Go.RowKit Go.Proofs.YtefgahakbnfdeaaDoorW.PrintWords Go.Proofs.YtefgahakbnfdeaaDoorW.PrintMore Go.Proofs.YtefgahakbnfdeaaDoor.Base
set_option linter.unusedVariables false
set_option linter.unusedSimpArgs false
theorem chk_bool (t bl k s ed n : Nat) (xs : List UInt8) (hL : xs.length = n) : decide (ChkIs (t, bl, k, s, ed) xs) = (((k : Int) == 1) && (((s : Int) == (Crc.sum (Crc.nat xs) : Int)) && ((ed : Int) == (endsAt xs n : Int)))) := by
  subst hL
  rw [Bool.eq_iff_iff, decide_eq_true_iff]
  simp only [Bool.and_eq_true, beq_iff_eq]
  unfold ChkIs
  dsimp only
  omega
theorem lit1 (W : World) (A : Option Addr) (n c : Nat) (xs : List UInt8) (h : byte.C W A n xs) (hc : n ≤ c) :
    (Kd.slice 5 byte).C (W.alloc (.cells #[.slice A n c] 27)) (some ⟨W.heap.size, 0, none⟩) 1 [xs] :=
  C_lit rfl (by exact ⟨K_bytes h (hc), trivial⟩) (by simp) rfl (by simp)
set_option maxRecDepth 100000 in
set_option maxHeartbeats 2000000 in
theorem rcheck_calls (x : Itm) (Ad : Option Addr) (n cap : Nat) (xs : List UInt8) (w : World) (hx : ItmOk x) (h : byte.C w Ad n xs) :
    Calls Tryd.prog 7 #[.agg (itV x), .slice Ad n cap] w fun e w' => e = .returned (.bool (decide (ChkIs x xs))) ∧ Below w.heap.size w w' := by
  obtain ⟨hlen, hmax⟩ := C_len h
  have HC := Aside0.mk h
  have HL := Aside0.mk hlen
  clear h hlen
  obtain ⟨t, bl, k, s, ed⟩ := x
  obtain ⟨ht, hbl, hk, hs, he⟩ := hx
  dsimp only at ht hbl hk hs he
  have HV := Aside0.mk (chk_bool t bl k s ed n xs HL.out)
  rw [HV.out]
  unfold itV
  dsimp only
  have hA := Aside0.mk (alloc_below w (.cells #[.int .u32 (t : Int), .int .u64 (bl : Int), .int .u8 (k : Int), .int .u32 (s : Int), .int .u16 (ed : Int)] 26))
  have k2 : (w.alloc (.cells #[.int .u32 (t : Int), .int .u64 (bl : Int), .int .u8 (k : Int), .int .u32 (s : Int), .int .u16 (ed : Int)] 26)).cell? ⟨w.heap.size, 2, none⟩ = some (.int .u8 (k : Int)) := by go_simp
  have k3 : (w.alloc (.cells #[.int .u32 (t : Int), .int .u64 (bl : Int), .int .u8 (k : Int), .int .u32 (s : Int), .int .u16 (ed : Int)] 26)).cell? ⟨w.heap.size, 3, none⟩ = some (.int .u32 (s : Int)) := by go_simp
  have k4 : (w.alloc (.cells #[.int .u32 (t : Int), .int .u64 (bl : Int), .int .u8 (k : Int), .int .u32 (s : Int), .int .u16 (ed : Int)] 26)).cell? ⟨w.heap.size, 4, none⟩ = some (.int .u16 (ed : Int)) := by go_simp
  have HC2 := Aside0.mk (Kd.C_below HC.out hA.out)
  obtain ⟨b1, h1⟩ : ∃ b, ((k : Int) == 1) = b := ⟨_, rfl⟩
  obtain ⟨b2, h2⟩ : ∃ b, ((s : Int) == (Crc.sum (Crc.nat xs) : Int)) = b := ⟨_, rfl⟩
  obtain ⟨b3, h3⟩ : ∃ b, ((ed : Int) == (endsAt xs n : Int)) = b := ⟨_, rfl⟩
  have hwe : IntKind.i64.wrap (ed : Int) = (ed : Int) := by rw [IntKind.wrap_i64]; omega
  rw [h1, h2, h3]
  clear HV HC
  cases b1
  case false =>
    go_enter Tryd.func7, Tryd.ntmps7
    go_wp2
    obtain ⟨W, hW⟩ : ∃ W, w.alloc (.cells #[.int .u32 (t : Int), .int .u64 (bl : Int), .int .u8 (k : Int), .int .u32 (s : Int), .int .u16 (ed : Int)] 26) = W := ⟨_, rfl⟩
    obtain ⟨g, hg⟩ : ∃ g, w.heap.size = g := ⟨_, rfl⟩
    rw [hW] at k2 k3 k4 hA HC2 ⊢
    rw [hg] at k2 k3 k4 ⊢
    have HG := Aside0.mk hg
    clear hg hW
    have HX0 := Aside0.mk (show Below W.heap.size W W.drew from below_drew (Below.refl _ _))
    refine wp_region_held_drew (S := fun w' => w'.cell? ⟨g, 2, none⟩ = some (.int .u8 (k : Int)) ∧ w'.cell? ⟨g, 3, none⟩ = some (.int .u32 (s : Int)) ∧ w'.cell? ⟨g, 4, none⟩ = some (.int .u16 (ed : Int))) (by kernel_rfl) ⟨pw_cell_below HX0.out k2, pw_cell_below HX0.out k3, pw_cell_below HX0.out k4⟩ (fun hHeld => ?_)
    refine wpAnyH_take (i := 0) (oi := { dst := some 5, op := Op.fieldAddr 26 (Operand.tmp 2) 2, type := 0, pos := "ref.go:80", after := #[], guard := none }) (v := ?_) rfl (by kernel_rfl) (by kernel_rfl) (by kernel_rfl) (fun _ _ _ h => h) (Or.inl ⟨by rfl, ?_⟩) (by assumption) ?_
    rotate_left
    · (intro w hSw; (try dsimp only at hSw); go_simp; (try with_reducible rfl))
    (try simp only [Act.put, List.setIfInBounds_toArray, List.set_cons_zero, List.set_cons_succ])
    refine wpAnyH_take (i := 1) (oi := { dst := some 6, op := Op.load 5 (Operand.tmp 5), type := 5, pos := "ref.go:80", after := #[{ on := 0, ground := Ground.data }], guard := none }) (v := ?_) rfl (by kernel_rfl) (by kernel_rfl) (by kernel_rfl) (fun _ _ _ h => h) (Or.inl ⟨by rfl, ?_⟩) (by assumption) ?_
    rotate_left
    · (intro w hSw; (try dsimp only at hSw); go_simp; (try with_reducible rfl))
    (try simp only [Act.put, List.setIfInBounds_toArray, List.set_cons_zero, List.set_cons_succ])
    refine wpAnyH_take (i := 2) (oi := { dst := some 7, op := Op.binOp BinOp.eql 5 (Operand.tmp 6) (Operand.const (Value.int IntKind.u8 1)) 5, type := 4, pos := "ref.go:80", after := #[{ on := 1, ground := Ground.data }], guard := none }) (v := ?_) rfl (by kernel_rfl) (by kernel_rfl) (by kernel_rfl) (fun _ _ _ h => h) (Or.inl ⟨by rfl, ?_⟩) (by assumption) ?_
    rotate_left
    · (intro w hSw; (try dsimp only at hSw); go_simp; (try with_reducible rfl))
    (try simp only [Act.put, List.setIfInBounds_toArray, List.set_cons_zero, List.set_cons_succ])
    refine wpAnyH_take (i := 3) (oi := { dst := some 8, op := Op.move (Operand.tmp 7), type := 4, pos := "ref.go:80", after := #[{ on := 2, ground := Ground.data }], guard := none }) (v := ?_) rfl (by kernel_rfl) (by kernel_rfl) (by kernel_rfl) (fun _ _ _ h => h) (Or.inl ⟨by rfl, ?_⟩) (by assumption) ?_
    rotate_left
    · (intro w hSw; (try dsimp only at hSw); go_simp; (try with_reducible rfl))
    (try simp only [Act.put, List.setIfInBounds_toArray, List.set_cons_zero, List.set_cons_succ])
    refine wpAnyH_take (i := 4) (oi := { dst := some 9, op := Op.fieldAddr 26 (Operand.tmp 2) 3, type := 0, pos := "ref.go:80", after := #[{ on := 3, ground := Ground.guard }], guard := some (3, true) }) (v := undef) rfl (by kernel_rfl) (by kernel_rfl) (by kernel_rfl) (fun _ _ _ h => h) (Or.inr ⟨by rfl, rfl⟩) (by assumption) ?_
    (try simp only [Act.put, List.setIfInBounds_toArray, List.set_cons_zero, List.set_cons_succ])
    refine wpAnyH_take (i := 5) (oi := { dst := some 10, op := Op.load 22 (Operand.tmp 9), type := 22, pos := "ref.go:80", after := #[{ on := 4, ground := Ground.data }, { on := 3, ground := Ground.guard }], guard := some (3, true) }) (v := undef) rfl (by kernel_rfl) (by kernel_rfl) (by kernel_rfl) (fun _ _ _ h => h) (Or.inr ⟨by rfl, rfl⟩) (by assumption) ?_
    (try simp only [Act.put, List.setIfInBounds_toArray, List.set_cons_zero, List.set_cons_succ])
    refine wpAnyH_take (i := 6) (oi := { dst := some 11, op := Op.move (Operand.tmp 1), type := 27, pos := "ref.go:80", after := #[{ on := 3, ground := Ground.guard }], guard := some (3, true) }) (v := undef) rfl (by kernel_rfl) (by kernel_rfl) (by kernel_rfl) (fun _ _ _ h => h) (Or.inr ⟨by rfl, rfl⟩) (by assumption) ?_
    (try simp only [Act.put, List.setIfInBounds_toArray, List.set_cons_zero, List.set_cons_succ])
    refine wpAnyH_take (i := 7) (oi := { dst := some 12, op := Op.call { callee := Callee.value (Operand.func 15), args := #[Operand.tmp 11], argTypes := #[27] }, type := 22, pos := "ref.go:80", after := #[{ on := 6, ground := Ground.data }, { on := 3, ground := Ground.chain }, { on := 3, ground := Ground.guard }], guard := some (3, true) }) (v := undef) rfl (by kernel_rfl) (by kernel_rfl) (by kernel_rfl) (fun _ _ _ h => h) (Or.inr ⟨by rfl, rfl⟩) (by assumption) ?_
    (try simp only [Act.put, List.setIfInBounds_toArray, List.set_cons_zero, List.set_cons_succ])
    refine wpAnyH_take (i := 8) (oi := { dst := some 13, op := Op.binOp BinOp.eql 22 (Operand.tmp 10) (Operand.tmp 12) 22, type := 4, pos := "ref.go:80", after := #[{ on := 5, ground := Ground.data }, { on := 7, ground := Ground.data }, { on := 3, ground := Ground.guard }], guard := some (3, true) }) (v := undef) rfl (by kernel_rfl) (by kernel_rfl) (by kernel_rfl) (fun _ _ _ h => h) (Or.inr ⟨by rfl, rfl⟩) (by assumption) ?_
    (try simp only [Act.put, List.setIfInBounds_toArray, List.set_cons_zero, List.set_cons_succ])
    refine wpAnyH_take (i := 9) (oi := { dst := some 14, op := Op.pick (Operand.tmp 8) (Operand.tmp 13) (Operand.const (Value.bool false)), type := 4, pos := "ref.go:80", after := #[{ on := 3, ground := Ground.data }, { on := 8, ground := Ground.data }], guard := none }) (v := ?_) rfl (by kernel_rfl) (by kernel_rfl) (by kernel_rfl) (fun _ _ _ h => h) (Or.inl ⟨by rfl, ?_⟩) (by assumption) ?_
    rotate_left
    · (intro w hSw; (try dsimp only at hSw); go_simp; (try with_reducible rfl))
    (try simp only [Act.put, List.setIfInBounds_toArray, List.set_cons_zero, List.set_cons_succ])
    refine wpAnyH_take (i := 10) (oi := { dst := some 15, op := Op.move (Operand.tmp 14), type := 4, pos := "ref.go:80", after := #[{ on := 9, ground := Ground.data }, { on := 7, ground := Ground.chain }], guard := none }) (v := ?_) rfl (by kernel_rfl) (by kernel_rfl) (by kernel_rfl) (fun _ _ _ h => h) (Or.inl ⟨by rfl, ?_⟩) (by assumption) ?_
    rotate_left
    · (intro w hSw; (try dsimp only at hSw); go_simp; (try with_reducible rfl))
    (try simp only [Act.put, List.setIfInBounds_toArray, List.set_cons_zero, List.set_cons_succ])
    refine wpAnyH_take (i := 11) (oi := { dst := some 16, op := Op.fieldAddr 26 (Operand.tmp 2) 4, type := 0, pos := "ref.go:80", after := #[{ on := 10, ground := Ground.guard }], guard := some (10, true) }) (v := undef) rfl (by kernel_rfl) (by kernel_rfl) (by kernel_rfl) (fun _ _ _ h => h) (Or.inr ⟨by rfl, rfl⟩) (by assumption) ?_
    (try simp only [Act.put, List.setIfInBounds_toArray, List.set_cons_zero, List.set_cons_succ])
    refine wpAnyH_take (i := 12) (oi := { dst := some 17, op := Op.load 24 (Operand.tmp 16), type := 24, pos := "ref.go:80", after := #[{ on := 11, ground := Ground.data }, { on := 10, ground := Ground.guard }], guard := some (10, true) }) (v := undef) rfl (by kernel_rfl) (by kernel_rfl) (by kernel_rfl) (fun _ _ _ h => h) (Or.inr ⟨by rfl, rfl⟩) (by assumption) ?_
    (try simp only [Act.put, List.setIfInBounds_toArray, List.set_cons_zero, List.set_cons_succ])
    refine wpAnyH_take (i := 13) (oi := { dst := some 18, op := Op.convert 24 3 (Operand.tmp 17), type := 3, pos := "ref.go:80", after := #[{ on := 12, ground := Ground.data }, { on := 10, ground := Ground.guard }], guard := some (10, true) }) (v := undef) rfl (by kernel_rfl) (by kernel_rfl) (by kernel_rfl) (fun _ _ _ h => h) (Or.inr ⟨by rfl, rfl⟩) (by assumption) ?_
    (try simp only [Act.put, List.setIfInBounds_toArray, List.set_cons_zero, List.set_cons_succ])
    refine wpAnyH_take (i := 14) (oi := { dst := some 19, op := Op.move (Operand.tmp 1), type := 27, pos := "ref.go:80", after := #[{ on := 10, ground := Ground.guard }], guard := some (10, true) }) (v := undef) rfl (by kernel_rfl) (by kernel_rfl) (by kernel_rfl) (fun _ _ _ h => h) (Or.inr ⟨by rfl, rfl⟩) (by assumption) ?_
    (try simp only [Act.put, List.setIfInBounds_toArray, List.set_cons_zero, List.set_cons_succ])
    refine wpAnyH_take (i := 15) (oi := { dst := some 20, op := Op.call { callee := Callee.value (Operand.func 9), args := #[Operand.tmp 19], argTypes := #[27] }, type := 3, pos := "ref.go:80", after := #[{ on := 14, ground := Ground.data }, { on := 10, ground := Ground.chain }, { on := 10, ground := Ground.guard }], guard := some (10, true) }) (v := undef) rfl (by kernel_rfl) (by kernel_rfl) (by kernel_rfl) (fun _ _ _ h => h) (Or.inr ⟨by rfl, rfl⟩) (by assumption) ?_
    (try simp only [Act.put, List.setIfInBounds_toArray, List.set_cons_zero, List.set_cons_succ])
    refine wpAnyH_take (i := 16) (oi := { dst := some 21, op := Op.binOp BinOp.eql 3 (Operand.tmp 18) (Operand.tmp 20) 3, type := 4, pos := "ref.go:80", after := #[{ on := 13, ground := Ground.data }, { on := 15, ground := Ground.data }, { on := 10, ground := Ground.guard }], guard := some (10, true) }) (v := undef) rfl (by kernel_rfl) (by kernel_rfl) (by kernel_rfl) (fun _ _ _ h => h) (Or.inr ⟨by rfl, rfl⟩) (by assumption) ?_
    (try simp only [Act.put, List.setIfInBounds_toArray, List.set_cons_zero, List.set_cons_succ])
    refine wpAnyH_take (i := 17) (oi := { dst := some 22, op := Op.pick (Operand.tmp 15) (Operand.tmp 21) (Operand.const (Value.bool false)), type := 4, pos := "ref.go:80", after := #[{ on := 10, ground := Ground.data }, { on := 16, ground := Ground.data }], guard := none }) (v := ?_) rfl (by kernel_rfl) (by kernel_rfl) (by kernel_rfl) (fun _ _ _ h => h) (Or.inl ⟨by rfl, ?_⟩) (by assumption) ?_
    rotate_left
    · (intro w hSw; (try dsimp only at hSw); go_simp; (try with_reducible rfl))
    (try simp only [Act.put, List.setIfInBounds_toArray, List.set_cons_zero, List.set_cons_succ])
    refine wpAnyH_ready (rs := [18]) (by kernel_rfl) (by simp) ?_
    refine (AllReadyH.cons (o := { dst := some 4, op := Op.assign (Operand.tmp 22), type := 4, pos := "ref.go:80", after := #[{ on := 17, ground := Ground.data }, { on := 15, ground := Ground.chain }, { on := 0, ground := Ground.phase }, { on := 1, ground := Ground.phase }, { on := 2, ground := Ground.phase }, { on := 3, ground := Ground.phase }, { on := 4, ground := Ground.phase }, { on := 5, ground := Ground.phase }, { on := 6, ground := Ground.phase }, { on := 7, ground := Ground.phase }, { on := 8, ground := Ground.phase }, { on := 9, ground := Ground.phase }, { on := 10, ground := Ground.phase }, { on := 11, ground := Ground.phase }, { on := 12, ground := Ground.phase }, { on := 13, ground := Ground.phase }, { on := 14, ground := Ground.phase }, { on := 15, ground := Ground.phase }, { on := 16, ground := Ground.phase }, { on := 17, ground := Ground.phase }], guard := none }) rfl (fun K hK => ?_) AllReadyH.nil)
    go_simp
    refine hK.out _ _ ?_ (fun hHeld => ?_)
    · exact ⟨pw_cell_below HX0.out k2, pw_cell_below HX0.out k3, pw_cell_below HX0.out k4⟩
    clear hK K
    (try simp only [Act.put, List.setIfInBounds_toArray, List.set_cons_zero, List.set_cons_succ])
    refine wpAnyH_done (by kernel_rfl) ?_ _
    have HB := Aside0.mk (Below.trans hA.out (HX0.out.mono (by have h1 := hA.out.size; have h2 := HG.out; omega)))
    go_wp2
    go_ret
    exact ⟨rfl, by first | exact HB.out | (have := HG.out; subst this; exact HB.out)⟩
  case true =>
    cases b2
    case false =>
      go_enter Tryd.func7, Tryd.ntmps7
      go_wp2
      obtain ⟨W, hW⟩ : ∃ W, w.alloc (.cells #[.int .u32 (t : Int), .int .u64 (bl : Int), .int .u8 (k : Int), .int .u32 (s : Int), .int .u16 (ed : Int)] 26) = W := ⟨_, rfl⟩
      obtain ⟨g, hg⟩ : ∃ g, w.heap.size = g := ⟨_, rfl⟩
      rw [hW] at k2 k3 k4 hA HC2 ⊢
      rw [hg] at k2 k3 k4 ⊢
      have HG := Aside0.mk hg
      clear hg hW
      have HX0 := Aside0.mk (show Below W.heap.size W W.drew from below_drew (Below.refl _ _))
      refine wp_region_held_drew (S := fun w' => w'.cell? ⟨g, 2, none⟩ = some (.int .u8 (k : Int)) ∧ w'.cell? ⟨g, 3, none⟩ = some (.int .u32 (s : Int)) ∧ w'.cell? ⟨g, 4, none⟩ = some (.int .u16 (ed : Int))) (by kernel_rfl) ⟨pw_cell_below HX0.out k2, pw_cell_below HX0.out k3, pw_cell_below HX0.out k4⟩ (fun hHeld => ?_)
      refine wpAnyH_take (i := 0) (oi := { dst := some 5, op := Op.fieldAddr 26 (Operand.tmp 2) 2, type := 0, pos := "ref.go:80", after := #[], guard := none }) (v := ?_) rfl (by kernel_rfl) (by kernel_rfl) (by kernel_rfl) (fun _ _ _ h => h) (Or.inl ⟨by rfl, ?_⟩) (by assumption) ?_
      rotate_left
      · (intro w hSw; (try dsimp only at hSw); go_simp; (try with_reducible rfl))
      (try simp only [Act.put, List.setIfInBounds_toArray, List.set_cons_zero, List.set_cons_succ])
      refine wpAnyH_take (i := 1) (oi := { dst := some 6, op := Op.load 5 (Operand.tmp 5), type := 5, pos := "ref.go:80", after := #[{ on := 0, ground := Ground.data }], guard := none }) (v := ?_) rfl (by kernel_rfl) (by kernel_rfl) (by kernel_rfl) (fun _ _ _ h => h) (Or.inl ⟨by rfl, ?_⟩) (by assumption) ?_
      rotate_left
      · (intro w hSw; (try dsimp only at hSw); go_simp; (try with_reducible rfl))
      (try simp only [Act.put, List.setIfInBounds_toArray, List.set_cons_zero, List.set_cons_succ])
      refine wpAnyH_take (i := 2) (oi := { dst := some 7, op := Op.binOp BinOp.eql 5 (Operand.tmp 6) (Operand.const (Value.int IntKind.u8 1)) 5, type := 4, pos := "ref.go:80", after := #[{ on := 1, ground := Ground.data }], guard := none }) (v := ?_) rfl (by kernel_rfl) (by kernel_rfl) (by kernel_rfl) (fun _ _ _ h => h) (Or.inl ⟨by rfl, ?_⟩) (by assumption) ?_
      rotate_left
      · (intro w hSw; (try dsimp only at hSw); go_simp; (try with_reducible rfl))
      (try simp only [Act.put, List.setIfInBounds_toArray, List.set_cons_zero, List.set_cons_succ])
      refine wpAnyH_take (i := 3) (oi := { dst := some 8, op := Op.move (Operand.tmp 7), type := 4, pos := "ref.go:80", after := #[{ on := 2, ground := Ground.data }], guard := none }) (v := ?_) rfl (by kernel_rfl) (by kernel_rfl) (by kernel_rfl) (fun _ _ _ h => h) (Or.inl ⟨by rfl, ?_⟩) (by assumption) ?_
      rotate_left
      · (intro w hSw; (try dsimp only at hSw); go_simp; (try with_reducible rfl))
      (try simp only [Act.put, List.setIfInBounds_toArray, List.set_cons_zero, List.set_cons_succ])
      refine wpAnyH_take (i := 4) (oi := { dst := some 9, op := Op.fieldAddr 26 (Operand.tmp 2) 3, type := 0, pos := "ref.go:80", after := #[{ on := 3, ground := Ground.guard }], guard := some (3, true) }) (v := ?_) rfl (by kernel_rfl) (by kernel_rfl) (by kernel_rfl) (fun _ _ _ h => h) (Or.inl ⟨by rfl, ?_⟩) (by assumption) ?_
      rotate_left
      · (intro w hSw; (try dsimp only at hSw); go_simp; (try with_reducible rfl))
      (try simp only [Act.put, List.setIfInBounds_toArray, List.set_cons_zero, List.set_cons_succ])
      refine wpAnyH_take (i := 5) (oi := { dst := some 10, op := Op.load 22 (Operand.tmp 9), type := 22, pos := "ref.go:80", after := #[{ on := 4, ground := Ground.data }, { on := 3, ground := Ground.guard }], guard := some (3, true) }) (v := ?_) rfl (by kernel_rfl) (by kernel_rfl) (by kernel_rfl) (fun _ _ _ h => h) (Or.inl ⟨by rfl, ?_⟩) (by assumption) ?_
      rotate_left
      · (intro w hSw; (try dsimp only at hSw); go_simp; (try with_reducible rfl))
      (try simp only [Act.put, List.setIfInBounds_toArray, List.set_cons_zero, List.set_cons_succ])
      refine wpAnyH_take (i := 6) (oi := { dst := some 11, op := Op.move (Operand.tmp 1), type := 27, pos := "ref.go:80", after := #[{ on := 3, ground := Ground.guard }], guard := some (3, true) }) (v := ?_) rfl (by kernel_rfl) (by kernel_rfl) (by kernel_rfl) (fun _ _ _ h => h) (Or.inl ⟨by rfl, ?_⟩) (by assumption) ?_
      rotate_left
      · (intro w hSw; (try dsimp only at hSw); go_simp; (try with_reducible rfl))
      (try simp only [Act.put, List.setIfInBounds_toArray, List.set_cons_zero, List.set_cons_succ])
      refine wpAnyH_ready (rs := [7]) (by kernel_rfl) (by simp) ?_
      refine (AllReadyH.cons (o := { dst := some 12, op := Op.call { callee := Callee.value (Operand.func 15), args := #[Operand.tmp 11], argTypes := #[27] }, type := 22, pos := "ref.go:80", after := #[{ on := 6, ground := Ground.data }, { on := 3, ground := Ground.chain }, { on := 3, ground := Ground.guard }], guard := some (3, true) }) rfl (fun K hK => ?_) AllReadyH.nil)
      go_simp
      refine (Crc.ref_sum_calls Ad n cap xs _ (Kd.C_below HC2.out HX0.out)).mono ?_
      rintro e w1 ⟨rfl, rfl⟩
      have HX1 := HX0
      refine hK.out _ _ ?_ (fun hHeld => ?_)
      · exact ⟨pw_cell_below HX1.out k2, pw_cell_below HX1.out k3, pw_cell_below HX1.out k4⟩
      clear hK K
      (try simp only [Act.put, List.setIfInBounds_toArray, List.set_cons_zero, List.set_cons_succ])
      refine wpAnyH_take (i := 8) (oi := { dst := some 13, op := Op.binOp BinOp.eql 22 (Operand.tmp 10) (Operand.tmp 12) 22, type := 4, pos := "ref.go:80", after := #[{ on := 5, ground := Ground.data }, { on := 7, ground := Ground.data }, { on := 3, ground := Ground.guard }], guard := some (3, true) }) (v := ?_) rfl (by kernel_rfl) (by kernel_rfl) (by kernel_rfl) (fun _ _ _ h => h) (Or.inl ⟨by rfl, ?_⟩) (by assumption) ?_
      rotate_left
      · (intro w hSw; (try dsimp only at hSw); go_simp; (try with_reducible rfl))
      (try simp only [Act.put, List.setIfInBounds_toArray, List.set_cons_zero, List.set_cons_succ])
      refine wpAnyH_take (i := 9) (oi := { dst := some 14, op := Op.pick (Operand.tmp 8) (Operand.tmp 13) (Operand.const (Value.bool false)), type := 4, pos := "ref.go:80", after := #[{ on := 3, ground := Ground.data }, { on := 8, ground := Ground.data }], guard := none }) (v := ?_) rfl (by kernel_rfl) (by kernel_rfl) (by kernel_rfl) (fun _ _ _ h => h) (Or.inl ⟨by rfl, ?_⟩) (by assumption) ?_
      rotate_left
      · (intro w hSw; (try dsimp only at hSw); go_simp; (try with_reducible rfl))
      (try simp only [Act.put, List.setIfInBounds_toArray, List.set_cons_zero, List.set_cons_succ])
      refine wpAnyH_take (i := 10) (oi := { dst := some 15, op := Op.move (Operand.tmp 14), type := 4, pos := "ref.go:80", after := #[{ on := 9, ground := Ground.data }, { on := 7, ground := Ground.chain }], guard := none }) (v := ?_) rfl (by kernel_rfl) (by kernel_rfl) (by kernel_rfl) (fun _ _ _ h => h) (Or.inl ⟨by rfl, ?_⟩) (by assumption) ?_
      rotate_left
      · (intro w hSw; (try dsimp only at hSw); go_simp; (try with_reducible rfl))
      (try simp only [Act.put, List.setIfInBounds_toArray, List.set_cons_zero, List.set_cons_succ])
      refine wpAnyH_take (i := 11) (oi := { dst := some 16, op := Op.fieldAddr 26 (Operand.tmp 2) 4, type := 0, pos := "ref.go:80", after := #[{ on := 10, ground := Ground.guard }], guard := some (10, true) }) (v := undef) rfl (by kernel_rfl) (by kernel_rfl) (by kernel_rfl) (fun _ _ _ h => h) (Or.inr ⟨by rfl, rfl⟩) (by assumption) ?_
      (try simp only [Act.put, List.setIfInBounds_toArray, List.set_cons_zero, List.set_cons_succ])
      refine wpAnyH_take (i := 12) (oi := { dst := some 17, op := Op.load 24 (Operand.tmp 16), type := 24, pos := "ref.go:80", after := #[{ on := 11, ground := Ground.data }, { on := 10, ground := Ground.guard }], guard := some (10, true) }) (v := undef) rfl (by kernel_rfl) (by kernel_rfl) (by kernel_rfl) (fun _ _ _ h => h) (Or.inr ⟨by rfl, rfl⟩) (by assumption) ?_
      (try simp only [Act.put, List.setIfInBounds_toArray, List.set_cons_zero, List.set_cons_succ])
      refine wpAnyH_take (i := 13) (oi := { dst := some 18, op := Op.convert 24 3 (Operand.tmp 17), type := 3, pos := "ref.go:80", after := #[{ on := 12, ground := Ground.data }, { on := 10, ground := Ground.guard }], guard := some (10, true) }) (v := undef) rfl (by kernel_rfl) (by kernel_rfl) (by kernel_rfl) (fun _ _ _ h => h) (Or.inr ⟨by rfl, rfl⟩) (by assumption) ?_
      (try simp only [Act.put, List.setIfInBounds_toArray, List.set_cons_zero, List.set_cons_succ])
      refine wpAnyH_take (i := 14) (oi := { dst := some 19, op := Op.move (Operand.tmp 1), type := 27, pos := "ref.go:80", after := #[{ on := 10, ground := Ground.guard }], guard := some (10, true) }) (v := undef) rfl (by kernel_rfl) (by kernel_rfl) (by kernel_rfl) (fun _ _ _ h => h) (Or.inr ⟨by rfl, rfl⟩) (by assumption) ?_
      (try simp only [Act.put, List.setIfInBounds_toArray, List.set_cons_zero, List.set_cons_succ])
      refine wpAnyH_take (i := 15) (oi := { dst := some 20, op := Op.call { callee := Callee.value (Operand.func 9), args := #[Operand.tmp 19], argTypes := #[27] }, type := 3, pos := "ref.go:80", after := #[{ on := 14, ground := Ground.data }, { on := 10, ground := Ground.chain }, { on := 10, ground := Ground.guard }], guard := some (10, true) }) (v := undef) rfl (by kernel_rfl) (by kernel_rfl) (by kernel_rfl) (fun _ _ _ h => h) (Or.inr ⟨by rfl, rfl⟩) (by assumption) ?_
      (try simp only [Act.put, List.setIfInBounds_toArray, List.set_cons_zero, List.set_cons_succ])
      refine wpAnyH_take (i := 16) (oi := { dst := some 21, op := Op.binOp BinOp.eql 3 (Operand.tmp 18) (Operand.tmp 20) 3, type := 4, pos := "ref.go:80", after := #[{ on := 13, ground := Ground.data }, { on := 15, ground := Ground.data }, { on := 10, ground := Ground.guard }], guard := some (10, true) }) (v := undef) rfl (by kernel_rfl) (by kernel_rfl) (by kernel_rfl) (fun _ _ _ h => h) (Or.inr ⟨by rfl, rfl⟩) (by assumption) ?_
      (try simp only [Act.put, List.setIfInBounds_toArray, List.set_cons_zero, List.set_cons_succ])
      refine wpAnyH_take (i := 17) (oi := { dst := some 22, op := Op.pick (Operand.tmp 15) (Operand.tmp 21) (Operand.const (Value.bool false)), type := 4, pos := "ref.go:80", after := #[{ on := 10, ground := Ground.data }, { on := 16, ground := Ground.data }], guard := none }) (v := ?_) rfl (by kernel_rfl) (by kernel_rfl) (by kernel_rfl) (fun _ _ _ h => h) (Or.inl ⟨by rfl, ?_⟩) (by assumption) ?_
      rotate_left
      · (intro w hSw; (try dsimp only at hSw); go_simp; (try with_reducible rfl))
      (try simp only [Act.put, List.setIfInBounds_toArray, List.set_cons_zero, List.set_cons_succ])
      refine wpAnyH_ready (rs := [18]) (by kernel_rfl) (by simp) ?_
      refine (AllReadyH.cons (o := { dst := some 4, op := Op.assign (Operand.tmp 22), type := 4, pos := "ref.go:80", after := #[{ on := 17, ground := Ground.data }, { on := 15, ground := Ground.chain }, { on := 0, ground := Ground.phase }, { on := 1, ground := Ground.phase }, { on := 2, ground := Ground.phase }, { on := 3, ground := Ground.phase }, { on := 4, ground := Ground.phase }, { on := 5, ground := Ground.phase }, { on := 6, ground := Ground.phase }, { on := 7, ground := Ground.phase }, { on := 8, ground := Ground.phase }, { on := 9, ground := Ground.phase }, { on := 10, ground := Ground.phase }, { on := 11, ground := Ground.phase }, { on := 12, ground := Ground.phase }, { on := 13, ground := Ground.phase }, { on := 14, ground := Ground.phase }, { on := 15, ground := Ground.phase }, { on := 16, ground := Ground.phase }, { on := 17, ground := Ground.phase }], guard := none }) rfl (fun K hK => ?_) AllReadyH.nil)
      go_simp
      refine hK.out _ _ ?_ (fun hHeld => ?_)
      · exact ⟨pw_cell_below HX1.out k2, pw_cell_below HX1.out k3, pw_cell_below HX1.out k4⟩
      clear hK K
      (try simp only [Act.put, List.setIfInBounds_toArray, List.set_cons_zero, List.set_cons_succ])
      refine wpAnyH_done (by kernel_rfl) ?_ _
      have HB := Aside0.mk (Below.trans hA.out (HX1.out.mono (by have h1 := hA.out.size; have h2 := HG.out; omega)))
      go_wp2
      go_ret
      exact ⟨rfl, by first | exact HB.out | (have := HG.out; subst this; exact HB.out)⟩
    case true =>
      go_enter Tryd.func7, Tryd.ntmps7
      go_wp2
      obtain ⟨W, hW⟩ : ∃ W, w.alloc (.cells #[.int .u32 (t : Int), .int .u64 (bl : Int), .int .u8 (k : Int), .int .u32 (s : Int), .int .u16 (ed : Int)] 26) = W := ⟨_, rfl⟩
      obtain ⟨g, hg⟩ : ∃ g, w.heap.size = g := ⟨_, rfl⟩
      rw [hW] at k2 k3 k4 hA HC2 ⊢
      rw [hg] at k2 k3 k4 ⊢
      have HG := Aside0.mk hg
      clear hg hW
      have HX0 := Aside0.mk (show Below W.heap.size W W.drew from below_drew (Below.refl _ _))
      refine wp_region_held_drew (S := fun w' => w'.cell? ⟨g, 2, none⟩ = some (.int .u8 (k : Int)) ∧ w'.cell? ⟨g, 3, none⟩ = some (.int .u32 (s : Int)) ∧ w'.cell? ⟨g, 4, none⟩ = some (.int .u16 (ed : Int))) (by kernel_rfl) ⟨pw_cell_below HX0.out k2, pw_cell_below HX0.out k3, pw_cell_below HX0.out k4⟩ (fun hHeld => ?_)
      refine wpAnyH_take (i := 0) (oi := { dst := some 5, op := Op.fieldAddr 26 (Operand.tmp 2) 2, type := 0, pos := "ref.go:80", after := #[], guard := none }) (v := ?_) rfl (by kernel_rfl) (by kernel_rfl) (by kernel_rfl) (fun _ _ _ h => h) (Or.inl ⟨by rfl, ?_⟩) (by assumption) ?_
      rotate_left
      · (intro w hSw; (try dsimp only at hSw); go_simp; (try with_reducible rfl))
      (try simp only [Act.put, List.setIfInBounds_toArray, List.set_cons_zero, List.set_cons_succ])
      refine wpAnyH_take (i := 1) (oi := { dst := some 6, op := Op.load 5 (Operand.tmp 5), type := 5, pos := "ref.go:80", after := #[{ on := 0, ground := Ground.data }], guard := none }) (v := ?_) rfl (by kernel_rfl) (by kernel_rfl) (by kernel_rfl) (fun _ _ _ h => h) (Or.inl ⟨by rfl, ?_⟩) (by assumption) ?_
      rotate_left
      · (intro w hSw; (try dsimp only at hSw); go_simp; (try with_reducible rfl))
      (try simp only [Act.put, List.setIfInBounds_toArray, List.set_cons_zero, List.set_cons_succ])
      refine wpAnyH_take (i := 2) (oi := { dst := some 7, op := Op.binOp BinOp.eql 5 (Operand.tmp 6) (Operand.const (Value.int IntKind.u8 1)) 5, type := 4, pos := "ref.go:80", after := #[{ on := 1, ground := Ground.data }], guard := none }) (v := ?_) rfl (by kernel_rfl) (by kernel_rfl) (by kernel_rfl) (fun _ _ _ h => h) (Or.inl ⟨by rfl, ?_⟩) (by assumption) ?_
      rotate_left
      · (intro w hSw; (try dsimp only at hSw); go_simp; (try with_reducible rfl))
      (try simp only [Act.put, List.setIfInBounds_toArray, List.set_cons_zero, List.set_cons_succ])
      refine wpAnyH_take (i := 3) (oi := { dst := some 8, op := Op.move (Operand.tmp 7), type := 4, pos := "ref.go:80", after := #[{ on := 2, ground := Ground.data }], guard := none }) (v := ?_) rfl (by kernel_rfl) (by kernel_rfl) (by kernel_rfl) (fun _ _ _ h => h) (Or.inl ⟨by rfl, ?_⟩) (by assumption) ?_
      rotate_left
      · (intro w hSw; (try dsimp only at hSw); go_simp; (try with_reducible rfl))
      (try simp only [Act.put, List.setIfInBounds_toArray, List.set_cons_zero, List.set_cons_succ])
      refine wpAnyH_take (i := 4) (oi := { dst := some 9, op := Op.fieldAddr 26 (Operand.tmp 2) 3, type := 0, pos := "ref.go:80", after := #[{ on := 3, ground := Ground.guard }], guard := some (3, true) }) (v := ?_) rfl (by kernel_rfl) (by kernel_rfl) (by kernel_rfl) (fun _ _ _ h => h) (Or.inl ⟨by rfl, ?_⟩) (by assumption) ?_
      rotate_left
      · (intro w hSw; (try dsimp only at hSw); go_simp; (try with_reducible rfl))
      (try simp only [Act.put, List.setIfInBounds_toArray, List.set_cons_zero, List.set_cons_succ])
      refine wpAnyH_take (i := 5) (oi := { dst := some 10, op := Op.load 22 (Operand.tmp 9), type := 22, pos := "ref.go:80", after := #[{ on := 4, ground := Ground.data }, { on := 3, ground := Ground.guard }], guard := some (3, true) }) (v := ?_) rfl (by kernel_rfl) (by kernel_rfl) (by kernel_rfl) (fun _ _ _ h => h) (Or.inl ⟨by rfl, ?_⟩) (by assumption) ?_
      rotate_left
      · (intro w hSw; (try dsimp only at hSw); go_simp; (try with_reducible rfl))
      (try simp only [Act.put, List.setIfInBounds_toArray, List.set_cons_zero, List.set_cons_succ])
      refine wpAnyH_take (i := 6) (oi := { dst := some 11, op := Op.move (Operand.tmp 1), type := 27, pos := "ref.go:80", after := #[{ on := 3, ground := Ground.guard }], guard := some (3, true) }) (v := ?_) rfl (by kernel_rfl) (by kernel_rfl) (by kernel_rfl) (fun _ _ _ h => h) (Or.inl ⟨by rfl, ?_⟩) (by assumption) ?_
      rotate_left
      · (intro w hSw; (try dsimp only at hSw); go_simp; (try with_reducible rfl))
      (try simp only [Act.put, List.setIfInBounds_toArray, List.set_cons_zero, List.set_cons_succ])
      refine wpAnyH_ready (rs := [7]) (by kernel_rfl) (by simp) ?_
      refine (AllReadyH.cons (o := { dst := some 12, op := Op.call { callee := Callee.value (Operand.func 15), args := #[Operand.tmp 11], argTypes := #[27] }, type := 22, pos := "ref.go:80", after := #[{ on := 6, ground := Ground.data }, { on := 3, ground := Ground.chain }, { on := 3, ground := Ground.guard }], guard := some (3, true) }) rfl (fun K hK => ?_) AllReadyH.nil)
      go_simp
      refine (Crc.ref_sum_calls Ad n cap xs _ (Kd.C_below HC2.out HX0.out)).mono ?_
      rintro e w1 ⟨rfl, rfl⟩
      have HX1 := HX0
      refine hK.out _ _ ?_ (fun hHeld => ?_)
      · exact ⟨pw_cell_below HX1.out k2, pw_cell_below HX1.out k3, pw_cell_below HX1.out k4⟩
      clear hK K
      (try simp only [Act.put, List.setIfInBounds_toArray, List.set_cons_zero, List.set_cons_succ])
      refine wpAnyH_take (i := 8) (oi := { dst := some 13, op := Op.binOp BinOp.eql 22 (Operand.tmp 10) (Operand.tmp 12) 22, type := 4, pos := "ref.go:80", after := #[{ on := 5, ground := Ground.data }, { on := 7, ground := Ground.data }, { on := 3, ground := Ground.guard }], guard := some (3, true) }) (v := ?_) rfl (by kernel_rfl) (by kernel_rfl) (by kernel_rfl) (fun _ _ _ h => h) (Or.inl ⟨by rfl, ?_⟩) (by assumption) ?_
      rotate_left
      · (intro w hSw; (try dsimp only at hSw); go_simp; (try with_reducible rfl))
      (try simp only [Act.put, List.setIfInBounds_toArray, List.set_cons_zero, List.set_cons_succ])
      refine wpAnyH_take (i := 9) (oi := { dst := some 14, op := Op.pick (Operand.tmp 8) (Operand.tmp 13) (Operand.const (Value.bool false)), type := 4, pos := "ref.go:80", after := #[{ on := 3, ground := Ground.data }, { on := 8, ground := Ground.data }], guard := none }) (v := ?_) rfl (by kernel_rfl) (by kernel_rfl) (by kernel_rfl) (fun _ _ _ h => h) (Or.inl ⟨by rfl, ?_⟩) (by assumption) ?_
      rotate_left
      · (intro w hSw; (try dsimp only at hSw); go_simp; (try with_reducible rfl))
      (try simp only [Act.put, List.setIfInBounds_toArray, List.set_cons_zero, List.set_cons_succ])
      refine wpAnyH_take (i := 10) (oi := { dst := some 15, op := Op.move (Operand.tmp 14), type := 4, pos := "ref.go:80", after := #[{ on := 9, ground := Ground.data }, { on := 7, ground := Ground.chain }], guard := none }) (v := ?_) rfl (by kernel_rfl) (by kernel_rfl) (by kernel_rfl) (fun _ _ _ h => h) (Or.inl ⟨by rfl, ?_⟩) (by assumption) ?_
      rotate_left
      · (intro w hSw; (try dsimp only at hSw); go_simp; (try with_reducible rfl))
      (try simp only [Act.put, List.setIfInBounds_toArray, List.set_cons_zero, List.set_cons_succ])
      refine wpAnyH_take (i := 11) (oi := { dst := some 16, op := Op.fieldAddr 26 (Operand.tmp 2) 4, type := 0, pos := "ref.go:80", after := #[{ on := 10, ground := Ground.guard }], guard := some (10, true) }) (v := ?_) rfl (by kernel_rfl) (by kernel_rfl) (by kernel_rfl) (fun _ _ _ h => h) (Or.inl ⟨by rfl, ?_⟩) (by assumption) ?_
      rotate_left
      · (intro w hSw; (try dsimp only at hSw); go_simp; (try with_reducible rfl))
      (try simp only [Act.put, List.setIfInBounds_toArray, List.set_cons_zero, List.set_cons_succ])
      refine wpAnyH_take (i := 12) (oi := { dst := some 17, op := Op.load 24 (Operand.tmp 16), type := 24, pos := "ref.go:80", after := #[{ on := 11, ground := Ground.data }, { on := 10, ground := Ground.guard }], guard := some (10, true) }) (v := ?_) rfl (by kernel_rfl) (by kernel_rfl) (by kernel_rfl) (fun _ _ _ h => h) (Or.inl ⟨by rfl, ?_⟩) (by assumption) ?_
      rotate_left
      · (intro w hSw; (try dsimp only at hSw); go_simp; (try with_reducible rfl))
      (try simp only [Act.put, List.setIfInBounds_toArray, List.set_cons_zero, List.set_cons_succ])
      refine wpAnyH_take (i := 13) (oi := { dst := some 18, op := Op.convert 24 3 (Operand.tmp 17), type := 3, pos := "ref.go:80", after := #[{ on := 12, ground := Ground.data }, { on := 10, ground := Ground.guard }], guard := some (10, true) }) (v := ?_) rfl (by kernel_rfl) (by kernel_rfl) (by kernel_rfl) (fun _ _ _ h => h) (Or.inl ⟨by rfl, ?_⟩) (by assumption) ?_
      rotate_left
      · (intro w hSw; (try dsimp only at hSw); go_simp; (try with_reducible rfl))
      (try simp only [Act.put, List.setIfInBounds_toArray, List.set_cons_zero, List.set_cons_succ])
      refine wpAnyH_take (i := 14) (oi := { dst := some 19, op := Op.move (Operand.tmp 1), type := 27, pos := "ref.go:80", after := #[{ on := 10, ground := Ground.guard }], guard := some (10, true) }) (v := ?_) rfl (by kernel_rfl) (by kernel_rfl) (by kernel_rfl) (fun _ _ _ h => h) (Or.inl ⟨by rfl, ?_⟩) (by assumption) ?_
      rotate_left
      · (intro w hSw; (try dsimp only at hSw); go_simp; (try with_reducible rfl))
      (try simp only [Act.put, List.setIfInBounds_toArray, List.set_cons_zero, List.set_cons_succ])
      refine wpAnyH_ready (rs := [15]) (by kernel_rfl) (by simp) ?_
      refine (AllReadyH.cons (o := { dst := some 20, op := Op.call { callee := Callee.value (Operand.func 9), args := #[Operand.tmp 19], argTypes := #[27] }, type := 3, pos := "ref.go:80", after := #[{ on := 14, ground := Ground.data }, { on := 10, ground := Ground.chain }, { on := 10, ground := Ground.guard }], guard := some (10, true) }) rfl (fun K hK => ?_) AllReadyH.nil)
      go_simp
      refine (rends_calls Ad n cap xs _ (Kd.C_below HC2.out HX1.out)).mono ?_
      rintro e w2 ⟨rfl, rfl⟩
      have HX2 := HX1
      refine hK.out _ _ ?_ (fun hHeld => ?_)
      · exact ⟨pw_cell_below HX2.out k2, pw_cell_below HX2.out k3, pw_cell_below HX2.out k4⟩
      clear hK K
      (try simp only [Act.put, List.setIfInBounds_toArray, List.set_cons_zero, List.set_cons_succ])
      refine wpAnyH_take (i := 16) (oi := { dst := some 21, op := Op.binOp BinOp.eql 3 (Operand.tmp 18) (Operand.tmp 20) 3, type := 4, pos := "ref.go:80", after := #[{ on := 13, ground := Ground.data }, { on := 15, ground := Ground.data }, { on := 10, ground := Ground.guard }], guard := some (10, true) }) (v := ?_) rfl (by kernel_rfl) (by kernel_rfl) (by kernel_rfl) (fun _ _ _ h => h) (Or.inl ⟨by rfl, ?_⟩) (by assumption) ?_
      rotate_left
      · (intro w hSw; (try dsimp only at hSw); go_simp; (try with_reducible rfl))
      (try simp only [Act.put, List.setIfInBounds_toArray, List.set_cons_zero, List.set_cons_succ])
      refine wpAnyH_take (i := 17) (oi := { dst := some 22, op := Op.pick (Operand.tmp 15) (Operand.tmp 21) (Operand.const (Value.bool false)), type := 4, pos := "ref.go:80", after := #[{ on := 10, ground := Ground.data }, { on := 16, ground := Ground.data }], guard := none }) (v := ?_) rfl (by kernel_rfl) (by kernel_rfl) (by kernel_rfl) (fun _ _ _ h => h) (Or.inl ⟨by rfl, ?_⟩) (by assumption) ?_
      rotate_left
      · (intro w hSw; (try dsimp only at hSw); go_simp; (try with_reducible rfl))
      (try simp only [Act.put, List.setIfInBounds_toArray, List.set_cons_zero, List.set_cons_succ])
      refine wpAnyH_ready (rs := [18]) (by kernel_rfl) (by simp) ?_
      refine (AllReadyH.cons (o := { dst := some 4, op := Op.assign (Operand.tmp 22), type := 4, pos := "ref.go:80", after := #[{ on := 17, ground := Ground.data }, { on := 15, ground := Ground.chain }, { on := 0, ground := Ground.phase }, { on := 1, ground := Ground.phase }, { on := 2, ground := Ground.phase }, { on := 3, ground := Ground.phase }, { on := 4, ground := Ground.phase }, { on := 5, ground := Ground.phase }, { on := 6, ground := Ground.phase }, { on := 7, ground := Ground.phase }, { on := 8, ground := Ground.phase }, { on := 9, ground := Ground.phase }, { on := 10, ground := Ground.phase }, { on := 11, ground := Ground.phase }, { on := 12, ground := Ground.phase }, { on := 13, ground := Ground.phase }, { on := 14, ground := Ground.phase }, { on := 15, ground := Ground.phase }, { on := 16, ground := Ground.phase }, { on := 17, ground := Ground.phase }], guard := none }) rfl (fun K hK => ?_) AllReadyH.nil)
      go_simp
      refine hK.out _ _ ?_ (fun hHeld => ?_)
      · exact ⟨pw_cell_below HX2.out k2, pw_cell_below HX2.out k3, pw_cell_below HX2.out k4⟩
      clear hK K
      (try simp only [Act.put, List.setIfInBounds_toArray, List.set_cons_zero, List.set_cons_succ])
      refine wpAnyH_done (by kernel_rfl) ?_ _
      have HB := Aside0.mk (Below.trans hA.out (HX2.out.mono (by have h1 := hA.out.size; have h2 := HG.out; omega)))
      go_wp2
      go_ret
      exact ⟨rfl, by first | exact HB.out | (have := HG.out; subst this; exact HB.out)⟩
set_option maxRecDepth 100000 in
set_option maxHeartbeats 2000000 in
theorem check_calls (x : Itm) (Ad : Option Addr) (n cap : Nat) (xs : List UInt8) (w : World) (hx : ItmOk x) (h : byte.C w Ad n xs) (hcap : n ≤ cap) :
    Calls Tryd.prog 6 #[.agg (itV x), .slice Ad n cap] w fun e w' => e = .returned (.bool (decide (ChkIs x xs))) ∧ Below w.heap.size w w' := by
  obtain ⟨hlen, hmax⟩ := C_len h
  have HC := Aside0.mk h
  have HL := Aside0.mk hlen
  clear h hlen
  obtain ⟨t, bl, k, s, ed⟩ := x
  obtain ⟨ht, hbl, hk, hs, he⟩ := hx
  dsimp only at ht hbl hk hs he
  have HV := Aside0.mk (chk_bool t bl k s ed n xs HL.out)
  rw [HV.out]
  unfold itV
  dsimp only
  have hA := Aside0.mk (alloc_below w (.cells #[.int .u32 (t : Int), .int .u64 (bl : Int), .int .u8 (k : Int), .int .u32 (s : Int), .int .u16 (ed : Int)] 26))
  have k2 : (w.alloc (.cells #[.int .u32 (t : Int), .int .u64 (bl : Int), .int .u8 (k : Int), .int .u32 (s : Int), .int .u16 (ed : Int)] 26)).cell? ⟨w.heap.size, 2, none⟩ = some (.int .u8 (k : Int)) := by go_simp
  have k3 : (w.alloc (.cells #[.int .u32 (t : Int), .int .u64 (bl : Int), .int .u8 (k : Int), .int .u32 (s : Int), .int .u16 (ed : Int)] 26)).cell? ⟨w.heap.size, 3, none⟩ = some (.int .u32 (s : Int)) := by go_simp
  have k4 : (w.alloc (.cells #[.int .u32 (t : Int), .int .u64 (bl : Int), .int .u8 (k : Int), .int .u32 (s : Int), .int .u16 (ed : Int)] 26)).cell? ⟨w.heap.size, 4, none⟩ = some (.int .u16 (ed : Int)) := by go_simp
  have HC2 := Aside0.mk (Kd.C_below HC.out hA.out)
  obtain ⟨b1, h1⟩ : ∃ b, ((k : Int) == 1) = b := ⟨_, rfl⟩
  obtain ⟨b2, h2⟩ : ∃ b, ((s : Int) == (Crc.sum (Crc.nat xs) : Int)) = b := ⟨_, rfl⟩
  obtain ⟨b3, h3⟩ : ∃ b, ((ed : Int) == (endsAt xs n : Int)) = b := ⟨_, rfl⟩
  have hwe : IntKind.i64.wrap (ed : Int) = (ed : Int) := by rw [IntKind.wrap_i64]; omega
  rw [h1, h2, h3]
  clear HV HC
  cases b1
  case false =>
    go_enter Tryd.func6, Tryd.ntmps6
    go_wp2
    obtain ⟨W, hW⟩ : ∃ W, w.alloc (.cells #[.int .u32 (t : Int), .int .u64 (bl : Int), .int .u8 (k : Int), .int .u32 (s : Int), .int .u16 (ed : Int)] 26) = W := ⟨_, rfl⟩
    obtain ⟨g, hg⟩ : ∃ g, w.heap.size = g := ⟨_, rfl⟩
    rw [hW] at k2 k3 k4 hA HC2 ⊢
    rw [hg] at k2 k3 k4 ⊢
    have HG := Aside0.mk hg
    clear hg hW
    have HX0 := Aside0.mk (show Below W.heap.size W W.drew from below_drew (Below.refl _ _))
    refine wp_region_held_drew (S := fun w' => w'.cell? ⟨g, 2, none⟩ = some (.int .u8 (k : Int)) ∧ w'.cell? ⟨g, 3, none⟩ = some (.int .u32 (s : Int)) ∧ w'.cell? ⟨g, 4, none⟩ = some (.int .u16 (ed : Int))) (by kernel_rfl) ⟨pw_cell_below HX0.out k2, pw_cell_below HX0.out k3, pw_cell_below HX0.out k4⟩ (fun hHeld => ?_)
    refine wpAnyH_take (i := 0) (oi := { dst := some 5, op := Op.fieldAddr 26 (Operand.tmp 2) 2, type := 0, pos := "rec.go:100", after := #[], guard := none }) (v := ?_) rfl (by kernel_rfl) (by kernel_rfl) (by kernel_rfl) (fun _ _ _ h => h) (Or.inl ⟨by rfl, ?_⟩) (by assumption) ?_
    rotate_left
    · (intro w hSw; (try dsimp only at hSw); go_simp; (try with_reducible rfl))
    (try simp only [Act.put, List.setIfInBounds_toArray, List.set_cons_zero, List.set_cons_succ])
    refine wpAnyH_take (i := 1) (oi := { dst := some 6, op := Op.load 5 (Operand.tmp 5), type := 5, pos := "rec.go:100", after := #[{ on := 0, ground := Ground.data }], guard := none }) (v := ?_) rfl (by kernel_rfl) (by kernel_rfl) (by kernel_rfl) (fun _ _ _ h => h) (Or.inl ⟨by rfl, ?_⟩) (by assumption) ?_
    rotate_left
    · (intro w hSw; (try dsimp only at hSw); go_simp; (try with_reducible rfl))
    (try simp only [Act.put, List.setIfInBounds_toArray, List.set_cons_zero, List.set_cons_succ])
    refine wpAnyH_take (i := 2) (oi := { dst := some 7, op := Op.binOp BinOp.eql 5 (Operand.tmp 6) (Operand.const (Value.int IntKind.u8 1)) 5, type := 4, pos := "rec.go:100", after := #[{ on := 1, ground := Ground.data }], guard := none }) (v := ?_) rfl (by kernel_rfl) (by kernel_rfl) (by kernel_rfl) (fun _ _ _ h => h) (Or.inl ⟨by rfl, ?_⟩) (by assumption) ?_
    rotate_left
    · (intro w hSw; (try dsimp only at hSw); go_simp; (try with_reducible rfl))
    (try simp only [Act.put, List.setIfInBounds_toArray, List.set_cons_zero, List.set_cons_succ])
    refine wpAnyH_take (i := 3) (oi := { dst := some 8, op := Op.move (Operand.tmp 7), type := 4, pos := "rec.go:100", after := #[{ on := 2, ground := Ground.data }], guard := none }) (v := ?_) rfl (by kernel_rfl) (by kernel_rfl) (by kernel_rfl) (fun _ _ _ h => h) (Or.inl ⟨by rfl, ?_⟩) (by assumption) ?_
    rotate_left
    · (intro w hSw; (try dsimp only at hSw); go_simp; (try with_reducible rfl))
    (try simp only [Act.put, List.setIfInBounds_toArray, List.set_cons_zero, List.set_cons_succ])
    refine wpAnyH_take (i := 4) (oi := { dst := some 9, op := Op.fieldAddr 26 (Operand.tmp 2) 3, type := 0, pos := "rec.go:100", after := #[{ on := 3, ground := Ground.guard }], guard := some (3, true) }) (v := undef) rfl (by kernel_rfl) (by kernel_rfl) (by kernel_rfl) (fun _ _ _ h => h) (Or.inr ⟨by rfl, rfl⟩) (by assumption) ?_
    (try simp only [Act.put, List.setIfInBounds_toArray, List.set_cons_zero, List.set_cons_succ])
    refine wpAnyH_take (i := 5) (oi := { dst := some 10, op := Op.load 22 (Operand.tmp 9), type := 22, pos := "rec.go:100", after := #[{ on := 4, ground := Ground.data }, { on := 3, ground := Ground.guard }], guard := some (3, true) }) (v := undef) rfl (by kernel_rfl) (by kernel_rfl) (by kernel_rfl) (fun _ _ _ h => h) (Or.inr ⟨by rfl, rfl⟩) (by assumption) ?_
    (try simp only [Act.put, List.setIfInBounds_toArray, List.set_cons_zero, List.set_cons_succ])
    refine wpAnyH_take (i := 6) (oi := { dst := some 11, op := Op.move (Operand.tmp 1), type := 27, pos := "rec.go:100", after := #[{ on := 3, ground := Ground.guard }], guard := some (3, true) }) (v := undef) rfl (by kernel_rfl) (by kernel_rfl) (by kernel_rfl) (fun _ _ _ h => h) (Or.inr ⟨by rfl, rfl⟩) (by assumption) ?_
    (try simp only [Act.put, List.setIfInBounds_toArray, List.set_cons_zero, List.set_cons_succ])
    refine wpAnyH_take (i := 7) (oi := { dst := some 12, op := Op.buildSlice 51 1 #[(0, Operand.tmp 11)], type := 51, pos := "rec.go:100", after := #[{ on := 6, ground := Ground.data }, { on := 3, ground := Ground.guard }], guard := some (3, true) }) (v := undef) rfl (by kernel_rfl) (by kernel_rfl) (by kernel_rfl) (fun _ _ _ h => h) (Or.inr ⟨by rfl, rfl⟩) (by assumption) ?_
    (try simp only [Act.put, List.setIfInBounds_toArray, List.set_cons_zero, List.set_cons_succ])
    refine wpAnyH_take (i := 8) (oi := { dst := some 13, op := Op.call { callee := Callee.value (Operand.func 14), args := #[Operand.tmp 12], argTypes := #[51] }, type := 22, pos := "rec.go:100", after := #[{ on := 7, ground := Ground.data }, { on := 3, ground := Ground.chain }, { on := 3, ground := Ground.guard }], guard := some (3, true) }) (v := undef) rfl (by kernel_rfl) (by kernel_rfl) (by kernel_rfl) (fun _ _ _ h => h) (Or.inr ⟨by rfl, rfl⟩) (by assumption) ?_
    (try simp only [Act.put, List.setIfInBounds_toArray, List.set_cons_zero, List.set_cons_succ])
    refine wpAnyH_take (i := 9) (oi := { dst := some 14, op := Op.binOp BinOp.eql 22 (Operand.tmp 10) (Operand.tmp 13) 22, type := 4, pos := "rec.go:100", after := #[{ on := 5, ground := Ground.data }, { on := 8, ground := Ground.data }, { on := 3, ground := Ground.guard }], guard := some (3, true) }) (v := undef) rfl (by kernel_rfl) (by kernel_rfl) (by kernel_rfl) (fun _ _ _ h => h) (Or.inr ⟨by rfl, rfl⟩) (by assumption) ?_
    (try simp only [Act.put, List.setIfInBounds_toArray, List.set_cons_zero, List.set_cons_succ])
    refine wpAnyH_take (i := 10) (oi := { dst := some 15, op := Op.pick (Operand.tmp 8) (Operand.tmp 14) (Operand.const (Value.bool false)), type := 4, pos := "rec.go:100", after := #[{ on := 3, ground := Ground.data }, { on := 9, ground := Ground.data }], guard := none }) (v := ?_) rfl (by kernel_rfl) (by kernel_rfl) (by kernel_rfl) (fun _ _ _ h => h) (Or.inl ⟨by rfl, ?_⟩) (by assumption) ?_
    rotate_left
    · (intro w hSw; (try dsimp only at hSw); go_simp; (try with_reducible rfl))
    (try simp only [Act.put, List.setIfInBounds_toArray, List.set_cons_zero, List.set_cons_succ])
    refine wpAnyH_take (i := 11) (oi := { dst := some 16, op := Op.move (Operand.tmp 15), type := 4, pos := "rec.go:100", after := #[{ on := 10, ground := Ground.data }, { on := 8, ground := Ground.chain }], guard := none }) (v := ?_) rfl (by kernel_rfl) (by kernel_rfl) (by kernel_rfl) (fun _ _ _ h => h) (Or.inl ⟨by rfl, ?_⟩) (by assumption) ?_
    rotate_left
    · (intro w hSw; (try dsimp only at hSw); go_simp; (try with_reducible rfl))
    (try simp only [Act.put, List.setIfInBounds_toArray, List.set_cons_zero, List.set_cons_succ])
    refine wpAnyH_take (i := 12) (oi := { dst := some 17, op := Op.fieldAddr 26 (Operand.tmp 2) 4, type := 0, pos := "rec.go:100", after := #[{ on := 11, ground := Ground.guard }], guard := some (11, true) }) (v := undef) rfl (by kernel_rfl) (by kernel_rfl) (by kernel_rfl) (fun _ _ _ h => h) (Or.inr ⟨by rfl, rfl⟩) (by assumption) ?_
    (try simp only [Act.put, List.setIfInBounds_toArray, List.set_cons_zero, List.set_cons_succ])
    refine wpAnyH_take (i := 13) (oi := { dst := some 18, op := Op.load 24 (Operand.tmp 17), type := 24, pos := "rec.go:100", after := #[{ on := 12, ground := Ground.data }, { on := 11, ground := Ground.guard }], guard := some (11, true) }) (v := undef) rfl (by kernel_rfl) (by kernel_rfl) (by kernel_rfl) (fun _ _ _ h => h) (Or.inr ⟨by rfl, rfl⟩) (by assumption) ?_
    (try simp only [Act.put, List.setIfInBounds_toArray, List.set_cons_zero, List.set_cons_succ])
    refine wpAnyH_take (i := 14) (oi := { dst := some 19, op := Op.convert 24 3 (Operand.tmp 18), type := 3, pos := "rec.go:100", after := #[{ on := 13, ground := Ground.data }, { on := 11, ground := Ground.guard }], guard := some (11, true) }) (v := undef) rfl (by kernel_rfl) (by kernel_rfl) (by kernel_rfl) (fun _ _ _ h => h) (Or.inr ⟨by rfl, rfl⟩) (by assumption) ?_
    (try simp only [Act.put, List.setIfInBounds_toArray, List.set_cons_zero, List.set_cons_succ])
    refine wpAnyH_take (i := 15) (oi := { dst := some 20, op := Op.move (Operand.tmp 1), type := 27, pos := "rec.go:100", after := #[{ on := 11, ground := Ground.guard }], guard := some (11, true) }) (v := undef) rfl (by kernel_rfl) (by kernel_rfl) (by kernel_rfl) (fun _ _ _ h => h) (Or.inr ⟨by rfl, rfl⟩) (by assumption) ?_
    (try simp only [Act.put, List.setIfInBounds_toArray, List.set_cons_zero, List.set_cons_succ])
    refine wpAnyH_take (i := 16) (oi := { dst := some 21, op := Op.call { callee := Callee.value (Operand.func 8), args := #[Operand.tmp 20], argTypes := #[27] }, type := 3, pos := "rec.go:100", after := #[{ on := 15, ground := Ground.data }, { on := 11, ground := Ground.chain }, { on := 11, ground := Ground.guard }], guard := some (11, true) }) (v := undef) rfl (by kernel_rfl) (by kernel_rfl) (by kernel_rfl) (fun _ _ _ h => h) (Or.inr ⟨by rfl, rfl⟩) (by assumption) ?_
    (try simp only [Act.put, List.setIfInBounds_toArray, List.set_cons_zero, List.set_cons_succ])
    refine wpAnyH_take (i := 17) (oi := { dst := some 22, op := Op.binOp BinOp.eql 3 (Operand.tmp 19) (Operand.tmp 21) 3, type := 4, pos := "rec.go:100", after := #[{ on := 14, ground := Ground.data }, { on := 16, ground := Ground.data }, { on := 11, ground := Ground.guard }], guard := some (11, true) }) (v := undef) rfl (by kernel_rfl) (by kernel_rfl) (by kernel_rfl) (fun _ _ _ h => h) (Or.inr ⟨by rfl, rfl⟩) (by assumption) ?_
    (try simp only [Act.put, List.setIfInBounds_toArray, List.set_cons_zero, List.set_cons_succ])
    refine wpAnyH_take (i := 18) (oi := { dst := some 23, op := Op.pick (Operand.tmp 16) (Operand.tmp 22) (Operand.const (Value.bool false)), type := 4, pos := "rec.go:100", after := #[{ on := 11, ground := Ground.data }, { on := 17, ground := Ground.data }], guard := none }) (v := ?_) rfl (by kernel_rfl) (by kernel_rfl) (by kernel_rfl) (fun _ _ _ h => h) (Or.inl ⟨by rfl, ?_⟩) (by assumption) ?_
    rotate_left
    · (intro w hSw; (try dsimp only at hSw); go_simp; (try with_reducible rfl))
    (try simp only [Act.put, List.setIfInBounds_toArray, List.set_cons_zero, List.set_cons_succ])
    refine wpAnyH_ready (rs := [19]) (by kernel_rfl) (by simp) ?_
    refine (AllReadyH.cons (o := { dst := some 4, op := Op.assign (Operand.tmp 23), type := 4, pos := "rec.go:100", after := #[{ on := 18, ground := Ground.data }, { on := 16, ground := Ground.chain }, { on := 0, ground := Ground.phase }, { on := 1, ground := Ground.phase }, { on := 2, ground := Ground.phase }, { on := 3, ground := Ground.phase }, { on := 4, ground := Ground.phase }, { on := 5, ground := Ground.phase }, { on := 6, ground := Ground.phase }, { on := 7, ground := Ground.phase }, { on := 8, ground := Ground.phase }, { on := 9, ground := Ground.phase }, { on := 10, ground := Ground.phase }, { on := 11, ground := Ground.phase }, { on := 12, ground := Ground.phase }, { on := 13, ground := Ground.phase }, { on := 14, ground := Ground.phase }, { on := 15, ground := Ground.phase }, { on := 16, ground := Ground.phase }, { on := 17, ground := Ground.phase }, { on := 18, ground := Ground.phase }], guard := none }) rfl (fun K hK => ?_) AllReadyH.nil)
    go_simp
    refine hK.out _ _ ?_ (fun hHeld => ?_)
    · exact ⟨pw_cell_below HX0.out k2, pw_cell_below HX0.out k3, pw_cell_below HX0.out k4⟩
    clear hK K
    (try simp only [Act.put, List.setIfInBounds_toArray, List.set_cons_zero, List.set_cons_succ])
    refine wpAnyH_done (by kernel_rfl) ?_ _
    have HB := Aside0.mk (Below.trans hA.out (HX0.out.mono (by have h1 := hA.out.size; have h2 := HG.out; omega)))
    go_wp2
    go_ret
    exact ⟨rfl, by first | exact HB.out | (have := HG.out; subst this; exact HB.out)⟩
  case true =>
    cases b2
    case false =>
      go_enter Tryd.func6, Tryd.ntmps6
      go_wp2
      obtain ⟨W, hW⟩ : ∃ W, w.alloc (.cells #[.int .u32 (t : Int), .int .u64 (bl : Int), .int .u8 (k : Int), .int .u32 (s : Int), .int .u16 (ed : Int)] 26) = W := ⟨_, rfl⟩
      obtain ⟨g, hg⟩ : ∃ g, w.heap.size = g := ⟨_, rfl⟩
      rw [hW] at k2 k3 k4 hA HC2 ⊢
      rw [hg] at k2 k3 k4 ⊢
      have HG := Aside0.mk hg
      clear hg hW
      have HX0 := Aside0.mk (show Below W.heap.size W W.drew from below_drew (Below.refl _ _))
      refine wp_region_held_drew (S := fun w' => w'.cell? ⟨g, 2, none⟩ = some (.int .u8 (k : Int)) ∧ w'.cell? ⟨g, 3, none⟩ = some (.int .u32 (s : Int)) ∧ w'.cell? ⟨g, 4, none⟩ = some (.int .u16 (ed : Int))) (by kernel_rfl) ⟨pw_cell_below HX0.out k2, pw_cell_below HX0.out k3, pw_cell_below HX0.out k4⟩ (fun hHeld => ?_)
      refine wpAnyH_take (i := 0) (oi := { dst := some 5, op := Op.fieldAddr 26 (Operand.tmp 2) 2, type := 0, pos := "rec.go:100", after := #[], guard := none }) (v := ?_) rfl (by kernel_rfl) (by kernel_rfl) (by kernel_rfl) (fun _ _ _ h => h) (Or.inl ⟨by rfl, ?_⟩) (by assumption) ?_
      rotate_left
      · (intro w hSw; (try dsimp only at hSw); go_simp; (try with_reducible rfl))
      (try simp only [Act.put, List.setIfInBounds_toArray, List.set_cons_zero, List.set_cons_succ])
      refine wpAnyH_take (i := 1) (oi := { dst := some 6, op := Op.load 5 (Operand.tmp 5), type := 5, pos := "rec.go:100", after := #[{ on := 0, ground := Ground.data }], guard := none }) (v := ?_) rfl (by kernel_rfl) (by kernel_rfl) (by kernel_rfl) (fun _ _ _ h => h) (Or.inl ⟨by rfl, ?_⟩) (by assumption) ?_
      rotate_left
      · (intro w hSw; (try dsimp only at hSw); go_simp; (try with_reducible rfl))
      (try simp only [Act.put, List.setIfInBounds_toArray, List.set_cons_zero, List.set_cons_succ])
      refine wpAnyH_take (i := 2) (oi := { dst := some 7, op := Op.binOp BinOp.eql 5 (Operand.tmp 6) (Operand.const (Value.int IntKind.u8 1)) 5, type := 4, pos := "rec.go:100", after := #[{ on := 1, ground := Ground.data }], guard := none }) (v := ?_) rfl (by kernel_rfl) (by kernel_rfl) (by kernel_rfl) (fun _ _ _ h => h) (Or.inl ⟨by rfl, ?_⟩) (by assumption) ?_
      rotate_left
      · (intro w hSw; (try dsimp only at hSw); go_simp; (try with_reducible rfl))
      (try simp only [Act.put, List.setIfInBounds_toArray, List.set_cons_zero, List.set_cons_succ])
      refine wpAnyH_take (i := 3) (oi := { dst := some 8, op := Op.move (Operand.tmp 7), type := 4, pos := "rec.go:100", after := #[{ on := 2, ground := Ground.data }], guard := none }) (v := ?_) rfl (by kernel_rfl) (by kernel_rfl) (by kernel_rfl) (fun _ _ _ h => h) (Or.inl ⟨by rfl, ?_⟩) (by assumption) ?_
      rotate_left
      · (intro w hSw; (try dsimp only at hSw); go_simp; (try with_reducible rfl))
      (try simp only [Act.put, List.setIfInBounds_toArray, List.set_cons_zero, List.set_cons_succ])
      refine wpAnyH_take (i := 4) (oi := { dst := some 9, op := Op.fieldAddr 26 (Operand.tmp 2) 3, type := 0, pos := "rec.go:100", after := #[{ on := 3, ground := Ground.guard }], guard := some (3, true) }) (v := ?_) rfl (by kernel_rfl) (by kernel_rfl) (by kernel_rfl) (fun _ _ _ h => h) (Or.inl ⟨by rfl, ?_⟩) (by assumption) ?_
      rotate_left
      · (intro w hSw; (try dsimp only at hSw); go_simp; (try with_reducible rfl))
      (try simp only [Act.put, List.setIfInBounds_toArray, List.set_cons_zero, List.set_cons_succ])
      refine wpAnyH_take (i := 5) (oi := { dst := some 10, op := Op.load 22 (Operand.tmp 9), type := 22, pos := "rec.go:100", after := #[{ on := 4, ground := Ground.data }, { on := 3, ground := Ground.guard }], guard := some (3, true) }) (v := ?_) rfl (by kernel_rfl) (by kernel_rfl) (by kernel_rfl) (fun _ _ _ h => h) (Or.inl ⟨by rfl, ?_⟩) (by assumption) ?_
      rotate_left
      · (intro w hSw; (try dsimp only at hSw); go_simp; (try with_reducible rfl))
      (try simp only [Act.put, List.setIfInBounds_toArray, List.set_cons_zero, List.set_cons_succ])
      refine wpAnyH_take (i := 6) (oi := { dst := some 11, op := Op.move (Operand.tmp 1), type := 27, pos := "rec.go:100", after := #[{ on := 3, ground := Ground.guard }], guard := some (3, true) }) (v := ?_) rfl (by kernel_rfl) (by kernel_rfl) (by kernel_rfl) (fun _ _ _ h => h) (Or.inl ⟨by rfl, ?_⟩) (by assumption) ?_
      rotate_left
      · (intro w hSw; (try dsimp only at hSw); go_simp; (try with_reducible rfl))
      (try simp only [Act.put, List.setIfInBounds_toArray, List.set_cons_zero, List.set_cons_succ])
      refine wpAnyH_ready (rs := [7]) (by kernel_rfl) (by simp) ?_
      refine (AllReadyH.cons (o := { dst := some 12, op := Op.buildSlice 51 1 #[(0, Operand.tmp 11)], type := 51, pos := "rec.go:100", after := #[{ on := 6, ground := Ground.data }, { on := 3, ground := Ground.guard }], guard := some (3, true) }) rfl (fun K hK => ?_) AllReadyH.nil)
      go_simp
      have HX1 := Aside0.mk (below_alloc HX0.out (.cells #[.slice Ad n cap] 27))
      have HLL := Aside0.mk (lit1 _ Ad n cap xs (Kd.C_below HC2.out HX0.out) hcap)
      refine hK.out _ _ ?_ (fun hHeld => ?_)
      · exact ⟨pw_cell_below HX1.out k2, pw_cell_below HX1.out k3, pw_cell_below HX1.out k4⟩
      clear hK K
      (try simp only [Act.put, List.setIfInBounds_toArray, List.set_cons_zero, List.set_cons_succ])
      refine wpAnyH_ready (rs := [8]) (by kernel_rfl) (by simp) ?_
      refine (AllReadyH.cons (o := { dst := some 13, op := Op.call { callee := Callee.value (Operand.func 14), args := #[Operand.tmp 12], argTypes := #[51] }, type := 22, pos := "rec.go:100", after := #[{ on := 7, ground := Ground.data }, { on := 3, ground := Ground.chain }, { on := 3, ground := Ground.guard }], guard := some (3, true) }) rfl (fun K hK => ?_) AllReadyH.nil)
      go_simp
      refine (Crc.crc_sum_calls _ 1 1 [xs] _ HLL.out).mono ?_
      rintro e w1 ⟨rfl, rfl⟩
      rw [show [xs].flatten = xs from by simp]
      have HX2 := HX1
      refine hK.out _ _ ?_ (fun hHeld => ?_)
      · exact ⟨pw_cell_below HX2.out k2, pw_cell_below HX2.out k3, pw_cell_below HX2.out k4⟩
      clear hK K
      (try simp only [Act.put, List.setIfInBounds_toArray, List.set_cons_zero, List.set_cons_succ])
      refine wpAnyH_take (i := 9) (oi := { dst := some 14, op := Op.binOp BinOp.eql 22 (Operand.tmp 10) (Operand.tmp 13) 22, type := 4, pos := "rec.go:100", after := #[{ on := 5, ground := Ground.data }, { on := 8, ground := Ground.data }, { on := 3, ground := Ground.guard }], guard := some (3, true) }) (v := ?_) rfl (by kernel_rfl) (by kernel_rfl) (by kernel_rfl) (fun _ _ _ h => h) (Or.inl ⟨by rfl, ?_⟩) (by assumption) ?_
      rotate_left
      · (intro w hSw; (try dsimp only at hSw); go_simp; (try with_reducible rfl))
      (try simp only [Act.put, List.setIfInBounds_toArray, List.set_cons_zero, List.set_cons_succ])
      refine wpAnyH_take (i := 10) (oi := { dst := some 15, op := Op.pick (Operand.tmp 8) (Operand.tmp 14) (Operand.const (Value.bool false)), type := 4, pos := "rec.go:100", after := #[{ on := 3, ground := Ground.data }, { on := 9, ground := Ground.data }], guard := none }) (v := ?_) rfl (by kernel_rfl) (by kernel_rfl) (by kernel_rfl) (fun _ _ _ h => h) (Or.inl ⟨by rfl, ?_⟩) (by assumption) ?_
      rotate_left
      · (intro w hSw; (try dsimp only at hSw); go_simp; (try with_reducible rfl))
      (try simp only [Act.put, List.setIfInBounds_toArray, List.set_cons_zero, List.set_cons_succ])
      refine wpAnyH_take (i := 11) (oi := { dst := some 16, op := Op.move (Operand.tmp 15), type := 4, pos := "rec.go:100", after := #[{ on := 10, ground := Ground.data }, { on := 8, ground := Ground.chain }], guard := none }) (v := ?_) rfl (by kernel_rfl) (by kernel_rfl) (by kernel_rfl) (fun _ _ _ h => h) (Or.inl ⟨by rfl, ?_⟩) (by assumption) ?_
      rotate_left
      · (intro w hSw; (try dsimp only at hSw); go_simp; (try with_reducible rfl))
      (try simp only [Act.put, List.setIfInBounds_toArray, List.set_cons_zero, List.set_cons_succ])
      refine wpAnyH_take (i := 12) (oi := { dst := some 17, op := Op.fieldAddr 26 (Operand.tmp 2) 4, type := 0, pos := "rec.go:100", after := #[{ on := 11, ground := Ground.guard }], guard := some (11, true) }) (v := undef) rfl (by kernel_rfl) (by kernel_rfl) (by kernel_rfl) (fun _ _ _ h => h) (Or.inr ⟨by rfl, rfl⟩) (by assumption) ?_
      (try simp only [Act.put, List.setIfInBounds_toArray, List.set_cons_zero, List.set_cons_succ])
      refine wpAnyH_take (i := 13) (oi := { dst := some 18, op := Op.load 24 (Operand.tmp 17), type := 24, pos := "rec.go:100", after := #[{ on := 12, ground := Ground.data }, { on := 11, ground := Ground.guard }], guard := some (11, true) }) (v := undef) rfl (by kernel_rfl) (by kernel_rfl) (by kernel_rfl) (fun _ _ _ h => h) (Or.inr ⟨by rfl, rfl⟩) (by assumption) ?_
      (try simp only [Act.put, List.setIfInBounds_toArray, List.set_cons_zero, List.set_cons_succ])
      refine wpAnyH_take (i := 14) (oi := { dst := some 19, op := Op.convert 24 3 (Operand.tmp 18), type := 3, pos := "rec.go:100", after := #[{ on := 13, ground := Ground.data }, { on := 11, ground := Ground.guard }], guard := some (11, true) }) (v := undef) rfl (by kernel_rfl) (by kernel_rfl) (by kernel_rfl) (fun _ _ _ h => h) (Or.inr ⟨by rfl, rfl⟩) (by assumption) ?_
      (try simp only [Act.put, List.setIfInBounds_toArray, List.set_cons_zero, List.set_cons_succ])
      refine wpAnyH_take (i := 15) (oi := { dst := some 20, op := Op.move (Operand.tmp 1), type := 27, pos := "rec.go:100", after := #[{ on := 11, ground := Ground.guard }], guard := some (11, true) }) (v := undef) rfl (by kernel_rfl) (by kernel_rfl) (by kernel_rfl) (fun _ _ _ h => h) (Or.inr ⟨by rfl, rfl⟩) (by assumption) ?_
      (try simp only [Act.put, List.setIfInBounds_toArray, List.set_cons_zero, List.set_cons_succ])
      refine wpAnyH_take (i := 16) (oi := { dst := some 21, op := Op.call { callee := Callee.value (Operand.func 8), args := #[Operand.tmp 20], argTypes := #[27] }, type := 3, pos := "rec.go:100", after := #[{ on := 15, ground := Ground.data }, { on := 11, ground := Ground.chain }, { on := 11, ground := Ground.guard }], guard := some (11, true) }) (v := undef) rfl (by kernel_rfl) (by kernel_rfl) (by kernel_rfl) (fun _ _ _ h => h) (Or.inr ⟨by rfl, rfl⟩) (by assumption) ?_
      (try simp only [Act.put, List.setIfInBounds_toArray, List.set_cons_zero, List.set_cons_succ])
      refine wpAnyH_take (i := 17) (oi := { dst := some 22, op := Op.binOp BinOp.eql 3 (Operand.tmp 19) (Operand.tmp 21) 3, type := 4, pos := "rec.go:100", after := #[{ on := 14, ground := Ground.data }, { on := 16, ground := Ground.data }, { on := 11, ground := Ground.guard }], guard := some (11, true) }) (v := undef) rfl (by kernel_rfl) (by kernel_rfl) (by kernel_rfl) (fun _ _ _ h => h) (Or.inr ⟨by rfl, rfl⟩) (by assumption) ?_
      (try simp only [Act.put, List.setIfInBounds_toArray, List.set_cons_zero, List.set_cons_succ])
      refine wpAnyH_take (i := 18) (oi := { dst := some 23, op := Op.pick (Operand.tmp 16) (Operand.tmp 22) (Operand.const (Value.bool false)), type := 4, pos := "rec.go:100", after := #[{ on := 11, ground := Ground.data }, { on := 17, ground := Ground.data }], guard := none }) (v := ?_) rfl (by kernel_rfl) (by kernel_rfl) (by kernel_rfl) (fun _ _ _ h => h) (Or.inl ⟨by rfl, ?_⟩) (by assumption) ?_
      rotate_left
      · (intro w hSw; (try dsimp only at hSw); go_simp; (try with_reducible rfl))
      (try simp only [Act.put, List.setIfInBounds_toArray, List.set_cons_zero, List.set_cons_succ])
      refine wpAnyH_ready (rs := [19]) (by kernel_rfl) (by simp) ?_
      refine (AllReadyH.cons (o := { dst := some 4, op := Op.assign (Operand.tmp 23), type := 4, pos := "rec.go:100", after := #[{ on := 18, ground := Ground.data }, { on := 16, ground := Ground.chain }, { on := 0, ground := Ground.phase }, { on := 1, ground := Ground.phase }, { on := 2, ground := Ground.phase }, { on := 3, ground := Ground.phase }, { on := 4, ground := Ground.phase }, { on := 5, ground := Ground.phase }, { on := 6, ground := Ground.phase }, { on := 7, ground := Ground.phase }, { on := 8, ground := Ground.phase }, { on := 9, ground := Ground.phase }, { on := 10, ground := Ground.phase }, { on := 11, ground := Ground.phase }, { on := 12, ground := Ground.phase }, { on := 13, ground := Ground.phase }, { on := 14, ground := Ground.phase }, { on := 15, ground := Ground.phase }, { on := 16, ground := Ground.phase }, { on := 17, ground := Ground.phase }, { on := 18, ground := Ground.phase }], guard := none }) rfl (fun K hK => ?_) AllReadyH.nil)
      go_simp
      refine hK.out _ _ ?_ (fun hHeld => ?_)
      · exact ⟨pw_cell_below HX2.out k2, pw_cell_below HX2.out k3, pw_cell_below HX2.out k4⟩
      clear hK K
      (try simp only [Act.put, List.setIfInBounds_toArray, List.set_cons_zero, List.set_cons_succ])
      refine wpAnyH_done (by kernel_rfl) ?_ _
      have HB := Aside0.mk (Below.trans hA.out (HX2.out.mono (by have h1 := hA.out.size; have h2 := HG.out; omega)))
      go_wp2
      go_ret
      exact ⟨rfl, by first | exact HB.out | (have := HG.out; subst this; exact HB.out)⟩
    case true =>
      go_enter Tryd.func6, Tryd.ntmps6
      go_wp2
      obtain ⟨W, hW⟩ : ∃ W, w.alloc (.cells #[.int .u32 (t : Int), .int .u64 (bl : Int), .int .u8 (k : Int), .int .u32 (s : Int), .int .u16 (ed : Int)] 26) = W := ⟨_, rfl⟩
      obtain ⟨g, hg⟩ : ∃ g, w.heap.size = g := ⟨_, rfl⟩
      rw [hW] at k2 k3 k4 hA HC2 ⊢
      rw [hg] at k2 k3 k4 ⊢
      have HG := Aside0.mk hg
      clear hg hW
      have HX0 := Aside0.mk (show Below W.heap.size W W.drew from below_drew (Below.refl _ _))
      refine wp_region_held_drew (S := fun w' => w'.cell? ⟨g, 2, none⟩ = some (.int .u8 (k : Int)) ∧ w'.cell? ⟨g, 3, none⟩ = some (.int .u32 (s : Int)) ∧ w'.cell? ⟨g, 4, none⟩ = some (.int .u16 (ed : Int))) (by kernel_rfl) ⟨pw_cell_below HX0.out k2, pw_cell_below HX0.out k3, pw_cell_below HX0.out k4⟩ (fun hHeld => ?_)
      refine wpAnyH_take (i := 0) (oi := { dst := some 5, op := Op.fieldAddr 26 (Operand.tmp 2) 2, type := 0, pos := "rec.go:100", after := #[], guard := none }) (v := ?_) rfl (by kernel_rfl) (by kernel_rfl) (by kernel_rfl) (fun _ _ _ h => h) (Or.inl ⟨by rfl, ?_⟩) (by assumption) ?_
      rotate_left
      · (intro w hSw; (try dsimp only at hSw); go_simp; (try with_reducible rfl))
      (try simp only [Act.put, List.setIfInBounds_toArray, List.set_cons_zero, List.set_cons_succ])
      refine wpAnyH_take (i := 1) (oi := { dst := some 6, op := Op.load 5 (Operand.tmp 5), type := 5, pos := "rec.go:100", after := #[{ on := 0, ground := Ground.data }], guard := none }) (v := ?_) rfl (by kernel_rfl) (by kernel_rfl) (by kernel_rfl) (fun _ _ _ h => h) (Or.inl ⟨by rfl, ?_⟩) (by assumption) ?_
      rotate_left
      · (intro w hSw; (try dsimp only at hSw); go_simp; (try with_reducible rfl))
      (try simp only [Act.put, List.setIfInBounds_toArray, List.set_cons_zero, List.set_cons_succ])
      refine wpAnyH_take (i := 2) (oi := { dst := some 7, op := Op.binOp BinOp.eql 5 (Operand.tmp 6) (Operand.const (Value.int IntKind.u8 1)) 5, type := 4, pos := "rec.go:100", after := #[{ on := 1, ground := Ground.data }], guard := none }) (v := ?_) rfl (by kernel_rfl) (by kernel_rfl) (by kernel_rfl) (fun _ _ _ h => h) (Or.inl ⟨by rfl, ?_⟩) (by assumption) ?_
      rotate_left
      · (intro w hSw; (try dsimp only at hSw); go_simp; (try with_reducible rfl))
      (try simp only [Act.put, List.setIfInBounds_toArray, List.set_cons_zero, List.set_cons_succ])
      refine wpAnyH_take (i := 3) (oi := { dst := some 8, op := Op.move (Operand.tmp 7), type := 4, pos := "rec.go:100", after := #[{ on := 2, ground := Ground.data }], guard := none }) (v := ?_) rfl (by kernel_rfl) (by kernel_rfl) (by kernel_rfl) (fun _ _ _ h => h) (Or.inl ⟨by rfl, ?_⟩) (by assumption) ?_
      rotate_left
      · (intro w hSw; (try dsimp only at hSw); go_simp; (try with_reducible rfl))
      (try simp only [Act.put, List.setIfInBounds_toArray, List.set_cons_zero, List.set_cons_succ])
      refine wpAnyH_take (i := 4) (oi := { dst := some 9, op := Op.fieldAddr 26 (Operand.tmp 2) 3, type := 0, pos := "rec.go:100", after := #[{ on := 3, ground := Ground.guard }], guard := some (3, true) }) (v := ?_) rfl (by kernel_rfl) (by kernel_rfl) (by kernel_rfl) (fun _ _ _ h => h) (Or.inl ⟨by rfl, ?_⟩) (by assumption) ?_
      rotate_left
      · (intro w hSw; (try dsimp only at hSw); go_simp; (try with_reducible rfl))
      (try simp only [Act.put, List.setIfInBounds_toArray, List.set_cons_zero, List.set_cons_succ])
      refine wpAnyH_take (i := 5) (oi := { dst := some 10, op := Op.load 22 (Operand.tmp 9), type := 22, pos := "rec.go:100", after := #[{ on := 4, ground := Ground.data }, { on := 3, ground := Ground.guard }], guard := some (3, true) }) (v := ?_) rfl (by kernel_rfl) (by kernel_rfl) (by kernel_rfl) (fun _ _ _ h => h) (Or.inl ⟨by rfl, ?_⟩) (by assumption) ?_
      rotate_left
      · (intro w hSw; (try dsimp only at hSw); go_simp; (try with_reducible rfl))
      (try simp only [Act.put, List.setIfInBounds_toArray, List.set_cons_zero, List.set_cons_succ])
      refine wpAnyH_take (i := 6) (oi := { dst := some 11, op := Op.move (Operand.tmp 1), type := 27, pos := "rec.go:100", after := #[{ on := 3, ground := Ground.guard }], guard := some (3, true) }) (v := ?_) rfl (by kernel_rfl) (by kernel_rfl) (by kernel_rfl) (fun _ _ _ h => h) (Or.inl ⟨by rfl, ?_⟩) (by assumption) ?_
      rotate_left
      · (intro w hSw; (try dsimp only at hSw); go_simp; (try with_reducible rfl))
      (try simp only [Act.put, List.setIfInBounds_toArray, List.set_cons_zero, List.set_cons_succ])
      refine wpAnyH_ready (rs := [7]) (by kernel_rfl) (by simp) ?_
      refine (AllReadyH.cons (o := { dst := some 12, op := Op.buildSlice 51 1 #[(0, Operand.tmp 11)], type := 51, pos := "rec.go:100", after := #[{ on := 6, ground := Ground.data }, { on := 3, ground := Ground.guard }], guard := some (3, true) }) rfl (fun K hK => ?_) AllReadyH.nil)
      go_simp
      have HX1 := Aside0.mk (below_alloc HX0.out (.cells #[.slice Ad n cap] 27))
      have HLL := Aside0.mk (lit1 _ Ad n cap xs (Kd.C_below HC2.out HX0.out) hcap)
      refine hK.out _ _ ?_ (fun hHeld => ?_)
      · exact ⟨pw_cell_below HX1.out k2, pw_cell_below HX1.out k3, pw_cell_below HX1.out k4⟩
      clear hK K
      (try simp only [Act.put, List.setIfInBounds_toArray, List.set_cons_zero, List.set_cons_succ])
      refine wpAnyH_ready (rs := [8]) (by kernel_rfl) (by simp) ?_
      refine (AllReadyH.cons (o := { dst := some 13, op := Op.call { callee := Callee.value (Operand.func 14), args := #[Operand.tmp 12], argTypes := #[51] }, type := 22, pos := "rec.go:100", after := #[{ on := 7, ground := Ground.data }, { on := 3, ground := Ground.chain }, { on := 3, ground := Ground.guard }], guard := some (3, true) }) rfl (fun K hK => ?_) AllReadyH.nil)
      go_simp
      refine (Crc.crc_sum_calls _ 1 1 [xs] _ HLL.out).mono ?_
      rintro e w1 ⟨rfl, rfl⟩
      rw [show [xs].flatten = xs from by simp]
      have HX2 := HX1
      refine hK.out _ _ ?_ (fun hHeld => ?_)
      · exact ⟨pw_cell_below HX2.out k2, pw_cell_below HX2.out k3, pw_cell_below HX2.out k4⟩
      clear hK K
      (try simp only [Act.put, List.setIfInBounds_toArray, List.set_cons_zero, List.set_cons_succ])
      refine wpAnyH_take (i := 9) (oi := { dst := some 14, op := Op.binOp BinOp.eql 22 (Operand.tmp 10) (Operand.tmp 13) 22, type := 4, pos := "rec.go:100", after := #[{ on := 5, ground := Ground.data }, { on := 8, ground := Ground.data }, { on := 3, ground := Ground.guard }], guard := some (3, true) }) (v := ?_) rfl (by kernel_rfl) (by kernel_rfl) (by kernel_rfl) (fun _ _ _ h => h) (Or.inl ⟨by rfl, ?_⟩) (by assumption) ?_
      rotate_left
      · (intro w hSw; (try dsimp only at hSw); go_simp; (try with_reducible rfl))
      (try simp only [Act.put, List.setIfInBounds_toArray, List.set_cons_zero, List.set_cons_succ])
      refine wpAnyH_take (i := 10) (oi := { dst := some 15, op := Op.pick (Operand.tmp 8) (Operand.tmp 14) (Operand.const (Value.bool false)), type := 4, pos := "rec.go:100", after := #[{ on := 3, ground := Ground.data }, { on := 9, ground := Ground.data }], guard := none }) (v := ?_) rfl (by kernel_rfl) (by kernel_rfl) (by kernel_rfl) (fun _ _ _ h => h) (Or.inl ⟨by rfl, ?_⟩) (by assumption) ?_
      rotate_left
      · (intro w hSw; (try dsimp only at hSw); go_simp; (try with_reducible rfl))
      (try simp only [Act.put, List.setIfInBounds_toArray, List.set_cons_zero, List.set_cons_succ])
      refine wpAnyH_take (i := 11) (oi := { dst := some 16, op := Op.move (Operand.tmp 15), type := 4, pos := "rec.go:100", after := #[{ on := 10, ground := Ground.data }, { on := 8, ground := Ground.chain }], guard := none }) (v := ?_) rfl (by kernel_rfl) (by kernel_rfl) (by kernel_rfl) (fun _ _ _ h => h) (Or.inl ⟨by rfl, ?_⟩) (by assumption) ?_
      rotate_left
      · (intro w hSw; (try dsimp only at hSw); go_simp; (try with_reducible rfl))
      (try simp only [Act.put, List.setIfInBounds_toArray, List.set_cons_zero, List.set_cons_succ])
      refine wpAnyH_take (i := 12) (oi := { dst := some 17, op := Op.fieldAddr 26 (Operand.tmp 2) 4, type := 0, pos := "rec.go:100", after := #[{ on := 11, ground := Ground.guard }], guard := some (11, true) }) (v := ?_) rfl (by kernel_rfl) (by kernel_rfl) (by kernel_rfl) (fun _ _ _ h => h) (Or.inl ⟨by rfl, ?_⟩) (by assumption) ?_
      rotate_left
      · (intro w hSw; (try dsimp only at hSw); go_simp; (try with_reducible rfl))
      (try simp only [Act.put, List.setIfInBounds_toArray, List.set_cons_zero, List.set_cons_succ])
      refine wpAnyH_take (i := 13) (oi := { dst := some 18, op := Op.load 24 (Operand.tmp 17), type := 24, pos := "rec.go:100", after := #[{ on := 12, ground := Ground.data }, { on := 11, ground := Ground.guard }], guard := some (11, true) }) (v := ?_) rfl (by kernel_rfl) (by kernel_rfl) (by kernel_rfl) (fun _ _ _ h => h) (Or.inl ⟨by rfl, ?_⟩) (by assumption) ?_
      rotate_left
      · (intro w hSw; (try dsimp only at hSw); go_simp; (try with_reducible rfl))
      (try simp only [Act.put, List.setIfInBounds_toArray, List.set_cons_zero, List.set_cons_succ])
      refine wpAnyH_take (i := 14) (oi := { dst := some 19, op := Op.convert 24 3 (Operand.tmp 18), type := 3, pos := "rec.go:100", after := #[{ on := 13, ground := Ground.data }, { on := 11, ground := Ground.guard }], guard := some (11, true) }) (v := ?_) rfl (by kernel_rfl) (by kernel_rfl) (by kernel_rfl) (fun _ _ _ h => h) (Or.inl ⟨by rfl, ?_⟩) (by assumption) ?_
      rotate_left
      · (intro w hSw; (try dsimp only at hSw); go_simp; (try with_reducible rfl))
      (try simp only [Act.put, List.setIfInBounds_toArray, List.set_cons_zero, List.set_cons_succ])
      refine wpAnyH_take (i := 15) (oi := { dst := some 20, op := Op.move (Operand.tmp 1), type := 27, pos := "rec.go:100", after := #[{ on := 11, ground := Ground.guard }], guard := some (11, true) }) (v := ?_) rfl (by kernel_rfl) (by kernel_rfl) (by kernel_rfl) (fun _ _ _ h => h) (Or.inl ⟨by rfl, ?_⟩) (by assumption) ?_
      rotate_left
      · (intro w hSw; (try dsimp only at hSw); go_simp; (try with_reducible rfl))
      (try simp only [Act.put, List.setIfInBounds_toArray, List.set_cons_zero, List.set_cons_succ])
      refine wpAnyH_ready (rs := [16]) (by kernel_rfl) (by simp) ?_
      refine (AllReadyH.cons (o := { dst := some 21, op := Op.call { callee := Callee.value (Operand.func 8), args := #[Operand.tmp 20], argTypes := #[27] }, type := 3, pos := "rec.go:100", after := #[{ on := 15, ground := Ground.data }, { on := 11, ground := Ground.chain }, { on := 11, ground := Ground.guard }], guard := some (11, true) }) rfl (fun K hK => ?_) AllReadyH.nil)
      go_simp
      refine (ends_calls Ad n cap xs _ (Kd.C_below HC2.out HX2.out) hcap).mono ?_
      rintro e w2 ⟨rfl, hb2⟩
      have HX3 := Aside0.mk (below_go HX2.out hb2)
      clear hb2
      refine hK.out _ _ ?_ (fun hHeld => ?_)
      · exact ⟨pw_cell_below HX3.out k2, pw_cell_below HX3.out k3, pw_cell_below HX3.out k4⟩
      clear hK K
      (try simp only [Act.put, List.setIfInBounds_toArray, List.set_cons_zero, List.set_cons_succ])
      refine wpAnyH_take (i := 17) (oi := { dst := some 22, op := Op.binOp BinOp.eql 3 (Operand.tmp 19) (Operand.tmp 21) 3, type := 4, pos := "rec.go:100", after := #[{ on := 14, ground := Ground.data }, { on := 16, ground := Ground.data }, { on := 11, ground := Ground.guard }], guard := some (11, true) }) (v := ?_) rfl (by kernel_rfl) (by kernel_rfl) (by kernel_rfl) (fun _ _ _ h => h) (Or.inl ⟨by rfl, ?_⟩) (by assumption) ?_
      rotate_left
      · (intro w hSw; (try dsimp only at hSw); go_simp; (try with_reducible rfl))
      (try simp only [Act.put, List.setIfInBounds_toArray, List.set_cons_zero, List.set_cons_succ])
      refine wpAnyH_take (i := 18) (oi := { dst := some 23, op := Op.pick (Operand.tmp 16) (Operand.tmp 22) (Operand.const (Value.bool false)), type := 4, pos := "rec.go:100", after := #[{ on := 11, ground := Ground.data }, { on := 17, ground := Ground.data }], guard := none }) (v := ?_) rfl (by kernel_rfl) (by kernel_rfl) (by kernel_rfl) (fun _ _ _ h => h) (Or.inl ⟨by rfl, ?_⟩) (by assumption) ?_
      rotate_left
      · (intro w hSw; (try dsimp only at hSw); go_simp; (try with_reducible rfl))
      (try simp only [Act.put, List.setIfInBounds_toArray, List.set_cons_zero, List.set_cons_succ])
      refine wpAnyH_ready (rs := [19]) (by kernel_rfl) (by simp) ?_
      refine (AllReadyH.cons (o := { dst := some 4, op := Op.assign (Operand.tmp 23), type := 4, pos := "rec.go:100", after := #[{ on := 18, ground := Ground.data }, { on := 16, ground := Ground.chain }, { on := 0, ground := Ground.phase }, { on := 1, ground := Ground.phase }, { on := 2, ground := Ground.phase }, { on := 3, ground := Ground.phase }, { on := 4, ground := Ground.phase }, { on := 5, ground := Ground.phase }, { on := 6, ground := Ground.phase }, { on := 7, ground := Ground.phase }, { on := 8, ground := Ground.phase }, { on := 9, ground := Ground.phase }, { on := 10, ground := Ground.phase }, { on := 11, ground := Ground.phase }, { on := 12, ground := Ground.phase }, { on := 13, ground := Ground.phase }, { on := 14, ground := Ground.phase }, { on := 15, ground := Ground.phase }, { on := 16, ground := Ground.phase }, { on := 17, ground := Ground.phase }, { on := 18, ground := Ground.phase }], guard := none }) rfl (fun K hK => ?_) AllReadyH.nil)
      go_simp
      refine hK.out _ _ ?_ (fun hHeld => ?_)
      · exact ⟨pw_cell_below HX3.out k2, pw_cell_below HX3.out k3, pw_cell_below HX3.out k4⟩
      clear hK K
      (try simp only [Act.put, List.setIfInBounds_toArray, List.set_cons_zero, List.set_cons_succ])
      refine wpAnyH_done (by kernel_rfl) ?_ _
      have HB := Aside0.mk (Below.trans hA.out (HX3.out.mono (by have h1 := hA.out.size; have h2 := HG.out; omega)))
      go_wp2
      go_ret
      exact ⟨rfl, by first | exact HB.out | (have := HG.out; subst this; exact HB.out)⟩
end Go.Proofs.YtefgahakbnfdeaaDoor.Rc
