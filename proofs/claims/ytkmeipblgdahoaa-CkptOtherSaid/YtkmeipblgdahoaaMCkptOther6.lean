/- Part 6 of 6 of the proof of CkptOther: RefLent, Two, Box, Does, Fits, Concat, Open, OpenG, RefOpen, OpenNil, HeavyZ, CkptOther, RowCkptOther. -/
import Derived.Test.YtkmeipblgdahoaaMCkptOther5
import Derived.Deep.DeepCutAuto
import Derived.Deep.Cut
import Derived.Test.YtkmeipblgdahoaaRows
import Derived.WalkKit
import Derived.ProofKit
import Derived.OpenShut
import Derived.ShutString
import Derived.ChangeOld
import Derived.Below
import Derived.SizedLaws
import Derived.Lib.SmallJoins
/- The document's own zones: lent; its Zones. -/
namespace Go.Proofs.Ytkmeipblgdahoaa.Dv
open Go.RowKit Go.Shelf Go.Proofs.YtkmeipblgdahoaaW.PrintWords Go.Proofs.YtkmeipblgdahoaaW.PrintMore Go.Proofs.Ytkmeipblgdahoaa.Base Go.Proofs.Ytkmeipblgdahoaa.Shp
set_option maxRecDepth 100000
set_option linter.unusedVariables false
set_option linter.unusedSimpArgs false
theorem take_one {α : Type} {xs : List α} {i : Nat} (d : α) {x : α} (h : i < xs.length) (hx : xs.getD i d = x) : xs.take (i + 1) = xs.take i ++ [x] := by
  rw [List.take_succ_eq_append_getElem h]
  rw [List.getD_eq_getElem?_getD, List.getElem?_eq_getElem h] at hx
  exact congrArg _ (congrArg (· :: []) hx)
set_option maxRecDepth 100000 in
set_option maxHeartbeats 4000000 in
theorem lentz_calls (A : Option Addr) (n c : Nat) (xs : List Zn) (hn : n ≤ 1000) (hxs : ∀ p ∈ xs, p.1.length ≤ 5000 ∧ ∀ x ∈ p.1, x.length ≤ 100000000) (w : World) (h : zoneK.C w A n xs) :
    Calls Try.prog 65 #[.slice A n c] w fun e w' => ∃ v, e = .returned v ∧ Kd.N zoneK 77 w' w.heap.size (fun k => w.heap.size ≤ k ∧ k < w'.heap.size) v xs ∧ Below w.heap.size w w' := by
  obtain ⟨hl, hm⟩ := C_len h
  have HL := Aside0.mk hl
  have HC := Aside0.mk h
  have HXS := Aside0.mk hxs
  clear h hl hxs
  go_enter Try.func65, Try.ntmps65
  go_wp2
  go_loopg [3, 4, 5, 6] n (fun g v3 v4 v5 v6 wr => ∃ i : Nat, v4 = .int .i64 (i : Int) ∧ i ≤ n ∧ Aside0 (g + i = n) ∧ Aside0 (Kd.N zoneK 77 wr w.heap.size (fun k => w.heap.size ≤ k) v3 (xs.take i) ∧ Below w.heap.size w wr))
  case atStart => exact ⟨0, rfl, by omega, ⟨rfl⟩, ⟨by rw [List.take_zero]; exact Kd.N_nil _ _ _ _ _, Below.refl _ _⟩⟩
  case round =>
    obtain ⟨i, rfl, hi, HK, HS⟩ := hrel
    rename World => W
    obtain ⟨g1, rfl⟩ : ∃ g1 : Nat, g1 = gk := ⟨_, rfl⟩
    by_cases hlt : i < n
    · obtain ⟨p, hp⟩ : ∃ p, xs.getD i ([], 0) = p := ⟨_, rfl⟩
      obtain ⟨pa, B0, c0, rfl, e0, e1, hk0, hB, hI⟩ := zones_at (Kd.C_below HC.out HS.out.2) i hlt hp
      have hpm : p ∈ xs := by
        rw [← hp, List.getD_eq_getElem?_getD, List.getElem?_eq_getElem (show i < xs.length by rw [HL.out]; exact hlt)]
        exact List.getElem_mem _
      have HP := Aside0.mk hp
      have HI := Aside0.mk hI
      obtain ⟨hp5, hpx⟩ := HXS.out p hpm
      have HPX := Aside0.mk hpx
      have hlt' : (i : Int) < (n : Int) := by omega
      have hd0 : decide ((i : Int) < (n : Int)) = true := decide_eq_true hlt'
      clear hp hB hI hk0 hpm hpx
      go_wp2
      obtain ⟨W1, hW1⟩ : ∃ W1, W.alloc (.cells #[.slice none 0 0, .int .i64 p.2] 77) = W1 := ⟨_, rfl⟩
      obtain ⟨gz, hgz⟩ : ∃ gz, W.heap.size = gz := ⟨_, rfl⟩
      have HBZ := Aside0.mk (show W1.heap[gz]? = some (.cells #[.slice none 0 0, .int .i64 p.2] 77 (0, 0)) by rw [← hW1, ← hgz]; exact blk_here rfl)
      have HS1 := Aside0.mk (show W1.heap.size = gz + 1 by rw [← hW1, ← hgz]; simp)
      have HB1 := Aside0.mk (show Below W.heap.size W W1 by rw [← hW1]; exact alloc_below _ _)
      have HGZ := Aside0.mk hgz
      have hwg : w.heap.size ≤ gz := by rw [← hgz]; exact HS.out.2.size
      rw [hW1, hgz]
      clear hW1 hgz e0 e1
      go_loopg [6] p.1.length (fun gk2 v6 wq => ∃ q : Nat, v6 = .int .i64 (q : Int) ∧ q ≤ p.1.length ∧ Aside0 (gk2 + q = p.1.length) ∧ Aside0 (∃ vz S, ZI W1 wq gz p.2 vz (p.1.take q) S))
      case atStart => exact ⟨0, rfl, by omega, ⟨rfl⟩, ⟨.slice none 0 0, fun _ => False, HBZ.out, by rw [List.take_zero]; exact Kd.N_nil _ _ _ _ _, fun _ h => h.elim, Chg.refl _ _⟩⟩
      case round =>
        obtain ⟨q, rfl, hq, HK2, HZZ⟩ := hrel
        rename World => Wq
        obtain ⟨vq, S, hz⟩ := HZZ.out
        have HZ := Aside0.mk hz
        have HBQ := Aside0.mk (show Below w.heap.size w Wq from by
          have h1 := HS.out.2
          have h2 := HB1.out
          have h3 := hz.chg
          have h4 := HS1.out
          have h5 := HGZ.out
          have h6 := h1.size
          exact ⟨h3.os.trans (h2.os.trans h1.os), h3.tape.trans (h2.tape.trans h1.tape), h3.output.trans (h2.output.trans h1.output), by have := h3.kept.1; omega, fun k hk => by
            rw [h3.kept.2 k (by omega) (by omega), h2.block k (by omega)]
            exact h1.block k hk⟩)
        obtain ⟨Aq, nq, cq, rfl, -, hCq⟩ := N_open hz.row
        obtain ⟨z0, z1, zf, -⟩ : Wq.cell? ⟨gz, 0, none⟩ = some (.slice Aq nq cq) ∧ Wq.cell? ⟨gz, 1, none⟩ = some (.int .i64 p.2) ∧ Wq.frozen? ⟨gz, 0, none⟩ = false ∧ Wq.frozen? ⟨gz, 1, none⟩ = false := by
          have := hz.blk
          exact ⟨by simp [World.cell?, this], by simp [World.cell?, this], by simp [World.frozen?, this], by simp [World.frozen?, this]⟩
        obtain ⟨pa', B1, c1, hpa, e0, e1, hk1, hB1, -⟩ := zones_at (Kd.C_below HC.out HBQ.out) i hlt HP.out
        obtain rfl : pa = pa' := by injection hpa
        have HZ0 := Aside0.mk z0
        clear hz hCq hpa zf
        by_cases hql : q < p.1.length
        · obtain ⟨pb, X0, cx, rfl, f0, hcx, hXC⟩ := bytes_at hB1 q hql
          obtain ⟨x, hx⟩ : ∃ x, p.1.getD q [] = x := ⟨_, rfl⟩
          rw [hx] at f0 hcx hXC
          have hxl : x.length ≤ 100000000 := HPX.out x (by rw [← hx, List.getD_eq_getElem?_getD, List.getElem?_eq_getElem hql]; exact List.getElem_mem _)
          have HXC := Aside0.mk hXC
          have HTK := Aside0.mk (take_one [] hql hx)
          have HNQ := Aside0.mk (show (p.1.take q).length ≤ 100000 by rw [List.length_take]; omega)
          have hqlt : (q : Int) < (p.1.length : Int) := by omega
          have hd1 : decide ((q : Int) < (p.1.length : Int)) = true := decide_eq_true hqlt
          clear hx hcx hXC hB1 hk1
          go_wp2
          refine wp_region_any (by kernel_rfl) ?_
          rw [show ({ Wq with drawn := Wq.drawn + 1 } : World) = Wq.drew from rfl]
          refine wpAny_take (i := 0) (oi := { dst := some 29, op := Op.fieldAddr 77 (Operand.tmp 5) 0, type := 0, pos := "ref.go:42", after := #[], guard := none }) (v := ?_) rfl (by kernel_rfl) (by kernel_rfl) (by kernel_rfl) (fun _ _ _ h => h) (Or.inl ⟨by rfl, ?_⟩) ?_
          rotate_left
          · (intro w; go_simp; (try with_reducible rfl))
          (try simp only [Act.put, List.setIfInBounds_toArray, List.set_cons_zero, List.set_cons_succ])
          refine wpAny_take (i := 2) (oi := { dst := some 31, op := Op.move (Operand.tmp 0), type := 64, pos := "ref.go:42", after := #[], guard := none }) (v := ?_) rfl (by kernel_rfl) (by kernel_rfl) (by kernel_rfl) (fun _ _ _ h => h) (Or.inl ⟨by rfl, ?_⟩) ?_
          rotate_left
          · (intro w; go_simp; (try with_reducible rfl))
          (try simp only [Act.put, List.setIfInBounds_toArray, List.set_cons_zero, List.set_cons_succ])
          refine wpAny_take (i := 3) (oi := { dst := some 32, op := Op.move (Operand.tmp 4), type := 3, pos := "ref.go:42", after := #[], guard := none }) (v := ?_) rfl (by kernel_rfl) (by kernel_rfl) (by kernel_rfl) (fun _ _ _ h => h) (Or.inl ⟨by rfl, ?_⟩) ?_
          rotate_left
          · (intro w; go_simp; (try with_reducible rfl))
          (try simp only [Act.put, List.setIfInBounds_toArray, List.set_cons_zero, List.set_cons_succ])
          refine wpAny_take (i := 4) (oi := { dst := some 33, op := Op.indexAddr 64 (Operand.tmp 31) (Operand.tmp 32), type := 0, pos := "ref.go:42", after := #[{ on := 2, ground := Ground.data }, { on := 3, ground := Ground.data }], guard := none }) (v := ?_) rfl (by kernel_rfl) (by kernel_rfl) (by kernel_rfl) (fun _ _ _ h => h) (Or.inl ⟨by rfl, ?_⟩) ?_
          rotate_left
          · (intro w; go_simp; (try with_reducible rfl))
          (try simp only [Act.put, List.setIfInBounds_toArray, List.set_cons_zero, List.set_cons_succ])
          refine wpAny_take (i := 5) (oi := { dst := some 34, op := Op.fieldAddr 77 (Operand.tmp 33) 0, type := 0, pos := "ref.go:42", after := #[{ on := 4, ground := Ground.data }], guard := none }) (v := ?_) rfl (by kernel_rfl) (by kernel_rfl) (by kernel_rfl) (fun _ _ _ h => h) (Or.inl ⟨by rfl, ?_⟩) ?_
          rotate_left
          · (intro w; go_simp; (try with_reducible rfl))
          (try simp only [Act.put, List.setIfInBounds_toArray, List.set_cons_zero, List.set_cons_succ])
          refine wpAny_take (i := 7) (oi := { dst := some 36, op := Op.move (Operand.tmp 6), type := 3, pos := "ref.go:42", after := #[], guard := none }) (v := ?_) rfl (by kernel_rfl) (by kernel_rfl) (by kernel_rfl) (fun _ _ _ h => h) (Or.inl ⟨by rfl, ?_⟩) ?_
          rotate_left
          · (intro w; go_simp; (try with_reducible rfl))
          (try simp only [Act.put, List.setIfInBounds_toArray, List.set_cons_zero, List.set_cons_succ])
          refine wpAny_ready (rs := [1, 6]) (by kernel_rfl) (by simp) ?_
          refine (AllReady.cons (o := { dst := some 30, op := Op.load 28 (Operand.tmp 29), type := 28, pos := "ref.go:42", after := #[{ on := 0, ground := Ground.data }], guard := none }) rfl (fun K hK => ?_) (AllReady.cons (o := { dst := some 35, op := Op.load 28 (Operand.tmp 34), type := 28, pos := "ref.go:42", after := #[{ on := 5, ground := Ground.data }], guard := none }) rfl (fun K hK => ?_) AllReady.nil))
          · go_simp
            refine hK _ _ ?_
            clear hK K
            (try simp only [Act.put, List.setIfInBounds_toArray, List.set_cons_zero, List.set_cons_succ])
            refine wpAny_ready (rs := [6]) (by kernel_rfl) (by simp) ?_
            refine (AllReady.cons (o := { dst := some 35, op := Op.load 28 (Operand.tmp 34), type := 28, pos := "ref.go:42", after := #[{ on := 5, ground := Ground.data }], guard := none }) rfl (fun K hK => ?_) AllReady.nil)
            go_simp
            refine hK _ _ ?_
            clear hK K
            (try simp only [Act.put, List.setIfInBounds_toArray, List.set_cons_zero, List.set_cons_succ])
            refine wpAny_take (i := 8) (oi := { dst := some 37, op := Op.indexAddr 28 (Operand.tmp 35) (Operand.tmp 36), type := 0, pos := "ref.go:42", after := #[{ on := 6, ground := Ground.data }, { on := 7, ground := Ground.data }], guard := none }) (v := ?_) rfl (by kernel_rfl) (by kernel_rfl) (by kernel_rfl) (fun _ _ _ h => h) (Or.inl ⟨by rfl, ?_⟩) ?_
            rotate_left
            · (intro w; go_simp; (try with_reducible rfl))
            (try simp only [Act.put, List.setIfInBounds_toArray, List.set_cons_zero, List.set_cons_succ])
            refine wpAny_ready (rs := [9]) (by kernel_rfl) (by simp) ?_
            refine (AllReady.cons (o := { dst := some 38, op := Op.load 39 (Operand.tmp 37), type := 39, pos := "ref.go:42", after := #[{ on := 8, ground := Ground.data }], guard := none }) rfl (fun K hK => ?_) AllReady.nil)
            go_simp
            refine hK _ _ ?_
            clear hK K
            (try simp only [Act.put, List.setIfInBounds_toArray, List.set_cons_zero, List.set_cons_succ])
            refine wpAny_ready (rs := [10]) (by kernel_rfl) (by simp) ?_
            refine (AllReady.cons (o := { dst := some 39, op := Op.call { callee := Callee.value (Operand.func 77), args := #[Operand.tmp 38], argTypes := #[39] }, type := 39, pos := "ref.go:42", after := #[{ on := 9, ground := Ground.data }], guard := none }) rfl (fun K hK => ?_) AllReady.nil)
            go_simp
            refine (lent_calls X0 x.length cx x (by omega) _ (Kd.C_below HXC.out (below_drew (Below.refl _ _)))).mono ?_
            rintro e w8 ⟨v8, rfl, hO8, hw8⟩
            obtain ⟨A8, n8, c8, rfl, -, hC8⟩ := hO8.reads
            have HO8 := Aside0.mk hO8
            have hb8 : Below Wq.heap.size Wq w8 := Below.trans (below_drew (Below.refl _ _)) hw8
            have HZ8 := Aside0.mk (HZ.out.below (by rw [HS1.out]; omega) hb8)
            have HKF8 := Aside0.mk hb8
            have z0 := pw_cell_below hb8 HZ0.out
            clear hO8 hw8 hC8 hb8
            refine hK _ _ ?_
            clear hK K
            (try simp only [Act.put, List.setIfInBounds_toArray, List.set_cons_zero, List.set_cons_succ])
            refine wpAny_ready (rs := [11]) (by kernel_rfl) (by simp) ?_
            refine (AllReady.cons (o := { dst := some 40, op := Op.buildSlice 28 1 #[(0, Operand.tmp 39)], type := 28, pos := "ref.go:42", after := #[{ on := 10, ground := Ground.data }], guard := none }) rfl (fun K hK => ?_) AllReady.nil)
            go_simp
            refine hK _ _ ?_
            clear hK K
            (try simp only [Act.put, List.setIfInBounds_toArray, List.set_cons_zero, List.set_cons_succ])
            refine wpAny_ready (rs := [12]) (by kernel_rfl) (by simp) ?_
            refine (AllReady.cons (o := { dst := some 41, op := Op.call { callee := Callee.builtin Builtin.append, args := #[Operand.tmp 30, Operand.tmp 40], argTypes := #[28, 28] }, type := 28, pos := "ref.go:42", after := #[{ on := 1, ground := Ground.data }, { on := 11, ground := Ground.data }, { on := 10, ground := Ground.chain }], guard := none }) rfl (fun K hK => ?_) AllReady.nil)
            refine app_blk_step W1.heap.size S (fun j => some j = (Value.slice A8 n8 c8).ownBlock) (.tmp 30) (.tmp 40) (by rfl) rfl (.slice Aq nq cq) (p.1.take q) x A8 n8 c8 (own_FK HO8.out) (fun j hj e => by have h1 := Kd.N_lt HZ.out.row j e.symm; have h2 := Kd.R_base HO8.out j hj.symm; have h3 : Wq.drew.heap.size = Wq.heap.size := rfl; omega) rfl (by simp [Act.eval]) HZ8.out.row (Nat.le_trans HZ.out.chg.kept.1 HKF8.out.size) HNQ.out ?_
            intro v9 w9 hN9 hg9
            obtain ⟨A9, n9, c9, rfl, -, -⟩ := N_open hN9
            have HZ9 := Aside0.mk (HZ8.out.add (Wq := Wq) (by rw [HS1.out]; omega) HZ.out.chg.kept.1 hN9 hg9 (fun j hj => Kd.R_base HO8.out j hj.symm) (Nat.le_trans HZ.out.chg.kept.1 HKF8.out.size))
            have hz9 : w9.heap[gz]? = some (.cells #[.slice Aq nq cq, .int .i64 p.2] 77 (0, 0)) := (hg9.block _ HZ8.out.blkEq (fun e => by have := Kd.N_base HZ8.out.row _ e.symm; have := HS1.out; omega)).trans HZ8.out.blk
            have z9 : w9.cell? ⟨gz, 0, none⟩ = some (.slice Aq nq cq) := by simp [World.cell?, hz9]
            have zf9 : w9.frozen? ⟨gz, 0, none⟩ = false := by simp [World.frozen?, hz9]
            have HG9 := Aside0.mk hg9
            clear hz9 hN9 hg9
            refine hK _ _ ?_
            clear hK K
            (try simp only [Act.put, List.setIfInBounds_toArray, List.set_cons_zero, List.set_cons_succ])
            refine wpAny_take (i := 13) (oi := { dst := some 42, op := Op.fieldAddr 77 (Operand.tmp 5) 0, type := 0, pos := "ref.go:42", after := #[{ on := 0, ground := Ground.phase }, { on := 1, ground := Ground.phase }, { on := 2, ground := Ground.phase }, { on := 3, ground := Ground.phase }, { on := 4, ground := Ground.phase }, { on := 5, ground := Ground.phase }, { on := 6, ground := Ground.phase }, { on := 7, ground := Ground.phase }, { on := 8, ground := Ground.phase }, { on := 9, ground := Ground.phase }, { on := 10, ground := Ground.phase }, { on := 11, ground := Ground.phase }, { on := 12, ground := Ground.phase }], guard := none }) (v := ?_) rfl (by kernel_rfl) (by kernel_rfl) (by kernel_rfl) (fun _ _ _ h => h) (Or.inl ⟨by rfl, ?_⟩) ?_
            rotate_left
            · (intro w; go_simp; (try with_reducible rfl))
            (try simp only [Act.put, List.setIfInBounds_toArray, List.set_cons_zero, List.set_cons_succ])
            refine wpAny_ready (rs := [14]) (by kernel_rfl) (by simp) ?_
            refine (AllReady.cons (o := { dst := none, op := Op.store 28 (Operand.tmp 42) (Operand.tmp 41), type := 0, pos := "ref.go:42", after := #[{ on := 13, ground := Ground.data }, { on := 12, ground := Ground.data }, { on := 12, ground := Ground.chain }, { on := 0, ground := Ground.phase }, { on := 1, ground := Ground.phase }, { on := 2, ground := Ground.phase }, { on := 3, ground := Ground.phase }, { on := 4, ground := Ground.phase }, { on := 5, ground := Ground.phase }, { on := 6, ground := Ground.phase }, { on := 7, ground := Ground.phase }, { on := 8, ground := Ground.phase }, { on := 9, ground := Ground.phase }, { on := 10, ground := Ground.phase }, { on := 11, ground := Ground.phase }, { on := 12, ground := Ground.phase }], guard := none }) rfl (fun K hK => ?_) AllReady.nil)
            go_simp
            refine hK _ _ ?_
            clear hK K
            (try simp only [Act.put, List.setIfInBounds_toArray, List.set_cons_zero, List.set_cons_succ])
            refine wpAny_done (by kernel_rfl) ?_ _
            go_wp2
            go_roundg (gk - 1)
            case measure => have := HK2.out; omega
            case rel =>
              refine ⟨q + 1, by congr 1, by omega, ⟨by have := HK2.out; omega⟩, ⟨?_⟩⟩
              obtain ⟨S9, hz⟩ := HZ9.out
              rw [← HTK.out] at hz
              exact ⟨_, S9, hz⟩
          · go_simp
            refine hK _ _ ?_
            clear hK K
            (try simp only [Act.put, List.setIfInBounds_toArray, List.set_cons_zero, List.set_cons_succ])
            refine wpAny_take (i := 8) (oi := { dst := some 37, op := Op.indexAddr 28 (Operand.tmp 35) (Operand.tmp 36), type := 0, pos := "ref.go:42", after := #[{ on := 6, ground := Ground.data }, { on := 7, ground := Ground.data }], guard := none }) (v := ?_) rfl (by kernel_rfl) (by kernel_rfl) (by kernel_rfl) (fun _ _ _ h => h) (Or.inl ⟨by rfl, ?_⟩) ?_
            rotate_left
            · (intro w; go_simp; (try with_reducible rfl))
            (try simp only [Act.put, List.setIfInBounds_toArray, List.set_cons_zero, List.set_cons_succ])
            refine wpAny_ready (rs := [1, 9]) (by kernel_rfl) (by simp) ?_
            refine (AllReady.cons (o := { dst := some 30, op := Op.load 28 (Operand.tmp 29), type := 28, pos := "ref.go:42", after := #[{ on := 0, ground := Ground.data }], guard := none }) rfl (fun K hK => ?_) (AllReady.cons (o := { dst := some 38, op := Op.load 39 (Operand.tmp 37), type := 39, pos := "ref.go:42", after := #[{ on := 8, ground := Ground.data }], guard := none }) rfl (fun K hK => ?_) AllReady.nil))
            · go_simp
              refine hK _ _ ?_
              clear hK K
              (try simp only [Act.put, List.setIfInBounds_toArray, List.set_cons_zero, List.set_cons_succ])
              refine wpAny_ready (rs := [9]) (by kernel_rfl) (by simp) ?_
              refine (AllReady.cons (o := { dst := some 38, op := Op.load 39 (Operand.tmp 37), type := 39, pos := "ref.go:42", after := #[{ on := 8, ground := Ground.data }], guard := none }) rfl (fun K hK => ?_) AllReady.nil)
              go_simp
              refine hK _ _ ?_
              clear hK K
              (try simp only [Act.put, List.setIfInBounds_toArray, List.set_cons_zero, List.set_cons_succ])
              refine wpAny_ready (rs := [10]) (by kernel_rfl) (by simp) ?_
              refine (AllReady.cons (o := { dst := some 39, op := Op.call { callee := Callee.value (Operand.func 77), args := #[Operand.tmp 38], argTypes := #[39] }, type := 39, pos := "ref.go:42", after := #[{ on := 9, ground := Ground.data }], guard := none }) rfl (fun K hK => ?_) AllReady.nil)
              go_simp
              refine (lent_calls X0 x.length cx x (by omega) _ (Kd.C_below HXC.out (below_drew (Below.refl _ _)))).mono ?_
              rintro e w8 ⟨v8, rfl, hO8, hw8⟩
              obtain ⟨A8, n8, c8, rfl, -, hC8⟩ := hO8.reads
              have HO8 := Aside0.mk hO8
              have hb8 : Below Wq.heap.size Wq w8 := Below.trans (below_drew (Below.refl _ _)) hw8
              have HZ8 := Aside0.mk (HZ.out.below (by rw [HS1.out]; omega) hb8)
              have HKF8 := Aside0.mk hb8
              have z0 := pw_cell_below hb8 HZ0.out
              clear hO8 hw8 hC8 hb8
              refine hK _ _ ?_
              clear hK K
              (try simp only [Act.put, List.setIfInBounds_toArray, List.set_cons_zero, List.set_cons_succ])
              refine wpAny_ready (rs := [11]) (by kernel_rfl) (by simp) ?_
              refine (AllReady.cons (o := { dst := some 40, op := Op.buildSlice 28 1 #[(0, Operand.tmp 39)], type := 28, pos := "ref.go:42", after := #[{ on := 10, ground := Ground.data }], guard := none }) rfl (fun K hK => ?_) AllReady.nil)
              go_simp
              refine hK _ _ ?_
              clear hK K
              (try simp only [Act.put, List.setIfInBounds_toArray, List.set_cons_zero, List.set_cons_succ])
              refine wpAny_ready (rs := [12]) (by kernel_rfl) (by simp) ?_
              refine (AllReady.cons (o := { dst := some 41, op := Op.call { callee := Callee.builtin Builtin.append, args := #[Operand.tmp 30, Operand.tmp 40], argTypes := #[28, 28] }, type := 28, pos := "ref.go:42", after := #[{ on := 1, ground := Ground.data }, { on := 11, ground := Ground.data }, { on := 10, ground := Ground.chain }], guard := none }) rfl (fun K hK => ?_) AllReady.nil)
              refine app_blk_step W1.heap.size S (fun j => some j = (Value.slice A8 n8 c8).ownBlock) (.tmp 30) (.tmp 40) (by rfl) rfl (.slice Aq nq cq) (p.1.take q) x A8 n8 c8 (own_FK HO8.out) (fun j hj e => by have h1 := Kd.N_lt HZ.out.row j e.symm; have h2 := Kd.R_base HO8.out j hj.symm; have h3 : Wq.drew.heap.size = Wq.heap.size := rfl; omega) rfl (by simp [Act.eval]) HZ8.out.row (Nat.le_trans HZ.out.chg.kept.1 HKF8.out.size) HNQ.out ?_
              intro v9 w9 hN9 hg9
              obtain ⟨A9, n9, c9, rfl, -, -⟩ := N_open hN9
              have HZ9 := Aside0.mk (HZ8.out.add (Wq := Wq) (by rw [HS1.out]; omega) HZ.out.chg.kept.1 hN9 hg9 (fun j hj => Kd.R_base HO8.out j hj.symm) (Nat.le_trans HZ.out.chg.kept.1 HKF8.out.size))
              have hz9 : w9.heap[gz]? = some (.cells #[.slice Aq nq cq, .int .i64 p.2] 77 (0, 0)) := (hg9.block _ HZ8.out.blkEq (fun e => by have := Kd.N_base HZ8.out.row _ e.symm; have := HS1.out; omega)).trans HZ8.out.blk
              have z9 : w9.cell? ⟨gz, 0, none⟩ = some (.slice Aq nq cq) := by simp [World.cell?, hz9]
              have zf9 : w9.frozen? ⟨gz, 0, none⟩ = false := by simp [World.frozen?, hz9]
              have HG9 := Aside0.mk hg9
              clear hz9 hN9 hg9
              refine hK _ _ ?_
              clear hK K
              (try simp only [Act.put, List.setIfInBounds_toArray, List.set_cons_zero, List.set_cons_succ])
              refine wpAny_take (i := 13) (oi := { dst := some 42, op := Op.fieldAddr 77 (Operand.tmp 5) 0, type := 0, pos := "ref.go:42", after := #[{ on := 0, ground := Ground.phase }, { on := 1, ground := Ground.phase }, { on := 2, ground := Ground.phase }, { on := 3, ground := Ground.phase }, { on := 4, ground := Ground.phase }, { on := 5, ground := Ground.phase }, { on := 6, ground := Ground.phase }, { on := 7, ground := Ground.phase }, { on := 8, ground := Ground.phase }, { on := 9, ground := Ground.phase }, { on := 10, ground := Ground.phase }, { on := 11, ground := Ground.phase }, { on := 12, ground := Ground.phase }], guard := none }) (v := ?_) rfl (by kernel_rfl) (by kernel_rfl) (by kernel_rfl) (fun _ _ _ h => h) (Or.inl ⟨by rfl, ?_⟩) ?_
              rotate_left
              · (intro w; go_simp; (try with_reducible rfl))
              (try simp only [Act.put, List.setIfInBounds_toArray, List.set_cons_zero, List.set_cons_succ])
              refine wpAny_ready (rs := [14]) (by kernel_rfl) (by simp) ?_
              refine (AllReady.cons (o := { dst := none, op := Op.store 28 (Operand.tmp 42) (Operand.tmp 41), type := 0, pos := "ref.go:42", after := #[{ on := 13, ground := Ground.data }, { on := 12, ground := Ground.data }, { on := 12, ground := Ground.chain }, { on := 0, ground := Ground.phase }, { on := 1, ground := Ground.phase }, { on := 2, ground := Ground.phase }, { on := 3, ground := Ground.phase }, { on := 4, ground := Ground.phase }, { on := 5, ground := Ground.phase }, { on := 6, ground := Ground.phase }, { on := 7, ground := Ground.phase }, { on := 8, ground := Ground.phase }, { on := 9, ground := Ground.phase }, { on := 10, ground := Ground.phase }, { on := 11, ground := Ground.phase }, { on := 12, ground := Ground.phase }], guard := none }) rfl (fun K hK => ?_) AllReady.nil)
              go_simp
              refine hK _ _ ?_
              clear hK K
              (try simp only [Act.put, List.setIfInBounds_toArray, List.set_cons_zero, List.set_cons_succ])
              refine wpAny_done (by kernel_rfl) ?_ _
              go_wp2
              go_roundg (gk - 1)
              case measure => have := HK2.out; omega
              case rel =>
                refine ⟨q + 1, by congr 1, by omega, ⟨by have := HK2.out; omega⟩, ⟨?_⟩⟩
                obtain ⟨S9, hz⟩ := HZ9.out
                rw [← HTK.out] at hz
                exact ⟨_, S9, hz⟩
            · go_simp
              refine hK _ _ ?_
              clear hK K
              (try simp only [Act.put, List.setIfInBounds_toArray, List.set_cons_zero, List.set_cons_succ])
              refine wpAny_ready (rs := [1, 10]) (by kernel_rfl) (by simp) ?_
              refine (AllReady.cons (o := { dst := some 30, op := Op.load 28 (Operand.tmp 29), type := 28, pos := "ref.go:42", after := #[{ on := 0, ground := Ground.data }], guard := none }) rfl (fun K hK => ?_) (AllReady.cons (o := { dst := some 39, op := Op.call { callee := Callee.value (Operand.func 77), args := #[Operand.tmp 38], argTypes := #[39] }, type := 39, pos := "ref.go:42", after := #[{ on := 9, ground := Ground.data }], guard := none }) rfl (fun K hK => ?_) AllReady.nil))
              · go_simp
                refine hK _ _ ?_
                clear hK K
                (try simp only [Act.put, List.setIfInBounds_toArray, List.set_cons_zero, List.set_cons_succ])
                refine wpAny_ready (rs := [10]) (by kernel_rfl) (by simp) ?_
                refine (AllReady.cons (o := { dst := some 39, op := Op.call { callee := Callee.value (Operand.func 77), args := #[Operand.tmp 38], argTypes := #[39] }, type := 39, pos := "ref.go:42", after := #[{ on := 9, ground := Ground.data }], guard := none }) rfl (fun K hK => ?_) AllReady.nil)
                go_simp
                refine (lent_calls X0 x.length cx x (by omega) _ (Kd.C_below HXC.out (below_drew (Below.refl _ _)))).mono ?_
                rintro e w8 ⟨v8, rfl, hO8, hw8⟩
                obtain ⟨A8, n8, c8, rfl, -, hC8⟩ := hO8.reads
                have HO8 := Aside0.mk hO8
                have hb8 : Below Wq.heap.size Wq w8 := Below.trans (below_drew (Below.refl _ _)) hw8
                have HZ8 := Aside0.mk (HZ.out.below (by rw [HS1.out]; omega) hb8)
                have HKF8 := Aside0.mk hb8
                have z0 := pw_cell_below hb8 HZ0.out
                clear hO8 hw8 hC8 hb8
                refine hK _ _ ?_
                clear hK K
                (try simp only [Act.put, List.setIfInBounds_toArray, List.set_cons_zero, List.set_cons_succ])
                refine wpAny_ready (rs := [11]) (by kernel_rfl) (by simp) ?_
                refine (AllReady.cons (o := { dst := some 40, op := Op.buildSlice 28 1 #[(0, Operand.tmp 39)], type := 28, pos := "ref.go:42", after := #[{ on := 10, ground := Ground.data }], guard := none }) rfl (fun K hK => ?_) AllReady.nil)
                go_simp
                refine hK _ _ ?_
                clear hK K
                (try simp only [Act.put, List.setIfInBounds_toArray, List.set_cons_zero, List.set_cons_succ])
                refine wpAny_ready (rs := [12]) (by kernel_rfl) (by simp) ?_
                refine (AllReady.cons (o := { dst := some 41, op := Op.call { callee := Callee.builtin Builtin.append, args := #[Operand.tmp 30, Operand.tmp 40], argTypes := #[28, 28] }, type := 28, pos := "ref.go:42", after := #[{ on := 1, ground := Ground.data }, { on := 11, ground := Ground.data }, { on := 10, ground := Ground.chain }], guard := none }) rfl (fun K hK => ?_) AllReady.nil)
                refine app_blk_step W1.heap.size S (fun j => some j = (Value.slice A8 n8 c8).ownBlock) (.tmp 30) (.tmp 40) (by rfl) rfl (.slice Aq nq cq) (p.1.take q) x A8 n8 c8 (own_FK HO8.out) (fun j hj e => by have h1 := Kd.N_lt HZ.out.row j e.symm; have h2 := Kd.R_base HO8.out j hj.symm; have h3 : Wq.drew.heap.size = Wq.heap.size := rfl; omega) rfl (by simp [Act.eval]) HZ8.out.row (Nat.le_trans HZ.out.chg.kept.1 HKF8.out.size) HNQ.out ?_
                intro v9 w9 hN9 hg9
                obtain ⟨A9, n9, c9, rfl, -, -⟩ := N_open hN9
                have HZ9 := Aside0.mk (HZ8.out.add (Wq := Wq) (by rw [HS1.out]; omega) HZ.out.chg.kept.1 hN9 hg9 (fun j hj => Kd.R_base HO8.out j hj.symm) (Nat.le_trans HZ.out.chg.kept.1 HKF8.out.size))
                have hz9 : w9.heap[gz]? = some (.cells #[.slice Aq nq cq, .int .i64 p.2] 77 (0, 0)) := (hg9.block _ HZ8.out.blkEq (fun e => by have := Kd.N_base HZ8.out.row _ e.symm; have := HS1.out; omega)).trans HZ8.out.blk
                have z9 : w9.cell? ⟨gz, 0, none⟩ = some (.slice Aq nq cq) := by simp [World.cell?, hz9]
                have zf9 : w9.frozen? ⟨gz, 0, none⟩ = false := by simp [World.frozen?, hz9]
                have HG9 := Aside0.mk hg9
                clear hz9 hN9 hg9
                refine hK _ _ ?_
                clear hK K
                (try simp only [Act.put, List.setIfInBounds_toArray, List.set_cons_zero, List.set_cons_succ])
                refine wpAny_take (i := 13) (oi := { dst := some 42, op := Op.fieldAddr 77 (Operand.tmp 5) 0, type := 0, pos := "ref.go:42", after := #[{ on := 0, ground := Ground.phase }, { on := 1, ground := Ground.phase }, { on := 2, ground := Ground.phase }, { on := 3, ground := Ground.phase }, { on := 4, ground := Ground.phase }, { on := 5, ground := Ground.phase }, { on := 6, ground := Ground.phase }, { on := 7, ground := Ground.phase }, { on := 8, ground := Ground.phase }, { on := 9, ground := Ground.phase }, { on := 10, ground := Ground.phase }, { on := 11, ground := Ground.phase }, { on := 12, ground := Ground.phase }], guard := none }) (v := ?_) rfl (by kernel_rfl) (by kernel_rfl) (by kernel_rfl) (fun _ _ _ h => h) (Or.inl ⟨by rfl, ?_⟩) ?_
                rotate_left
                · (intro w; go_simp; (try with_reducible rfl))
                (try simp only [Act.put, List.setIfInBounds_toArray, List.set_cons_zero, List.set_cons_succ])
                refine wpAny_ready (rs := [14]) (by kernel_rfl) (by simp) ?_
                refine (AllReady.cons (o := { dst := none, op := Op.store 28 (Operand.tmp 42) (Operand.tmp 41), type := 0, pos := "ref.go:42", after := #[{ on := 13, ground := Ground.data }, { on := 12, ground := Ground.data }, { on := 12, ground := Ground.chain }, { on := 0, ground := Ground.phase }, { on := 1, ground := Ground.phase }, { on := 2, ground := Ground.phase }, { on := 3, ground := Ground.phase }, { on := 4, ground := Ground.phase }, { on := 5, ground := Ground.phase }, { on := 6, ground := Ground.phase }, { on := 7, ground := Ground.phase }, { on := 8, ground := Ground.phase }, { on := 9, ground := Ground.phase }, { on := 10, ground := Ground.phase }, { on := 11, ground := Ground.phase }, { on := 12, ground := Ground.phase }], guard := none }) rfl (fun K hK => ?_) AllReady.nil)
                go_simp
                refine hK _ _ ?_
                clear hK K
                (try simp only [Act.put, List.setIfInBounds_toArray, List.set_cons_zero, List.set_cons_succ])
                refine wpAny_done (by kernel_rfl) ?_ _
                go_wp2
                go_roundg (gk - 1)
                case measure => have := HK2.out; omega
                case rel =>
                  refine ⟨q + 1, by congr 1, by omega, ⟨by have := HK2.out; omega⟩, ⟨?_⟩⟩
                  obtain ⟨S9, hz⟩ := HZ9.out
                  rw [← HTK.out] at hz
                  exact ⟨_, S9, hz⟩
              · go_simp
                refine (lent_calls X0 x.length cx x (by omega) _ (Kd.C_below HXC.out (below_drew (Below.refl _ _)))).mono ?_
                rintro e w8 ⟨v8, rfl, hO8, hw8⟩
                obtain ⟨A8, n8, c8, rfl, -, hC8⟩ := hO8.reads
                have HO8 := Aside0.mk hO8
                have hb8 : Below Wq.heap.size Wq w8 := Below.trans (below_drew (Below.refl _ _)) hw8
                have HZ8 := Aside0.mk (HZ.out.below (by rw [HS1.out]; omega) hb8)
                have HKF8 := Aside0.mk hb8
                have z0 := pw_cell_below hb8 HZ0.out
                clear hO8 hw8 hC8 hb8
                refine hK _ _ ?_
                clear hK K
                (try simp only [Act.put, List.setIfInBounds_toArray, List.set_cons_zero, List.set_cons_succ])
                refine wpAny_ready (rs := [1, 11]) (by kernel_rfl) (by simp) ?_
                refine (AllReady.cons (o := { dst := some 30, op := Op.load 28 (Operand.tmp 29), type := 28, pos := "ref.go:42", after := #[{ on := 0, ground := Ground.data }], guard := none }) rfl (fun K hK => ?_) (AllReady.cons (o := { dst := some 40, op := Op.buildSlice 28 1 #[(0, Operand.tmp 39)], type := 28, pos := "ref.go:42", after := #[{ on := 10, ground := Ground.data }], guard := none }) rfl (fun K hK => ?_) AllReady.nil))
                · go_simp
                  refine hK _ _ ?_
                  clear hK K
                  (try simp only [Act.put, List.setIfInBounds_toArray, List.set_cons_zero, List.set_cons_succ])
                  refine wpAny_ready (rs := [11]) (by kernel_rfl) (by simp) ?_
                  refine (AllReady.cons (o := { dst := some 40, op := Op.buildSlice 28 1 #[(0, Operand.tmp 39)], type := 28, pos := "ref.go:42", after := #[{ on := 10, ground := Ground.data }], guard := none }) rfl (fun K hK => ?_) AllReady.nil)
                  go_simp
                  refine hK _ _ ?_
                  clear hK K
                  (try simp only [Act.put, List.setIfInBounds_toArray, List.set_cons_zero, List.set_cons_succ])
                  refine wpAny_ready (rs := [12]) (by kernel_rfl) (by simp) ?_
                  refine (AllReady.cons (o := { dst := some 41, op := Op.call { callee := Callee.builtin Builtin.append, args := #[Operand.tmp 30, Operand.tmp 40], argTypes := #[28, 28] }, type := 28, pos := "ref.go:42", after := #[{ on := 1, ground := Ground.data }, { on := 11, ground := Ground.data }, { on := 10, ground := Ground.chain }], guard := none }) rfl (fun K hK => ?_) AllReady.nil)
                  refine app_blk_step W1.heap.size S (fun j => some j = (Value.slice A8 n8 c8).ownBlock) (.tmp 30) (.tmp 40) (by rfl) rfl (.slice Aq nq cq) (p.1.take q) x A8 n8 c8 (own_FK HO8.out) (fun j hj e => by have h1 := Kd.N_lt HZ.out.row j e.symm; have h2 := Kd.R_base HO8.out j hj.symm; have h3 : Wq.drew.heap.size = Wq.heap.size := rfl; omega) rfl (by simp [Act.eval]) HZ8.out.row (Nat.le_trans HZ.out.chg.kept.1 HKF8.out.size) HNQ.out ?_
                  intro v9 w9 hN9 hg9
                  obtain ⟨A9, n9, c9, rfl, -, -⟩ := N_open hN9
                  have HZ9 := Aside0.mk (HZ8.out.add (Wq := Wq) (by rw [HS1.out]; omega) HZ.out.chg.kept.1 hN9 hg9 (fun j hj => Kd.R_base HO8.out j hj.symm) (Nat.le_trans HZ.out.chg.kept.1 HKF8.out.size))
                  have hz9 : w9.heap[gz]? = some (.cells #[.slice Aq nq cq, .int .i64 p.2] 77 (0, 0)) := (hg9.block _ HZ8.out.blkEq (fun e => by have := Kd.N_base HZ8.out.row _ e.symm; have := HS1.out; omega)).trans HZ8.out.blk
                  have z9 : w9.cell? ⟨gz, 0, none⟩ = some (.slice Aq nq cq) := by simp [World.cell?, hz9]
                  have zf9 : w9.frozen? ⟨gz, 0, none⟩ = false := by simp [World.frozen?, hz9]
                  have HG9 := Aside0.mk hg9
                  clear hz9 hN9 hg9
                  refine hK _ _ ?_
                  clear hK K
                  (try simp only [Act.put, List.setIfInBounds_toArray, List.set_cons_zero, List.set_cons_succ])
                  refine wpAny_take (i := 13) (oi := { dst := some 42, op := Op.fieldAddr 77 (Operand.tmp 5) 0, type := 0, pos := "ref.go:42", after := #[{ on := 0, ground := Ground.phase }, { on := 1, ground := Ground.phase }, { on := 2, ground := Ground.phase }, { on := 3, ground := Ground.phase }, { on := 4, ground := Ground.phase }, { on := 5, ground := Ground.phase }, { on := 6, ground := Ground.phase }, { on := 7, ground := Ground.phase }, { on := 8, ground := Ground.phase }, { on := 9, ground := Ground.phase }, { on := 10, ground := Ground.phase }, { on := 11, ground := Ground.phase }, { on := 12, ground := Ground.phase }], guard := none }) (v := ?_) rfl (by kernel_rfl) (by kernel_rfl) (by kernel_rfl) (fun _ _ _ h => h) (Or.inl ⟨by rfl, ?_⟩) ?_
                  rotate_left
                  · (intro w; go_simp; (try with_reducible rfl))
                  (try simp only [Act.put, List.setIfInBounds_toArray, List.set_cons_zero, List.set_cons_succ])
                  refine wpAny_ready (rs := [14]) (by kernel_rfl) (by simp) ?_
                  refine (AllReady.cons (o := { dst := none, op := Op.store 28 (Operand.tmp 42) (Operand.tmp 41), type := 0, pos := "ref.go:42", after := #[{ on := 13, ground := Ground.data }, { on := 12, ground := Ground.data }, { on := 12, ground := Ground.chain }, { on := 0, ground := Ground.phase }, { on := 1, ground := Ground.phase }, { on := 2, ground := Ground.phase }, { on := 3, ground := Ground.phase }, { on := 4, ground := Ground.phase }, { on := 5, ground := Ground.phase }, { on := 6, ground := Ground.phase }, { on := 7, ground := Ground.phase }, { on := 8, ground := Ground.phase }, { on := 9, ground := Ground.phase }, { on := 10, ground := Ground.phase }, { on := 11, ground := Ground.phase }, { on := 12, ground := Ground.phase }], guard := none }) rfl (fun K hK => ?_) AllReady.nil)
                  go_simp
                  refine hK _ _ ?_
                  clear hK K
                  (try simp only [Act.put, List.setIfInBounds_toArray, List.set_cons_zero, List.set_cons_succ])
                  refine wpAny_done (by kernel_rfl) ?_ _
                  go_wp2
                  go_roundg (gk - 1)
                  case measure => have := HK2.out; omega
                  case rel =>
                    refine ⟨q + 1, by congr 1, by omega, ⟨by have := HK2.out; omega⟩, ⟨?_⟩⟩
                    obtain ⟨S9, hz⟩ := HZ9.out
                    rw [← HTK.out] at hz
                    exact ⟨_, S9, hz⟩
                · go_simp
                  refine hK _ _ ?_
                  clear hK K
                  (try simp only [Act.put, List.setIfInBounds_toArray, List.set_cons_zero, List.set_cons_succ])
                  have z0 := pw_cell_below (alloc_below w8 (.cells #[.slice A8 n8 c8] 39)) z0
                  refine wpAny_ready (rs := [1]) (by kernel_rfl) (by simp) ?_
                  refine (AllReady.cons (o := { dst := some 30, op := Op.load 28 (Operand.tmp 29), type := 28, pos := "ref.go:42", after := #[{ on := 0, ground := Ground.data }], guard := none }) rfl (fun K hK => ?_) AllReady.nil)
                  go_simp
                  refine hK _ _ ?_
                  clear hK K
                  (try simp only [Act.put, List.setIfInBounds_toArray, List.set_cons_zero, List.set_cons_succ])
                  refine wpAny_ready (rs := [12]) (by kernel_rfl) (by simp) ?_
                  refine (AllReady.cons (o := { dst := some 41, op := Op.call { callee := Callee.builtin Builtin.append, args := #[Operand.tmp 30, Operand.tmp 40], argTypes := #[28, 28] }, type := 28, pos := "ref.go:42", after := #[{ on := 1, ground := Ground.data }, { on := 11, ground := Ground.data }, { on := 10, ground := Ground.chain }], guard := none }) rfl (fun K hK => ?_) AllReady.nil)
                  refine app_blk_step W1.heap.size S (fun j => some j = (Value.slice A8 n8 c8).ownBlock) (.tmp 30) (.tmp 40) (by rfl) rfl (.slice Aq nq cq) (p.1.take q) x A8 n8 c8 (own_FK HO8.out) (fun j hj e => by have h1 := Kd.N_lt HZ.out.row j e.symm; have h2 := Kd.R_base HO8.out j hj.symm; have h3 : Wq.drew.heap.size = Wq.heap.size := rfl; omega) rfl (by simp [Act.eval]) HZ8.out.row (Nat.le_trans HZ.out.chg.kept.1 HKF8.out.size) HNQ.out ?_
                  intro v9 w9 hN9 hg9
                  obtain ⟨A9, n9, c9, rfl, -, -⟩ := N_open hN9
                  have HZ9 := Aside0.mk (HZ8.out.add (Wq := Wq) (by rw [HS1.out]; omega) HZ.out.chg.kept.1 hN9 hg9 (fun j hj => Kd.R_base HO8.out j hj.symm) (Nat.le_trans HZ.out.chg.kept.1 HKF8.out.size))
                  have hz9 : w9.heap[gz]? = some (.cells #[.slice Aq nq cq, .int .i64 p.2] 77 (0, 0)) := (hg9.block _ HZ8.out.blkEq (fun e => by have := Kd.N_base HZ8.out.row _ e.symm; have := HS1.out; omega)).trans HZ8.out.blk
                  have z9 : w9.cell? ⟨gz, 0, none⟩ = some (.slice Aq nq cq) := by simp [World.cell?, hz9]
                  have zf9 : w9.frozen? ⟨gz, 0, none⟩ = false := by simp [World.frozen?, hz9]
                  have HG9 := Aside0.mk hg9
                  clear hz9 hN9 hg9
                  refine hK _ _ ?_
                  clear hK K
                  (try simp only [Act.put, List.setIfInBounds_toArray, List.set_cons_zero, List.set_cons_succ])
                  refine wpAny_take (i := 13) (oi := { dst := some 42, op := Op.fieldAddr 77 (Operand.tmp 5) 0, type := 0, pos := "ref.go:42", after := #[{ on := 0, ground := Ground.phase }, { on := 1, ground := Ground.phase }, { on := 2, ground := Ground.phase }, { on := 3, ground := Ground.phase }, { on := 4, ground := Ground.phase }, { on := 5, ground := Ground.phase }, { on := 6, ground := Ground.phase }, { on := 7, ground := Ground.phase }, { on := 8, ground := Ground.phase }, { on := 9, ground := Ground.phase }, { on := 10, ground := Ground.phase }, { on := 11, ground := Ground.phase }, { on := 12, ground := Ground.phase }], guard := none }) (v := ?_) rfl (by kernel_rfl) (by kernel_rfl) (by kernel_rfl) (fun _ _ _ h => h) (Or.inl ⟨by rfl, ?_⟩) ?_
                  rotate_left
                  · (intro w; go_simp; (try with_reducible rfl))
                  (try simp only [Act.put, List.setIfInBounds_toArray, List.set_cons_zero, List.set_cons_succ])
                  refine wpAny_ready (rs := [14]) (by kernel_rfl) (by simp) ?_
                  refine (AllReady.cons (o := { dst := none, op := Op.store 28 (Operand.tmp 42) (Operand.tmp 41), type := 0, pos := "ref.go:42", after := #[{ on := 13, ground := Ground.data }, { on := 12, ground := Ground.data }, { on := 12, ground := Ground.chain }, { on := 0, ground := Ground.phase }, { on := 1, ground := Ground.phase }, { on := 2, ground := Ground.phase }, { on := 3, ground := Ground.phase }, { on := 4, ground := Ground.phase }, { on := 5, ground := Ground.phase }, { on := 6, ground := Ground.phase }, { on := 7, ground := Ground.phase }, { on := 8, ground := Ground.phase }, { on := 9, ground := Ground.phase }, { on := 10, ground := Ground.phase }, { on := 11, ground := Ground.phase }, { on := 12, ground := Ground.phase }], guard := none }) rfl (fun K hK => ?_) AllReady.nil)
                  go_simp
                  refine hK _ _ ?_
                  clear hK K
                  (try simp only [Act.put, List.setIfInBounds_toArray, List.set_cons_zero, List.set_cons_succ])
                  refine wpAny_done (by kernel_rfl) ?_ _
                  go_wp2
                  go_roundg (gk - 1)
                  case measure => have := HK2.out; omega
                  case rel =>
                    refine ⟨q + 1, by congr 1, by omega, ⟨by have := HK2.out; omega⟩, ⟨?_⟩⟩
                    obtain ⟨S9, hz⟩ := HZ9.out
                    rw [← HTK.out] at hz
                    exact ⟨_, S9, hz⟩
        · obtain rfl : q = p.1.length := by omega
          have hd1 : decide ((p.1.length : Int) < (p.1.length : Int)) = false := decide_eq_false (by omega)
          clear hB1 hk1
          have hz0 := HZ.out.row
          rw [List.take_length] at hz0
          have HNZ := Kd.N_reads' hz0
          have HFZ := Aside0.mk (show Kd.FK zoneK Wq S (p.1, p.2) [.slice Aq nq cq, .int .i64 p.2] from by
            have h1 := HNZ.1
            have h2 := Kd.N_F hz0
            subst h1
            exact zone_K h2 HNZ.2.1 HI.out)
          have hWq : ∀ k, k < W.heap.size → Wq.heap[k]? = W.heap[k]? := fun k hk => by
            have h4 := HS1.out
            have h5 := HGZ.out
            rw [HZ.out.chg.kept.2 k (by omega) (by omega)]
            exact HB1.out.block k hk
          have HOut := Aside0.mk (Kd.N_step (Kd.N_bound HS.out.1) (fun j hj hlt => hWq j hlt))
          have HTK := Aside0.mk (take_one ([], 0) (by rw [HL.out]; exact hlt) HP.out)
          clear hz0 HNZ hWq
          go_wp2_with (at_builtin; (refine app_zone w.heap.size _ S (.tmp 43) (.tmp 45) rfl rfl u3 (xs.take i) p.1 p.2 Aq nq cq HFZ.out (fun j hj e => by have h1 := (HZ.out.ft j hj).1; have h2 := Kd.N_lt HS.out.1 j e.symm; have h3 := HS1.out; have h4 := HGZ.out; omega) rfl (by simp [Act.eval]) HOut.out HBQ.out.size (by rw [List.length_take]; omega) ?_; intro v9 w9 hN9 hg9); (have HN9 := Aside0.mk hN9; have HG9 := Aside0.mk hg9; clear hN9 hg9))
          clear z0 z1 e0 e1
          go_roundg (g1 - 1)
          case measure => have := HK.out; omega
          case rel =>
            refine ⟨i + 1, by congr 1, by omega, ⟨by have := HK.out; omega⟩, ⟨?_, ?_⟩⟩
            · rw [HTK.out]
              refine Kd.N_mono HN9.out (fun k hk => ?_)
              rcases hk with h1 | h1 | h1
              · exact h1.1
              · have := (HZ.out.ft k h1).1; have h3 := HS1.out; omega
              · have := HBQ.out.size; omega
            · exact HBQ.out.grown HG9.out HBQ.out.size (fun k hk => Kd.N_base HOut.out k hk)
    · obtain rfl : i = n := by omega
      have hd0 : decide ((i : Int) < (i : Int)) = false := decide_eq_false (by omega)
      go_wp2
      go_ret
      have h1 := HS.out.1
      rw [List.take_of_length_le (by rw [HL.out]; omega)] at h1
      exact ⟨_, rfl, Kd.N_bound h1, HS.out.2⟩
end Go.Proofs.Ytkmeipblgdahoaa.Dv

/- The device and the document's, side by side: what is told of one is told of the other. -/
namespace Go.Proofs.Ytkmeipblgdahoaa.Dv
open Go.RowKit Go.Shelf Go.Proofs.YtkmeipblgdahoaaW.PrintWords Go.Proofs.YtkmeipblgdahoaaW.PrintMore Go.Proofs.Ytkmeipblgdahoaa.Base Go.Proofs.Ytkmeipblgdahoaa.Shp
set_option maxRecDepth 100000
set_option linter.unusedVariables false
set_option linter.unusedSimpArgs false
theorem partZ_flat {b zb : Nat} (hb : 0 < b) {zs : List Zn} (h : ZInv b zb zs) : (zs.map flat).map (partZ b) = zs := by
  rw [List.map_map]
  refine (List.map_congr_left (g := id) fun p hp => ?_).trans (List.map_id _)
  obtain ⟨_, _, h4⟩ := h p hp
  show (pieces b ((flat p).1.length / b) (flat p).1, (flat p).2) = p
  rw [flat_count hb h4]
  refine Prod.ext ?_ rfl
  refine List.ext_getElem (by simp [pieces]) fun i h1 h2 => ?_
  have h3 := flat_get (xs := p.1) (k := i) h2 h4
  rw [List.getD_eq_getElem?_getD, List.getElem?_eq_getElem h2] at h3
  show (pieces b p.1.length p.1.flatten)[i]'_ = p.1[i]
  simp only [pieces, List.getElem_map, piece, List.getElem_finRange, Fin.cast_mk]
  exact h3
theorem hasB_map {zs : List Zn} (i : Int) : hasB (zs.map flat).length i = hasB zs.length i := by rw [List.length_map]
section
variable {b zb : Nat} {zs zs' : List Zn} {ps' : List Prt}
theorem hasB_lt {n : Nat} {i : Int} (h : hasB n i = true) : 0 ≤ i ∧ i.toNat < n := by
  unfold hasB at h
  simp at h
  omega
theorem at_agree (hb : 0 < b) (h : ZInv b zb zs) {i : Int} {e e' : Ending} (h1 : AtR (b : Int) (zs.map flat) i e) (h2 : RAtR zs i e') : e = e' := by
  rcases h1 with ⟨a1, a2⟩ | ⟨a1, a2⟩ <;> rcases h2 with ⟨b1, b2⟩ | ⟨b1, b2⟩
  · rw [a2, b2]
  · rw [hasB_map, b1] at a1; cases a1
  · rw [hasB_map, b1] at a1; cases a1
  · obtain ⟨hi0, hi⟩ := hasB_lt b1
    rw [a2, b2, map_getD, flat_countI hb (h.get hi).2.2]
    rfl
theorem reset_agree (h : ZInv b zb zs) {i : Int} {e e' : Ending} (h1 : ResR (zs.map flat) i e ps') (h2 : RResR zs i e' zs') : ∃ er : Int, (0 ≤ er ∧ er ≤ 200) ∧ e = .returned (.int .u16 er) ∧ e' = .returned (.int .i64 er) ∧ ps' = zs'.map flat ∧ ZInv b zb zs' ∧ zs'.length = zs.length := by
  rcases h1 with ⟨a1, a2, a3⟩ | ⟨a1, a2, a3⟩ <;> rcases h2 with ⟨b1, b2, b3⟩ | ⟨b1, b2, b3⟩
  · exact ⟨100, by omega, a2, b2, by rw [a3, b3], by rw [b3]; exact h, by rw [b3]⟩
  · rw [hasB_map, b1] at a1; cases a1
  · rw [hasB_map, b1] at a1; cases a1
  · exact ⟨0, by omega, a2, b2, by rw [a3, b3, flat_reset], by rw [b3]; exact h.set _ ⟨⟨by simp, by simp⟩, by simp, by simp⟩, by rw [b3, List.length_set]⟩
theorem read_agree (hb : 0 < b) (h : ZInv b zb zs) {zi bi er er' : Int} {bs bs' : List UInt8} (h1 : ReadR (b : Int) (zs.map flat) zi bi er bs) (h2 : RReadR zs zi bi er' bs') : er = er' ∧ bs = bs' ∧ 0 ≤ er ∧ er ≤ 200 := by
  rcases h1 with ⟨a1, a2, a3⟩ | ⟨a1, a2, a3, a4⟩ | ⟨a1, a2, a3, a4⟩ <;> rcases h2 with ⟨b1, b2, b3⟩ | ⟨b1, b2, b3, b4⟩ | ⟨b1, b2, b3, b4⟩
  · exact ⟨by rw [a2, b2], by rw [a3, b3], by omega, by omega⟩
  · rw [hasB_map, b1] at a1; cases a1
  · rw [hasB_map, b1] at a1; cases a1
  · rw [hasB_map, b1] at a1; cases a1
  · exact ⟨by rw [a3, b3], by rw [a4, b4], by omega, by omega⟩
  · rw [map_getD, flat_countI hb (h.get (hasB_lt b1).2).2.2] at a2
    exact absurd b2 a2
  · rw [hasB_map, b1] at a1; cases a1
  · rw [map_getD, flat_countI hb (h.get (hasB_lt b1).2).2.2] at a2
    exact absurd a2 b2
  · obtain ⟨c1, c2⟩ := b2
    refine ⟨by rw [a3, b3], ?_, by omega, by omega⟩
    rw [a4, b4, map_getD]
    obtain ⟨q, rfl⟩ : ∃ q : Nat, bi = (q : Int) := ⟨bi.toNat, by omega⟩
    have := flat_get (xs := (zs.getD zi.toNat ([], 0)).1) (k := q) (by omega) (h.get (hasB_lt b1).2).2.2
    rw [show ((q : Int) * (b : Int)).toNat = q * b from by rw [← Int.natCast_mul, Int.toNat_natCast], Int.toNat_natCast, Int.toNat_natCast]
    exact this
theorem app_agree (hb : 0 < b) (h : ZInv b zb zs) {i : Int} {xs : List UInt8} {e e' : Ending} (h1 : AppR (zb : Int) (b : Int) (zs.map flat) i xs e ps') (h2 : RAppR (zb : Int) (b : Int) zs i xs e' zs') :
    ∃ x y er : Int, (0 ≤ er ∧ er ≤ 200) ∧ e = addrV x y er ∧ e' = raddrV x y er ∧ ps' = zs'.map flat ∧ ZInv b zb zs' ∧ zs'.length = zs.length := by
  have key : hasB zs.length i = true → (((zs.map flat).getD i.toNat ([], 0)).1.length : Int) / (b : Int) = (((zs.getD i.toNat ([], 0)).1.length : Nat) : Int) := fun hh => by
    rw [map_getD, flat_countI hb (h.get (hasB_lt hh).2).2.2]
  rcases h1 with ⟨a1, a2, a3⟩ | ⟨a1, a4, a5, a2, a3⟩ | ⟨a1, a4, a5, a2, a3⟩ <;> rcases h2 with ⟨b1, b2, b3⟩ | ⟨b1, b4, b5, b2, b3⟩ | ⟨b1, b4, b5, b2, b3⟩
  · exact ⟨0, 0, 100, by omega, a2, b2, by rw [a3, b3], by rw [b3]; exact h, by rw [b3]⟩
  · rw [hasB_map, b1] at a1; rcases a1 with a1 | a1
    · cases a1
    · exact absurd b4 a1
  · rw [hasB_map, b1] at a1; rcases a1 with a1 | a1
    · cases a1
    · exact absurd b4 a1
  · rw [hasB_map] at a1; rw [a1] at b1; rcases b1 with b1 | b1
    · cases b1
    · exact absurd a4 b1
  · exact ⟨0, 0, 101, by omega, a2, b2, by rw [a3, b3], by rw [b3]; exact h, by rw [b3]⟩
  · rw [key b1] at a5; omega
  · rw [hasB_map] at a1; rw [a1] at b1; rcases b1 with b1 | b1
    · cases b1
    · exact absurd a4 b1
  · rw [key b1] at a5; omega
  · refine ⟨_, _, 0, by omega, a2, by rw [key b1]; exact b2, ?_, ?_, by rw [b3, List.length_set]⟩
    · rw [a3, b3, flat_app, map_getD]
    · rw [b3]
      obtain ⟨h5, h6, h7⟩ := h.get (hasB_lt b1).2
      refine h.set _ ⟨⟨h5.1, ?_⟩, ?_, ?_⟩
      · simp only [List.length_append, List.length_singleton]
        omega
      · simp only [List.length_append, List.length_singleton]
        omega
      · intro y hy
        rcases List.mem_append.1 hy with hy | hy
        · exact h7 y hy
        · rw [List.mem_singleton.1 hy]; omega
end
/-- Both devices. -/
structure Two (w : World) (xb rb B : Nat) (z zb b r : Int) (ps : List Prt) (zs : List Zn) (v vr : Value) (D R : Nat → Prop) : Prop where
  dev : Dev w xb B D z zb b r ps v
  ref : RDv w rb B R z zb b r zs vr
  dl : ∀ k, D k → B ≤ k ∧ k < w.heap.size
  rl : ∀ k, R k → B ≤ k ∧ k < w.heap.size
  dr : ∀ k, D k → ¬ R k
  xr : xb ≠ rb
  drb : ¬ D rb
  rxb : ¬ R xb
  bx : B ≤ xb ∧ B ≤ rb
section
variable {w w1 : World} {xb rb B : Nat} {z zb b r : Int} {ps ps' : List Prt} {zs zs' : List Zn} {v vr : Value} {D R : Nat → Prop}
theorem Two.xlt (h : Two w xb rb B z zb b r ps zs v vr D R) : xb < w.heap.size ∧ rb < w.heap.size := ⟨(Array.getElem?_eq_some_iff.1 h.dev.blk).1, (Array.getElem?_eq_some_iff.1 h.ref.blk).1⟩
theorem Two.base (h : Two w xb rb B z zb b r ps zs v vr D R) : B ≤ w.heap.size := by have := h.xlt; have := h.bx; omega
theorem Two.below (h : Two w xb rb B z zb b r ps zs v vr D R) (hb : Below w.heap.size w w1) : Two w1 xb rb B z zb b r ps zs v vr D R :=
  ⟨h.dev.below hb, h.ref.below hb, fun k hk => ⟨(h.dl k hk).1, Nat.lt_of_lt_of_le (h.dl k hk).2 hb.size⟩, fun k hk => ⟨(h.rl k hk).1, Nat.lt_of_lt_of_le (h.rl k hk).2 hb.size⟩, h.dr, h.xr, h.drb, h.rxb, h.bx⟩
theorem Two.chg (h : Two w xb rb B z zb b r ps zs v vr D R) (hc : Chg w w1 (fun k => w.heap.size ≤ k)) : Two w1 xb rb B z zb b r ps zs v vr D R := by
  have := h.xlt
  exact ⟨h.dev.chg hc (by omega) (fun k hk hs => by have := (h.dl k hk).2; omega), h.ref.chg hc (by omega) (fun k hk hs => by have := (h.rl k hk).2; omega), fun k hk => ⟨(h.dl k hk).1, Nat.lt_of_lt_of_le (h.dl k hk).2 hc.kept.1⟩, fun k hk => ⟨(h.rl k hk).1, Nat.lt_of_lt_of_le (h.rl k hk).2 hc.kept.1⟩, h.dr, h.xr, h.drb, h.rxb, h.bx⟩
theorem Two.devs (h : Two w xb rb B z zb b r ps zs v vr D R) : Dev w xb B (fun k => D k ∨ w.heap.size ≤ k) z zb b r ps v := h.dev.tight (fun k h _ _ => .inl h)
theorem Two.refs (h : Two w xb rb B z zb b r ps zs v vr D R) : RDv w rb B (fun k => R k ∨ w.heap.size ≤ k) z zb b r zs vr := h.ref.mono (fun k h _ => .inl h)
theorem Two.devop (h : Two w xb rb B z zb b r ps zs v vr D R) (hD : Dev w1 xb B (fun k => D k ∨ w.heap.size ≤ k) z zb b r ps' v) (hc : Chg w w1 (fun k => D k ∨ w.heap.size ≤ k)) :
    Two w1 xb rb B z zb b r ps' zs v vr (fun k => (D k ∨ w.heap.size ≤ k) ∧ B ≤ k ∧ k < w1.heap.size) R := by
  have hsz := hc.kept.1
  obtain ⟨hx, hr⟩ := h.xlt
  refine ⟨hD.tight (fun k hk h1 h2 => ⟨hk, h1, h2⟩), h.ref.chg hc (fun hs => hs.elim h.drb (fun h1 => by omega)) (fun k hk hs => hs.elim (fun h1 => h.dr k h1 hk) (fun h1 => by have := (h.rl k hk).2; omega)), fun k hk => hk.2, fun k hk => ⟨(h.rl k hk).1, by have := (h.rl k hk).2; omega⟩,
    fun k hk hr => hk.1.elim (fun h1 => h.dr k h1 hr) (fun h1 => by have := (h.rl k hr).2; omega), h.xr, fun hs => hs.1.elim h.drb (fun h1 => by omega), h.rxb, h.bx⟩
theorem Two.refop (h : Two w xb rb B z zb b r ps zs v vr D R) (hR : RDv w1 rb B (fun k => R k ∨ w.heap.size ≤ k) z zb b r zs' vr) (hc : Chg w w1 (fun k => R k ∨ w.heap.size ≤ k)) :
    Two w1 xb rb B z zb b r ps zs' v vr D (fun k => (R k ∨ w.heap.size ≤ k) ∧ B ≤ k ∧ k < w1.heap.size) := by
  have hsz := hc.kept.1
  obtain ⟨hx, hr⟩ := h.xlt
  have hbase : ∀ k, (R k ∨ w.heap.size ≤ k) → B ≤ k := fun k hk => hk.elim (fun h1 => (h.rl k h1).1) (fun h1 => Nat.le_trans h.base h1)
  refine ⟨h.dev.chg hc (fun hs => hs.elim h.rxb (fun h1 => by omega)) (fun k hk hs => hs.elim (fun h1 => h.dr k hk h1) (fun h1 => by have := (h.dl k hk).2; omega)), hR.mono (fun k hk hlt => ⟨hk, hbase k hk, hlt⟩), fun k hk => ⟨(h.dl k hk).1, by have := (h.dl k hk).2; omega⟩, fun k hk => hk.2,
    fun k hk hr => hr.1.elim (fun h1 => h.dr k hk h1) (fun h1 => by have := (h.dl k hk).2; omega), h.xr, h.drb, fun hs => hs.1.elim h.rxb (fun h1 => by omega), h.bx⟩
theorem Two.devB (h : Two w xb rb B z zb b r ps zs v vr D R) (hc : Chg w w1 (fun k => D k ∨ w.heap.size ≤ k)) : Below B w w1 :=
  hc.to_below h.base (fun k hk => hk.elim (fun h1 => (h.dl k h1).1) (fun h1 => Nat.le_trans h.base h1))
theorem Two.refB (h : Two w xb rb B z zb b r ps zs v vr D R) (hc : Chg w w1 (fun k => R k ∨ w.heap.size ≤ k)) : Below B w w1 :=
  hc.to_below h.base (fun k hk => hk.elim (fun h1 => (h.rl k h1).1) (fun h1 => Nat.le_trans h.base h1))
end
set_option maxHeartbeats 1000000 in
theorem rzones_calls (rb base : Nat) (ok : Nat → Prop) (z zb b r : Int) (zs : List Zn) (v : Value) (hn : zs.length ≤ 1000) (hxs : ∀ p ∈ zs, p.1.length ≤ 5000 ∧ ∀ x ∈ p.1, x.length ≤ 100000000) (w : World) (h : RDv w rb base ok z zb b r zs v) :
    Calls Try.prog 33 #[.pointer (some ⟨rb, 0, none⟩)] w fun e w' => ∃ v', e = .returned v' ∧ Kd.N zoneK 77 w' w.heap.size (fun k => w.heap.size ≤ k ∧ k < w'.heap.size) v' zs ∧ Below w.heap.size w w' := by
  obtain ⟨-, -, -, -, k4⟩ := h.cells
  obtain ⟨A, c, rfl, hc, hC⟩ := Kd.N_reads h.row
  have HC := Aside0.mk hC
  clear h hC
  go_enter Try.func33, Try.ntmps33
  go_wp2_with fail
  refine (lentz_calls A _ c zs hn hxs _ HC.out).mono ?_
  rintro e w2 ⟨v2, rfl, hN, hb⟩
  have HN := Aside0.mk hN
  have HB := Aside0.mk hb
  clear hN hb
  go_wp2
  go_ret
  exact ⟨_, rfl, HN.out, HB.out⟩
end Go.Proofs.Ytkmeipblgdahoaa.Dv

/- A shape in its box; numbers of a shape. -/
namespace Go.Proofs.Ytkmeipblgdahoaa.Dv
open Go.RowKit Go.Proofs.YtkmeipblgdahoaaW.PrintWords Go.Proofs.YtkmeipblgdahoaaW.PrintMore Go.Proofs.Ytkmeipblgdahoaa.Base Go.Proofs.Ytkmeipblgdahoaa.Shp
set_option maxRecDepth 100000
set_option linter.unusedVariables false
set_option linter.unusedSimpArgs false
/-- A shape in its box. -/
structure Box (w : World) (g : Nat) (z zb b r : Int) : Prop where
  d0 : w.cell? ⟨g, 0, none⟩ = some (.int .i64 z)
  d1 : w.cell? ⟨g, 1, none⟩ = some (.int .i64 zb)
  d2 : w.cell? ⟨g, 2, none⟩ = some (.int .i64 b)
  d3 : w.cell? ⟨g, 3, none⟩ = some (.int .i64 r)
theorem Box.below {w w1 : World} {g : Nat} {z zb b r : Int} (h : Box w g z zb b r) (hb : Below w.heap.size w w1) : Box w1 g z zb b r := ⟨pw_cell_below hb h.d0, pw_cell_below hb h.d1, pw_cell_below hb h.d2, pw_cell_below hb h.d3⟩
theorem Box.new (w : World) (z zb b r : Int) : Box (w.alloc (.cells #[.int .i64 z, .int .i64 zb, .int .i64 b, .int .i64 r] 23)) w.heap.size z zb b r := ⟨by go_simp, by go_simp, by go_simp, by go_simp⟩
theorem small_rt {z zb b r : Int} (hrt : Rt z zb b r) : ∃ (zn zbn bn : Nat), z = (zn : Int) ∧ zb = (zbn : Int) ∧ b = (bn : Int) ∧ 6 ≤ zn ∧ zn ≤ 256 ∧ zbn ≤ 4096 ∧ 64 ≤ bn ∧ bn ≤ 4096 := by
  obtain ⟨h1, h2, h3, h4, h5, _, _⟩ := hrt
  obtain ⟨p1, p2⟩ := pow_rng h5
  exact ⟨z.toNat, zb.toNat, b.toNat, by omega, by omega, by omega, by omega, by omega, by omega, by omega, by omega⟩
theorem Box.belowB {w w1 : World} {g B : Nat} {z zb b r : Int} (h : Box w g z zb b r) (hb : Below B w w1) (hg : g < B) : Box w1 g z zb b r :=
  ⟨by rw [hb.cell hg]; exact h.d0, by rw [hb.cell hg]; exact h.d1, by rw [hb.cell hg]; exact h.d2, by rw [hb.cell hg]; exact h.d3⟩
end Go.Proofs.Ytkmeipblgdahoaa.Dv

/- does: a call, on both. -/
namespace Go.Proofs.Ytkmeipblgdahoaa.Dv
open Go.RowKit Go.Proofs.YtkmeipblgdahoaaW.PrintWords Go.Proofs.YtkmeipblgdahoaaW.PrintMore Go.Proofs.Ytkmeipblgdahoaa.Base Go.Proofs.Ytkmeipblgdahoaa.Shp
set_option maxRecDepth 100000
set_option linter.unusedVariables false
set_option linter.unusedSimpArgs false
theorem flip_u8 : ∀ n : Fin 256, bits .xor .u8 ((n.1 : Nat) : Int) 255 = ((255 - n.1 : Nat) : Int) := by decide +kernel
theorem flip_byte (x : UInt8) : ∃ c : UInt8, bits .xor .u8 (x.toNat : Int) 255 = (c.toNat : Int) := by
  refine ⟨UInt8.ofNat (255 - x.toNat), ?_⟩
  rw [flip_u8 ⟨x.toNat, x.toNat_lt⟩]
  have : (UInt8.ofNat (255 - x.toNat)).toNat = 255 - x.toNat := by
    rw [UInt8.toNat_ofNat']
    have := x.toNat_lt
    omega
  rw [this]
theorem Two.chgS {w w1 : World} {xb rb B : Nat} {z zb b r : Int} {ps : List Prt} {zs : List Zn} {v vr : Value} {D R S : Nat → Prop} (h : Two w xb rb B z zb b r ps zs v vr D R) (hc : Chg w w1 S) (hx : ¬ S xb) (hr : ¬ S rb) (hd : ∀ k, D k → ¬ S k) (hrr : ∀ k, R k → ¬ S k) : Two w1 xb rb B z zb b r ps zs v vr D R :=
  ⟨h.dev.chg hc hx hd, h.ref.chg hc hr hrr, fun k hk => ⟨(h.dl k hk).1, Nat.lt_of_lt_of_le (h.dl k hk).2 hc.kept.1⟩, fun k hk => ⟨(h.rl k hk).1, Nat.lt_of_lt_of_le (h.rl k hk).2 hc.kept.1⟩, h.dr, h.xr, h.drb, h.rxb, h.bx⟩
theorem own_kept {w w1 : World} {base : Nat} {v : Value} {xs : List UInt8} {S : Nat → Prop} (h : Go.Proofs.Ytkmeipblgdahoaa.Base.Own w base v xs) (hc : Chg w w1 S) (hS : ∀ k, base ≤ k → k < w.heap.size → ¬ S k) : Go.Proofs.Ytkmeipblgdahoaa.Base.Own w1 base v xs :=
  Kd.R_mono (Kd.R_kept (Kd.R_bound h) hc.kept (fun j hj => hS j hj.2.1 hj.2.2.1)) (fun k _ => trivial)
theorem app_det {b zb : Nat} (hb : 0 < b) {zs : List Zn} (h : ZInv b zb zs) (i : Int) (xs : List UInt8) : ∃ (x y er : Int) (zs' : List Zn), (0 ≤ er ∧ er ≤ 200) ∧ ZInv b zb zs' ∧ zs'.length = zs.length ∧
    (∀ e ps', AppR (zb : Int) (b : Int) (zs.map flat) i xs e ps' → e = addrV x y er ∧ ps' = zs'.map flat) ∧ (∀ e z', RAppR (zb : Int) (b : Int) zs i xs e z' → e = raddrV x y er ∧ z' = zs') := by
  have tot : ∃ e z', RAppR (zb : Int) (b : Int) zs i xs e z' ∧ ∀ e2 z2, RAppR (zb : Int) (b : Int) zs i xs e2 z2 → e2 = e ∧ z2 = z' := by
    by_cases h1 : hasB zs.length i = true
    · by_cases h2 : (xs.length : Int) = (b : Int)
      · by_cases h3 : (zb : Int) ≤ (((zs.getD i.toNat ([], 0)).1.length : Nat) : Int)
        · refine ⟨_, _, .inr (.inl ⟨h1, h2, h3, rfl, rfl⟩), ?_⟩
          rintro e2 z2 (⟨a1, a2, a3⟩ | ⟨a1, a4, a5, a2, a3⟩ | ⟨a1, a4, a5, a2, a3⟩)
          · rcases a1 with a1 | a1
            · rw [h1] at a1; cases a1
            · exact absurd h2 a1
          · exact ⟨a2, a3⟩
          · omega
        · refine ⟨_, _, .inr (.inr ⟨h1, h2, by omega, rfl, rfl⟩), ?_⟩
          rintro e2 z2 (⟨a1, a2, a3⟩ | ⟨a1, a4, a5, a2, a3⟩ | ⟨a1, a4, a5, a2, a3⟩)
          · rcases a1 with a1 | a1
            · rw [h1] at a1; cases a1
            · exact absurd h2 a1
          · omega
          · exact ⟨a2, a3⟩
      · refine ⟨_, _, .inl ⟨.inr h2, rfl, rfl⟩, ?_⟩
        rintro e2 z2 (⟨a1, a2, a3⟩ | ⟨a1, a4, a5, a2, a3⟩ | ⟨a1, a4, a5, a2, a3⟩)
        · exact ⟨a2, a3⟩
        · exact absurd a4 h2
        · exact absurd a4 h2
    · have h1 : hasB zs.length i = false := by simpa using h1
      refine ⟨_, _, .inl ⟨.inl h1, rfl, rfl⟩, ?_⟩
      rintro e2 z2 (⟨a1, a2, a3⟩ | ⟨a1, a4, a5, a2, a3⟩ | ⟨a1, a4, a5, a2, a3⟩)
      · exact ⟨a2, a3⟩
      · rw [h1] at a1; cases a1
      · rw [h1] at a1; cases a1
  obtain ⟨e0, z0, hR, hd⟩ := tot
  have tot2 : ∃ e p', AppR (zb : Int) (b : Int) (zs.map flat) i xs e p' := by
    by_cases h1 : hasB (zs.map flat).length i = true
    · by_cases h2 : (xs.length : Int) = (b : Int)
      · by_cases h3 : (zb : Int) ≤ ((((zs.map flat).getD i.toNat ([], 0)).1.length : Nat) : Int) / (b : Int)
        · exact ⟨_, _, .inr (.inl ⟨h1, h2, h3, rfl, rfl⟩)⟩
        · exact ⟨_, _, .inr (.inr ⟨h1, h2, by omega, rfl, rfl⟩)⟩
      · exact ⟨_, _, .inl ⟨.inr h2, rfl, rfl⟩⟩
    · exact ⟨_, _, .inl ⟨.inl (by simpa using h1), rfl, rfl⟩⟩
  obtain ⟨e1, p1, hA⟩ := tot2
  obtain ⟨x, y, er, her, -, h2, -, h4, h5⟩ := app_agree hb h hA hR
  refine ⟨x, y, er, z0, her, h4, h5, fun e ps' hh => ?_, fun e z' hh => ?_⟩
  · obtain ⟨x', y', er', -, k1, k2, k3, -, -⟩ := app_agree hb h hh hR
    rw [h2] at k2
    unfold raddrV at k2
    simp only [Ending.returned.injEq, Value.tuple.injEq, Array.mk.injEq, List.cons.injEq, Value.agg.injEq, Value.int.injEq, true_and, and_true] at k2
    obtain ⟨⟨rfl, rfl⟩, rfl⟩ := k2
    exact ⟨k1, k3⟩
  · obtain ⟨k1, k2⟩ := hd e z' hh
    exact ⟨k1.trans h2, k2⟩
/-- What a call leaves. -/
def Both (w w' : World) (xb rb B zn zbn bn : Nat) (r : Int) (v vr : Value) : Prop := ∃ zs D R, Two w' xb rb B zn zbn bn r (zs.map flat) zs v vr D R ∧ ZInv bn zbn zs ∧ zs.length = zn ∧ Below B w w'
def resE (n : Nat) (i : Int) : Int := if hasB n i = true then 0 else 100
def resZ (zs : List Zn) (i : Int) : List Zn := if hasB zs.length i = true then zs.set i.toNat ([], 0) else zs
theorem resZ_len (zs : List Zn) (i : Int) : (resZ zs i).length = zs.length := by unfold resZ; split <;> simp
theorem resZ_inv {b zb : Nat} {zs : List Zn} (h : ZInv b zb zs) (i : Int) : ZInv b zb (resZ zs i) := by
  unfold resZ
  split
  · exact h.set _ ⟨⟨by simp, by simp⟩, by simp, by simp⟩
  · exact h
theorem dreset_calls (xb base : Nat) (ok : Nat → Prop) (z zb b r : Int) (zs : List Zn) (v : Value) (i : Int) (hi : IsI i) (w : World) (h : Dev w xb base ok z zb b r (zs.map flat) v) :
    Calls Try.prog 24 #[.pointer (some ⟨xb, 0, none⟩), .int .i64 i] w fun e w' => e = .returned (.int .u16 (resE zs.length i)) ∧ Dev w' xb base ok z zb b r ((resZ zs i).map flat) v ∧ Chg w w' ok := by
  refine (reset_calls xb base ok z zb b r _ v i hi w h).mono ?_
  rintro e w1 ⟨ps', ⟨a1, a2, a3⟩ | ⟨a1, a2, a3⟩, h2, h3⟩
  · rw [hasB_map] at a1
    unfold resE resZ
    rw [if_neg (by rw [a1]; simp), if_neg (by rw [a1]; simp)]
    exact ⟨a2, by rw [← a3]; exact h2, h3⟩
  · rw [hasB_map] at a1
    unfold resE resZ
    rw [if_pos a1, if_pos a1, flat_reset]
    exact ⟨a2, by rw [← a3]; exact h2, h3⟩
theorem rrreset_calls (rb base : Nat) (ok : Nat → Prop) (z zb b r : Int) (zs : List Zn) (v : Value) (i : Int) (hi : IsI i) (w : World) (h : RDv w rb base ok z zb b r zs v) :
    Calls Try.prog 60 #[.pointer (some ⟨rb, 0, none⟩), .int .i64 i] w fun e w' => e = .returned (.int .i64 (resE zs.length i)) ∧ RDv w' rb base ok z zb b r (resZ zs i) v ∧ Chg w w' ok := by
  refine (rreset_calls rb base ok z zb b r _ v i hi w h).mono ?_
  rintro e w1 ⟨ps', ⟨a1, a2, a3⟩ | ⟨a1, a2, a3⟩, h2, h3⟩
  · unfold resE resZ
    rw [if_neg (by rw [a1]; simp), if_neg (by rw [a1]; simp)]
    exact ⟨a2, by rw [← a3]; exact h2, h3⟩
  · unfold resE resZ
    rw [if_pos a1, if_pos a1]
    exact ⟨a2, by rw [← a3]; exact h2, h3⟩
theorem inv_small {b zb : Nat} {zs : List Zn} (hb : b ≤ 4096) (hz : zb ≤ 4096) (h : ZInv b zb zs) : (∀ p ∈ zs.map flat, p.1.length ≤ 100000000) ∧ (∀ p ∈ zs, ∀ x ∈ p.1, x.length ≤ 100000000) ∧ (∀ p ∈ zs, p.1.length ≤ 5000) ∧ (∀ p ∈ zs, p.1.length ≤ 5000 ∧ ∀ x ∈ p.1, x.length ≤ 100000000) ∧ Whole b 4096 (zs.map flat) := by
  have h1 : ∀ p ∈ zs, ∀ x ∈ p.1, x.length ≤ 100000000 := fun p hp x hx => by have := (h p hp).2.2 x hx; omega
  have h2 : ∀ p ∈ zs, p.1.length ≤ 5000 := fun p hp => by have := (h p hp).2.1; omega
  have h3 : Whole b 4096 (zs.map flat) := fun q hq => by
    obtain ⟨p, hp, rfl⟩ := List.mem_map.1 hq
    exact ⟨p.1.length, by have := (h p hp).2.1; omega, flat_len (h p hp).2.2⟩
  exact ⟨h3.small hb (Nat.le_refl _), h1, h2, fun p hp => ⟨h2 p hp, h1 p hp⟩, h3⟩
end Go.Proofs.Ytkmeipblgdahoaa.Dv

/- fits: may a zone be; slices.ContainsFunc with its closure. -/
namespace Go.Proofs.Ytkmeipblgdahoaa.Dv
open Go.RowKit Go.Proofs.YtkmeipblgdahoaaW.PrintWords Go.Proofs.YtkmeipblgdahoaaW.PrintMore Go.Proofs.Ytkmeipblgdahoaa.Base Go.Proofs.Ytkmeipblgdahoaa.Shp
set_option maxRecDepth 100000
set_option linter.unusedVariables false
set_option linter.unusedSimpArgs false
theorem fit1_calls (g : Nat) (bn : Int) (A : Option Addr) (n c : Nat) (w : World) (h : w.cell? ⟨g, 2, none⟩ = some (.int .i64 bn)) :
    Calls Try.prog 80 #[.slice A n c, .pointer (some ⟨g, 0, none⟩)] w fun e w' => e = .returned (.bool (decide ((n : Int) ≠ bn))) ∧ w = w' := by
  by_cases hb : (n : Int) = bn
  · have hnb : ((n : Int) != bn) = false := by rw [bne_eq_false_iff_eq]; exact hb
    have HN := Aside0.mk hb
    clear hb
    go_enter Try.func80, Try.ntmps80
    go_wp2
    go_ret
    exact ⟨by rw [decide_eq_false (fun h => h HN.out)]; rfl, rfl⟩
  · have hnb : ((n : Int) != bn) = true := by rw [bne_iff_ne]; exact hb
    have HN := Aside0.mk hb
    clear hb
    go_enter Try.func80, Try.ntmps80
    go_wp2
    go_ret
    exact ⟨by rw [decide_eq_true HN.out]; rfl, rfl⟩
def fitV (g : Nat) : Value := .func (.func 80) #[] #[.pointer (some ⟨g, 0, none⟩)]
set_option maxHeartbeats 1000000 in
theorem index_calls (g : Nat) (bn : Int) (A : Option Addr) (n c : Nat) (xs : List (List UInt8)) (w : World) (h : bytesK.C w A n xs) (hg : w.cell? ⟨g, 2, none⟩ = some (.int .i64 bn)) :
    Calls Try.prog 89 #[.slice A n c, .func (.func 80) #[] #[.pointer (some ⟨g, 0, none⟩)]] w fun e w' => ∃ j : Int, e = .returned (.int .i64 j) ∧ ((j = -1 ∧ ∀ x ∈ xs, (x.length : Int) = bn) ∨ (0 ≤ j ∧ ¬ ∀ x ∈ xs, (x.length : Int) = bn)) ∧ w = w' := by
  obtain ⟨hl, hm⟩ := C_len h
  have HL := Aside0.mk hl
  have HC := Aside0.mk h
  have HG := Aside0.mk hg
  clear h hl hg
  go_enter Try.func89, Try.ntmps89
  go_wp2
  go_loopg [5, 8] n (fun g v5 v8 wr => ∃ i : Nat, v8 = .int .i64 (i : Int) ∧ i ≤ n ∧ Aside0 (g + i = n) ∧ Aside0 (∀ x ∈ xs.take i, (x.length : Int) = bn) ∧ w = wr)
  case atStart => exact ⟨0, rfl, by omega, ⟨rfl⟩, ⟨fun x hx => by simp at hx⟩, rfl⟩
  case round =>
    obtain ⟨i, rfl, hi, HK, HS, rfl⟩ := hrel
    by_cases hlt : i < n
    · obtain ⟨pa, A0, c0, rfl, e0, hk0, hC0⟩ := bytes_at HC.out i hlt
      obtain ⟨x, hx⟩ : ∃ x, xs.getD i [] = x := ⟨_, rfl⟩
      rw [hx] at e0 hk0 hC0
      have hil : i < xs.length := by rw [HL.out]; exact hlt
      have hxm : x ∈ xs := by
        rw [← hx, List.getD_eq_getElem?_getD, List.getElem?_eq_getElem hil]
        exact List.getElem_mem _
      have HTK := Aside0.mk (take_one [] hil hx)
      have HXM := Aside0.mk hxm
      have hlt' : (i : Int) < (n : Int) := by omega
      have hd0 : decide ((i : Int) < (n : Int)) = true := decide_eq_true hlt'
      clear hx hC0 hil hxm
      by_cases hxb : (x.length : Int) = bn
      · have HXB := Aside0.mk hxb
        clear hxb
        go_wp2_with fail
        refine (fit1_calls g bn A0 x.length c0 _ HG.out).mono ?_
        rintro e w2 ⟨rfl, rfl⟩
        rw [decide_eq_false (fun h => h HXB.out)]
        go_wp2
        go_roundg (gk - 1)
        case measure => have := HK.out; omega
        case rel =>
          refine ⟨i + 1, by congr 1, by omega, ⟨by have := HK.out; omega⟩, ⟨fun y hy => ?_⟩, rfl⟩
          rw [HTK.out] at hy
          rcases List.mem_append.1 hy with hy | hy
          · exact HS.out y hy
          · rw [List.mem_singleton.1 hy]; exact HXB.out
      · have HXB := Aside0.mk hxb
        clear hxb
        go_wp2_with fail
        refine (fit1_calls g bn A0 x.length c0 _ HG.out).mono ?_
        rintro e w2 ⟨rfl, rfl⟩
        rw [decide_eq_true HXB.out]
        go_wp2
        go_ret
        exact ⟨(i : Int), rfl, .inr ⟨by omega, fun h => HXB.out (h x HXM.out)⟩, rfl⟩
    · obtain rfl : i = n := by omega
      have hd0 : decide ((i : Int) < (i : Int)) = false := decide_eq_false (by omega)
      go_wp2
      go_ret
      have h9 := HS.out
      rw [List.take_of_length_le (by rw [HL.out]; omega)] at h9
      exact ⟨-1, rfl, .inl ⟨rfl, h9⟩, rfl⟩
theorem contains_calls (g : Nat) (bn : Int) (A : Option Addr) (n c : Nat) (xs : List (List UInt8)) (w : World) (h : bytesK.C w A n xs) (hg : w.cell? ⟨g, 2, none⟩ = some (.int .i64 bn)) (b : Bool) (hb : b = decide (¬ ∀ x ∈ xs, (x.length : Int) = bn)) :
    Calls Try.prog 79 #[.slice A n c, .func (.func 80) #[] #[.pointer (some ⟨g, 0, none⟩)]] w fun e w' => e = .returned (.bool b) ∧ w = w' := by
  have HB := Aside0.mk hb
  have HG := Aside0.mk hg
  clear hb hg
  go_enter Try.func79, Try.ntmps79
  go_wp2_with fail
  refine (index_calls g bn A n c xs _ h HG.out).mono ?_
  rintro e w2 ⟨j, rfl, ⟨rfl, h1⟩ | ⟨h0, h1⟩, rfl⟩
  · have hd : decide ((0 : Int) ≤ -1) = false := rfl
    have H1 := Aside0.mk h1
    clear h1
    go_wp2
    go_ret
    exact ⟨by rw [HB.out, decide_eq_false (fun h => h H1.out)]; rfl, rfl⟩
  · have hd : decide ((0 : Int) ≤ j) = true := decide_eq_true h0
    have H1 := Aside0.mk h1
    clear h1
    go_wp2
    go_ret
    exact ⟨by rw [HB.out, decide_eq_true H1.out]; rfl, rfl⟩
/-- May a zone be? -/
def FitZ (zb bn : Int) (p : Zn) : Prop := ((p.1.length : Nat) : Int) ≤ zb ∧ 0 ≤ p.2 ∧ p.2 ≤ ((p.1.length : Nat) : Int) ∧ ∀ x ∈ p.1, (x.length : Int) = bn
instance (zb bn : Int) (p : Zn) : Decidable (FitZ zb bn p) := by unfold FitZ; infer_instance
set_option maxHeartbeats 1000000 in
theorem fits_calls (z zb bn r : Int) (A : Option Addr) (c : Nat) (p : Zn) (w : World) (h : bytesK.C w A p.1.length p.1) :
    Calls Try.prog 66 #[.agg #[.int .i64 z, .int .i64 zb, .int .i64 bn, .int .i64 r], .agg #[.slice A p.1.length c, .int .i64 p.2]] w fun e w' => e = .returned (.bool (decide (FitZ zb bn p))) ∧ Below w.heap.size w w' := by
  have hm := (C_len h).2
  have HA := Aside0.mk (((Below.refl w.heap.size w).alloc (Nat.le_refl _) (.cells #[.int .i64 z, .int .i64 zb, .int .i64 bn, .int .i64 r] 23)).alloc (by simp) (.cells #[.slice A p.1.length c, .int .i64 p.2] 77))
  have HX := Aside0.mk ((Box.new w z zb bn r).below (alloc_below _ (.cells #[.slice A p.1.length c, .int .i64 p.2] 77)))
  have HC := Aside0.mk h
  clear h
  obtain ⟨n, hn⟩ : ∃ n, p.1.length = n := ⟨_, rfl⟩
  obtain ⟨d, hd⟩ : ∃ d, p.2 = d := ⟨_, rfl⟩
  have HN := Aside0.mk hn
  have HD := Aside0.mk hd
  rw [hn] at hm HA HX HC ⊢
  rw [hd] at HA HX ⊢
  clear hn hd
  by_cases h1 : zb < (n : Int)
  · have hd1 : decide (zb < (n : Int)) = true := decide_eq_true h1
    have H1 := Aside0.mk h1
    clear h1
    go_enter Try.func66, Try.ntmps66
    go_wp2
    go_ret
    exact ⟨by rw [decide_eq_false (fun h => by have h1 := h.1; have h2 := H1.out; have h3 := HN.out; omega)]; rfl, HA.out⟩
  have hd1 : decide (zb < (n : Int)) = false := decide_eq_false h1
  have H1 := Aside0.mk h1
  clear h1
  by_cases h2 : d < 0
  · have hd2 : decide (d < 0) = true := decide_eq_true h2
    have H2 := Aside0.mk h2
    clear h2
    go_enter Try.func66, Try.ntmps66
    go_wp2
    go_ret
    exact ⟨by rw [decide_eq_false (fun h => by have h1 := h.2.1; have h2 := H2.out; have h3 := HD.out; omega)]; rfl, HA.out⟩
  have hd2 : decide (d < 0) = false := decide_eq_false h2
  have H2 := Aside0.mk h2
  clear h2
  by_cases h3 : (n : Int) < d
  · have hd3 : decide ((n : Int) < d) = true := decide_eq_true h3
    have H3 := Aside0.mk h3
    clear h3
    go_enter Try.func66, Try.ntmps66
    go_wp2
    go_ret
    exact ⟨by rw [decide_eq_false (fun h => by have h1 := h.2.2.1; have h2 := H3.out; have h3 := HD.out; have h4 := HN.out; omega)]; rfl, HA.out⟩
  have hd3 : decide ((n : Int) < d) = false := decide_eq_false h3
  have H3 := Aside0.mk h3
  clear h3
  go_enter Try.func66, Try.ntmps66
  go_wp2_with fail
  obtain ⟨b, hb⟩ : ∃ b, decide (¬ ∀ x ∈ p.1, (x.length : Int) = bn) = b := ⟨_, rfl⟩
  refine (contains_calls w.heap.size bn A n c p.1 _ (Kd.C_below HC.out HA.out) HX.out.d2 b hb.symm).mono ?_
  rintro e w2 ⟨rfl, rfl⟩
  have HB := Aside0.mk hb
  clear hb
  have he : (!b) = decide (FitZ zb bn p) := by
    rw [← HB.out]
    by_cases h : ∀ x ∈ p.1, (x.length : Int) = bn
    · rw [decide_eq_false (fun hh => hh h), decide_eq_true (show FitZ zb bn p from ⟨by have := H1.out; have := HN.out; omega, by have := H2.out; have := HD.out; omega, by have := H3.out; have := HN.out; have := HD.out; omega, h⟩)]
      rfl
    · rw [decide_eq_true h, decide_eq_false (fun hh => h hh.2.2.2)]
      rfl
  have HE := Aside0.mk he
  clear he
  go_wp2
  go_ret
  exact ⟨by rw [← HE.out]; rfl, HA.out⟩
end Go.Proofs.Ytkmeipblgdahoaa.Dv

/- slices.Grow, slices.Concat of bytes. -/
namespace Go.Proofs.Ytkmeipblgdahoaa.Dv
open Go.RowKit Go.Proofs.YtkmeipblgdahoaaW.PrintWords Go.Proofs.YtkmeipblgdahoaaW.PrintMore Go.Proofs.Ytkmeipblgdahoaa.Base Go.Proofs.Ytkmeipblgdahoaa.Shp
set_option maxRecDepth 100000
set_option linter.unusedVariables false
set_option linter.unusedSimpArgs false
set_option maxHeartbeats 1000000 in
theorem grow_calls (m : Nat) (hm : m ≤ 100000000) (w : World) :
    Calls Try.prog 81 #[.slice none 0 0, .int .i64 (m : Int)] w fun e w' => ∃ v, e = .returned v ∧ Go.Proofs.Ytkmeipblgdahoaa.Base.Own w' w.heap.size v [] ∧ Below w.heap.size w w' := by
  by_cases h0 : 0 < m
  · have hd0 : decide ((m : Int) < 0) = false := decide_eq_false (by omega)
    have hd1 : decide (0 < (m : Int)) = true := decide_eq_true (by omega)
    go_enter Try.func81, Try.ntmps81
    go_wp2_with (at_builtin; (refine Kd.R_append_zeros byte (w0 := w) w.heap.size rfl (.tmp 20) (.tmp 21) 39 3 5 (.int .u8 0) 1 rfl Try.underlying39 Try.underlying3 info_u8 rfl (by decide) (by decide) (.slice none 0 0) [] (0 : UInt8) (m : Int) anyB rfl rfl rfl (fun _ _ => trivial) (Kd.R_nil _ _ _ _ _) (by omega) (Below.refl _ _) (Nat.le_refl _) (by simp; omega) ?_); intro v1 w1 hR hB _ _; obtain ⟨A1, c1, rfl, hc1, -⟩ := Kd.R_reads hR; have HR := Aside0.mk hR; have HB := Aside0.mk hB; clear hR hB)
    go_ret
    exact ⟨_, rfl, Kd.R_take HR.out (Nat.zero_le _), HB.out⟩
  · obtain rfl : m = 0 := by omega
    go_enter Try.func81, Try.ntmps81
    go_wp2
    go_ret
    exact ⟨_, rfl, Go.Proofs.Ytkmeipblgdahoaa.Base.Own.nil _ _, Below.refl _ _⟩
theorem flat_len_take {xss : List (List UInt8)} {i : Nat} (h : i < xss.length) : (xss.take (i + 1)).flatten = (xss.take i).flatten ++ xss.getD i [] := by
  rw [take_one [] h rfl, List.flatten_append]
  simp
theorem flat_le {xss : List (List UInt8)} (i : Nat) : (xss.take i).flatten.length ≤ xss.flatten.length := by
  have h : xss.flatten = (xss.take i).flatten ++ (xss.drop i).flatten := by rw [← List.flatten_append, List.take_append_drop]
  rw [h, List.length_append]
  omega
set_option maxHeartbeats 4000000 in
theorem concat_calls (A : Option Addr) (n c : Nat) (xss : List (List UInt8)) (hf : xss.flatten.length ≤ 100000000) (w : World) (h : bytesK.C w A n xss) :
    Calls Try.prog 67 #[.slice A n c] w fun e w' => ∃ v, e = .returned v ∧ Go.Proofs.Ytkmeipblgdahoaa.Base.Own w' w.heap.size v xss.flatten ∧ Below w.heap.size w w' := by
  obtain ⟨hl, hm⟩ := C_len h
  have HL := Aside0.mk hl
  have HC := Aside0.mk h
  clear h hl
  go_enter Try.func67, Try.ntmps67
  go_wp2
  go_loopg [3, 5, 11] n (fun g v3 v5 v11 wr => ∃ i s : Nat, v11 = .int .i64 (i : Int) ∧ v3 = .int .i64 (s : Int) ∧ i ≤ n ∧ s ≤ 100000000 ∧ Aside0 (g + i = n) ∧ Aside0 (s = (xss.take i).flatten.length) ∧ w = wr)
  case atStart => exact ⟨0, 0, rfl, rfl, by omega, by omega, ⟨rfl⟩, ⟨by simp⟩, rfl⟩
  case round =>
    obtain ⟨i, s, rfl, rfl, hi, hs, HK, HS, rfl⟩ := hrel
    by_cases hlt : i < n
    · obtain ⟨pa, A0, c0, rfl, e0, hk0, hC0⟩ := bytes_at HC.out i hlt
      obtain ⟨x, hx⟩ : ∃ x, xss.getD i [] = x := ⟨_, rfl⟩
      rw [hx] at e0 hk0 hC0
      have hnew : (xss.take (i + 1)).flatten.length = s + x.length := by rw [flat_len_take (by rw [HL.out]; exact hlt), List.length_append, hx, HS.out]
      have hsx : s + x.length ≤ 100000000 := by have := flat_le (xss := xss) (i + 1); omega
      have HN := Aside0.mk hnew
      have hlt' : (i : Int) < (n : Int) := by omega
      have hd0 : decide ((i : Int) < (n : Int)) = true := decide_eq_true hlt'
      have hd1 : decide ((s : Int) + (x.length : Int) < 0) = false := decide_eq_false (by omega)
      clear hx hC0 hnew
      go_wp2
      go_roundg (gk - 1)
      case measure => have := HK.out; omega
      case rel => exact ⟨i + 1, s + x.length, by congr 1, by congr 1, by omega, by omega, ⟨by have := HK.out; omega⟩, ⟨HN.out.symm⟩, rfl⟩
    · obtain rfl : i = n := by omega
      have hd0 : decide ((i : Int) < (i : Int)) = false := decide_eq_false (by omega)
      go_wp2_with fail
      refine (grow_calls s hs _).mono ?_
      rintro e w2 ⟨v2, rfl, hO2, hw2⟩
      have HO2 := Aside0.mk hO2
      have HB2 := Aside0.mk hw2
      clear hO2 hw2
      go_wp2
      go_loopg [6, 8, 27] i (fun g v6 v8 v27 wr => ∃ q : Nat, v27 = .int .i64 (q : Int) ∧ q ≤ i ∧ Aside0 (g + q = i) ∧ Aside0 (Go.Proofs.Ytkmeipblgdahoaa.Base.Own wr w.heap.size v6 (xss.take q).flatten ∧ Below w.heap.size w wr))
      case atStart => exact ⟨0, rfl, by omega, ⟨rfl⟩, ⟨by rw [List.take_zero]; exact HO2.out, HB2.out⟩⟩
      case round =>
        obtain ⟨q, rfl, hq, HK2, HS2⟩ := hrel
        by_cases hql : q < i
        · obtain ⟨pa, A0, c0, rfl, e0, hk0, hC0⟩ := bytes_at (Kd.C_below HC.out HS2.out.2) q hql
          obtain ⟨x, hx⟩ : ∃ x, xss.getD q [] = x := ⟨_, rfl⟩
          rw [hx] at e0 hk0 hC0
          have HTK := Aside0.mk (flat_len_take (xss := xss) (i := q) (by rw [HL.out]; exact hql))
          have hsx : (xss.take q).flatten.length + x.length ≤ 100000000 := by
            have h1 := flat_le (xss := xss) (q + 1)
            rw [HTK.out, List.length_append, hx] at h1
            omega
          have HSX := Aside0.mk hsx
          have HXE := Aside0.mk hx
          have HCX := Aside0.mk hC0
          have hlt' : (q : Int) < (i : Int) := by omega
          have hd0 : decide ((q : Int) < (i : Int)) = true := decide_eq_true hlt'
          clear hx hC0 hsx
          go_wp2_with (at_builtin; (refine app_row (w0 := w) w.heap.size (.tmp 31) (.tmp 32) rfl rfl _ (xss.take q).flatten x A0 x.length c0 rfl rfl HS2.out.1 HCX.out HS2.out.2 HS2.out.2.size (by have := HSX.out; omega) ?_); intro v9 w9 hO9 hB9 _; have HO9 := Aside0.mk hO9; have HB9 := Aside0.mk hB9; clear hO9 hB9)
          go_roundg (gk - 1)
          case measure => have := HK2.out; omega
          case rel => exact ⟨q + 1, by congr 1, by omega, ⟨by have := HK2.out; omega⟩, ⟨by rw [HTK.out, HXE.out]; exact HO9.out, HB9.out⟩⟩
        · obtain rfl : q = i := by omega
          have hd0 : decide ((q : Int) < (q : Int)) = false := decide_eq_false (by omega)
          go_wp2
          go_ret
          have h9 := HS2.out
          rw [List.take_of_length_le (by rw [HL.out]; omega)] at h9
          exact ⟨_, rfl, h9.1, h9.2⟩
end Go.Proofs.Ytkmeipblgdahoaa.Dv

/- zone.Open of zones that may be. -/
namespace Go.Proofs.Ytkmeipblgdahoaa.Dv
open Go.RowKit Go.Proofs.YtkmeipblgdahoaaW.PrintWords Go.Proofs.YtkmeipblgdahoaaW.PrintMore Go.Proofs.Ytkmeipblgdahoaa.Base Go.Proofs.Ytkmeipblgdahoaa.Shp
set_option maxRecDepth 100000
set_option linter.unusedVariables false
set_option linter.unusedSimpArgs false
def putF (zs : List Zn) (i : Nat) (_ : Prt) : Prt := flat (zs.getD i ([], 0))
theorem put_all {zs : List Zn} {n : Nat} (h : zs.length = n) : (List.replicate n (([], 0) : Prt)).mapIdx (putF zs) = zs.map flat := by
  apply List.ext_getElem?
  intro i
  rw [List.getElem?_mapIdx, List.getElem?_map, List.getElem?_replicate]
  by_cases hi : i < n
  · rw [if_pos hi, List.getElem?_eq_getElem (by omega)]
    show some (putF zs i ([], 0)) = some (flat _)
    unfold putF
    rw [List.getD_eq_getElem?_getD, List.getElem?_eq_getElem (by omega)]
    rfl
  · rw [if_neg hi, List.getElem?_eq_none (by omega)]
    rfl
set_option maxRecDepth 100000 in
set_option maxHeartbeats 4000000 in
theorem open_calls (zn zbn bn : Nat) (r : Int) (hrt : Rt zn zbn bn r) (hI : IsI zn ∧ IsI zbn ∧ IsI bn ∧ IsI r) (hzb2 : zbn ≤ 4096) (hb1 : 64 ≤ bn) (hb2 : bn ≤ 4096) (A : Option Addr) (n c : Nat) (zs : List Zn) (hinv : ZInv bn zbn zs) (hlz : zs.length = zn) (w : World) (hC : zoneK.C w A n zs) :
    Calls Try.prog 34 #[.agg #[.int .i64 (zn : Int), .int .i64 (zbn : Int), .int .i64 (bn : Int), .int .i64 r], .slice A n c] w
      fun e w' => ∃ xb v, e = .returned (.pointer (some ⟨xb, 0, none⟩)) ∧ Dev w' xb w.heap.size (fun k => w.heap.size ≤ k) zn zbn bn r (zs.map flat) v ∧ w.heap.size ≤ xb ∧ Below w.heap.size w w' := by
  obtain ⟨hl, hm⟩ := C_len hC
  obtain rfl : n = zn := by omega
  have HL := Aside0.mk hl
  have HC := Aside0.mk hC
  have HINV := Aside0.mk hinv
  have HRT := Aside0.mk hrt
  have HII := Aside0.mk hI
  have HA := Aside0.mk (alloc_below w (.cells #[.int .i64 (n : Int), .int .i64 (zbn : Int), .int .i64 (bn : Int), .int .i64 r] 23))
  have HX := Aside0.mk (Box.new w n zbn bn r)
  obtain ⟨d0, d1, d2, d3⟩ := HX.out
  clear hl hlz hC hinv hrt hI
  go_enter Try.func34, Try.ntmps34
  go_wp2_with fail
  obtain ⟨W, hW⟩ : ∃ W, (w.alloc (.cells #[.int .i64 (n : Int), .int .i64 (zbn : Int), .int .i64 (bn : Int), .int .i64 r] 23)) = W := ⟨_, rfl⟩
  obtain ⟨g, hg⟩ : ∃ g, w.heap.size = g := ⟨_, rfl⟩
  rw [hW] at HX HA ⊢
  rw [hg] at HX ⊢
  have HG := Aside0.mk hg
  clear hW hg d0 d1 d2 d3
  refine (new_calls (n : Int) (zbn : Int) (bn : Int) r HII.out.1 HII.out.2.1 HII.out.2.2.1 HII.out.2.2.2 _).mono ?_
  rintro e w1 ⟨⟨hn, _⟩ | ⟨_, xb, v, rfl, hD, hxb⟩, hw1⟩
  · exact absurd HRT.out hn
  obtain ⟨A1, m, cp, rfl, hm1, hmc, -, hmm⟩ := hD.form
  have hgB : g < W.heap.size := World.block_lt_of_cell? _ _ HX.out.d0
  have HD := Aside0.mk hD
  have HXB := Aside0.mk hxb
  have HB1 := Aside0.mk (below_go HA.out hw1)
  have HX1 := Aside0.mk (HX.out.below hw1)
  have HWB := Aside0.mk (show w.heap.size ≤ W.heap.size from HA.out.size)
  have HGB := Aside0.mk hgB
  obtain rfl : m = n := by rw [hm1, List.length_replicate]; omega
  obtain ⟨d0, d1, d2, d3⟩ := HX1.out
  clear hm1 hD hxb hw1 hgB
  go_wp2
  clear d0 d1 d2 d3
  go_loopg [6, 7, 21] m (fun gk v6 v7 v21 wr => ∃ i : Nat, v21 = .int .i64 (i : Int) ∧ i ≤ m ∧ Aside0 (gk + i = m) ∧ Aside0 (Dev wr xb W.heap.size (fun k => W.heap.size ≤ k) m zbn bn r (upto (putF zs) i (List.replicate m ([], 0))) (.slice A1 m cp) ∧ Below w.heap.size w wr ∧ Below W.heap.size w1 wr))
  case atStart => exact ⟨0, rfl, by omega, ⟨rfl⟩, ⟨by rw [upto_zero]; exact HD.out, HB1.out, (Below.refl _ _)⟩⟩
  case round =>
    obtain ⟨i, rfl, hi, HK, HS⟩ := hrel
    rename World => wr
    obtain ⟨d0, d1, d2, d3⟩ := HX1.out.belowB HS.out.2.2 HGB.out
    by_cases hlt : i < m
    · obtain ⟨p, hp⟩ : ∃ p, zs.getD i ([], 0) = p := ⟨_, rfl⟩
      obtain ⟨pa, B0, k0, rfl, e0, e1, hk0, hB, hIp⟩ := zones_at (Kd.C_below HC.out HS.out.2.1) i hlt hp
      have hfit : FitZ (zbn : Int) (bn : Int) p := by
        have h9 := HINV.out.get (i := i) (by rw [HL.out]; exact hlt)
        rw [hp] at h9
        exact ⟨by have := h9.2.1; omega, h9.1.1, h9.1.2, fun x hx => by have := h9.2.2 x hx; omega⟩
      have hfl : p.1.flatten.length ≤ 100000000 := by
        have h9 := HINV.out.get (i := i) (by rw [HL.out]; exact hlt)
        rw [hp] at h9
        rw [flat_len h9.2.2]
        have : p.1.length * bn ≤ 4096 * 4096 := Nat.mul_le_mul (by have := h9.2.1; omega) hb2
        omega
      have HFIT := Aside0.mk hfit
      have HP := Aside0.mk hp
      have HIP := Aside0.mk hIp
      have HBY := Aside0.mk hB
      have hlt' : (i : Int) < (m : Int) := by omega
      have hd9 : decide ((i : Int) < (m : Int)) = true := decide_eq_true hlt'
      have HAZ := Aside0.mk (alloc_below wr (.cells #[.slice B0 p.1.length k0, .int .i64 p.2] 77))
      have HZ0 := Aside0.mk (show (wr.alloc (.cells #[.slice B0 p.1.length k0, .int .i64 p.2] 77)).heap[wr.heap.size]? = some (.cells #[.slice B0 p.1.length k0, .int .i64 p.2] 77 (0, 0)) from blk_here rfl)
      clear hfit hp hIp hB hk0
      have d0 := pw_cell_below HAZ.out d0
      have d1 := pw_cell_below HAZ.out d1
      have d2 := pw_cell_below HAZ.out d2
      have d3 := pw_cell_below HAZ.out d3
      go_wp2_with fail
      obtain ⟨V, hV⟩ : ∃ V, wr.alloc (.cells #[.slice B0 p.1.length k0, .int .i64 p.2] 77) = V := ⟨_, rfl⟩
      obtain ⟨gz, hgz⟩ : ∃ gz, wr.heap.size = gz := ⟨_, rfl⟩
      rw [hV] at HAZ HZ0 d0 d1 d2 d3 ⊢
      rw [hgz] at HZ0 ⊢
      clear hV hgz
      refine (fits_calls (m : Int) (zbn : Int) (bn : Int) r B0 k0 p _ (Kd.C_below HBY.out HAZ.out)).mono ?_
      rintro e w3 ⟨rfl, hw3⟩
      rw [decide_eq_true HFIT.out]
      have hbz : Below wr.heap.size wr w3 := below_go HAZ.out hw3
      have hz3 : w3.heap[gz]? = some (.cells #[.slice B0 p.1.length k0, .int .i64 p.2] 77 (0, 0)) := (hw3.block gz (Array.getElem?_eq_some_iff.1 HZ0.out).1).trans HZ0.out
      obtain ⟨z0, z1⟩ : w3.cell? ⟨gz, 0, none⟩ = some (.slice B0 p.1.length k0) ∧ w3.cell? ⟨gz, 1, none⟩ = some (.int .i64 p.2) := ⟨by simp [World.cell?, hz3], by simp [World.cell?, hz3]⟩
      have HD3 := Aside0.mk (HS.out.1.below hbz)
      have HB3 := Aside0.mk hbz
      have HBY3 := Aside0.mk (Kd.C_below HBY.out hbz)
      obtain ⟨-, -, -, -, k4⟩ := HD3.out.cells
      obtain ⟨q, hq⟩ : ∃ q, (upto (putF zs) i (List.replicate m ([], 0))).getD i ([], 0) = q := ⟨_, rfl⟩
      obtain ⟨ad, cp', BB, kk, oki, hv, c0, c1, hkk, hI, hBB, f0, f1, hoa, hax, hal, -, -, -, -⟩ := HD3.out.part (j := i) (by rw [upto_len, List.length_replicate]; exact hlt) hq
      obtain ⟨rfl, rfl⟩ : A1 = some ad ∧ cp = cp' := by simp only [Value.slice.injEq] at hv; exact ⟨hv.1, hv.2.2⟩
      have hab : (ad.add (i * 2)).block = ad.block := add_block _ _
      have HAB := Aside0.mk hab
      have HAL := Aside0.mk hal
      have HOA := Aside0.mk hoa
      have hn1 : ad.add (i * 2) ≠ ⟨(ad.add (i * 2)).block, (ad.add (i * 2)).off + 1, none⟩ := fun e => by have := congrArg Addr.off e; simp at this
      have hn2 := hn1.symm
      clear hbz hz3 hq hv hI hBB hab hoa hax hal hkk hw3 d0 d1 d2 d3 e0 e1
      go_wp2
      go_region_with (go_at_call 67; go_loud (refine (concat_calls B0 p.1.length k0 p.1 hfl _ (Kd.C_below HBY3.out (below_drew (Below.refl _ _)))).mono ?_; rintro e w8 ⟨v8, rfl, hO8, hw8⟩; obtain ⟨A8, n8, c8, rfl, -, -⟩ := Go.Proofs.Ytkmeipblgdahoaa.Base.Own.reads hO8); go_loud (have k4 := pw_cell_below (w := w3.drew) hw8 k4; have z0 := pw_cell_below (w := w3.drew) hw8 z0; have z1 := pw_cell_below (w := w3.drew) hw8 z1; have c0 := pw_cell_below (w := w3.drew) hw8 c0; have c1 := pw_cell_below (w := w3.drew) hw8 c1; have f0 := pw_frozen_below (w := w3.drew) (p := ad.add (i * 2)) hw8 (by show (ad.add (i * 2)).block < _; rw [HAB.out]; exact HAL.out) f0; have f1 := pw_frozen_below (w := w3.drew) (p := ⟨(ad.add (i * 2)).block, (ad.add (i * 2)).off + 1, none⟩) hw8 (by show (ad.add (i * 2)).block < _; rw [HAB.out]; exact HAL.out) f1))
      all_goals
        have HO8 := Aside0.mk hO8
        have HW8 := Aside0.mk hw8
        clear k4 z0 z1 c0 c1 f0 f1 hO8 hw8 hn1 hn2
        go_wp2
        go_roundg (gk - 1)
        case measure => have := HK.out; omega
        case rel =>
          have hsz := HB3.out.size
          have hws := HWB.out
          have hwr := HS.out.2.2.size
          have hww : W.heap.size ≤ w1.heap.size := by have := (Array.getElem?_eq_some_iff.1 HD.out.blk).1; have := HXB.out; omega
          have hb8 : Below W.heap.size w1 w8 := HS.out.2.2.trans ((below_go HB3.out (Below.trans (below_drew (Below.refl _ _)) HW8.out)).mono (by omega))
          have hc8 : Below w.heap.size w w8 := HS.out.2.1.trans ((below_go HB3.out (Below.trans (below_drew (Below.refl _ _)) HW8.out)).mono (by omega))
          have hob : W.heap.size ≤ (ad.add (i * 2)).block := by rw [HAB.out]; exact HOA.out
          refine ⟨i + 1, by congr 1, by omega, ⟨by have := HK.out; omega⟩, ⟨?_, Below.setCell (Below.setCell hc8 (p := ad.add (i * 2)) (by omega) _) (p := ⟨(ad.add (i * 2)).block, (ad.add (i * 2)).off + 1, none⟩) (by show _ ≤ (ad.add (i * 2)).block; omega) _, Below.setCell (Below.setCell hb8 (p := ad.add (i * 2)) hob _) (p := ⟨(ad.add (i * 2)).block, (ad.add (i * 2)).off + 1, none⟩) hob _⟩⟩
          have h9 := (HD3.out.below (below_drew (Below.refl _ _))).put (j := i) (by rw [upto_len, List.length_replicate]; exact hlt) HW8.out HO8.out (fun k hk => by have h5 : w3.drew.heap.size = w3.heap.size := rfl; omega) (d := p.2) HIP.out
          rw [show ((p.1.flatten, p.2) : Prt) = putF zs i ((List.replicate m (([], 0) : Prt)).getD i ([], 0)) by unfold putF; rw [HP.out]; rfl, upto_set _ (by rw [List.length_replicate]; exact hlt)] at h9
          exact h9
    · obtain rfl : i = m := by omega
      have hd9 : decide ((i : Int) < (i : Int)) = false := decide_eq_false (by omega)
      go_wp2
      go_ret
      have h9 := HS.out.1
      rw [show upto (putF zs) i (List.replicate i ([], 0)) = (List.replicate i ([], 0)).mapIdx (putF zs) from by have := upto_all (putF zs) (List.replicate i ([], 0)); rwa [List.length_replicate] at this, put_all HL.out] at h9
      refine ⟨xb, _, rfl, ⟨h9.blk, Kd.S_lower (Kd.S_mono h9.row (fun k hk => Nat.le_trans HWB.out hk)) HWB.out⟩, Nat.le_trans HWB.out HXB.out, HS.out.2.1⟩
end Go.Proofs.Ytkmeipblgdahoaa.Dv

/- zone.Open of any zones, as many as the shape says. -/
namespace Go.Proofs.Ytkmeipblgdahoaa.Dv
open Go.RowKit Go.Proofs.YtkmeipblgdahoaaW.PrintWords Go.Proofs.YtkmeipblgdahoaaW.PrintMore Go.Proofs.Ytkmeipblgdahoaa.Base Go.Proofs.Ytkmeipblgdahoaa.Shp
set_option maxRecDepth 100000
set_option linter.unusedVariables false
set_option linter.unusedSimpArgs false
set_option maxRecDepth 100000 in
set_option maxHeartbeats 4000000 in
theorem open_gen (zn zbn bn : Nat) (r : Int) (hrt : Rt zn zbn bn r) (hI : IsI zn ∧ IsI zbn ∧ IsI bn ∧ IsI r) (hzb2 : zbn ≤ 4096) (hb1 : 64 ≤ bn) (hb2 : bn ≤ 4096) (A : Option Addr) (n c : Nat) (zs : List Zn) (hlz : zs.length = zn) (w : World) (hC : zoneK.C w A n zs) :
    Calls Try.prog 34 #[.agg #[.int .i64 (zn : Int), .int .i64 (zbn : Int), .int .i64 (bn : Int), .int .i64 r], .slice A n c] w
      fun e w' => (((∀ p ∈ zs, FitZ zbn bn p) ∧ ∃ xb v, e = .returned (.pointer (some ⟨xb, 0, none⟩)) ∧ Dev w' xb w.heap.size (fun k => w.heap.size ≤ k) zn zbn bn r (zs.map flat) v ∧ w.heap.size ≤ xb) ∨ ((¬ ∀ p ∈ zs, FitZ zbn bn p) ∧ e = .returned (.pointer none))) ∧ Below w.heap.size w w' := by
  obtain ⟨hl, hm⟩ := C_len hC
  obtain rfl : n = zn := by omega
  have HL := Aside0.mk hl
  have HC := Aside0.mk hC
  have HRT := Aside0.mk hrt
  have HII := Aside0.mk hI
  have HA := Aside0.mk (alloc_below w (.cells #[.int .i64 (n : Int), .int .i64 (zbn : Int), .int .i64 (bn : Int), .int .i64 r] 23))
  have HX := Aside0.mk (Box.new w n zbn bn r)
  obtain ⟨d0, d1, d2, d3⟩ := HX.out
  clear hl hlz hC hrt hI
  go_enter Try.func34, Try.ntmps34
  go_wp2_with fail
  obtain ⟨W, hW⟩ : ∃ W, (w.alloc (.cells #[.int .i64 (n : Int), .int .i64 (zbn : Int), .int .i64 (bn : Int), .int .i64 r] 23)) = W := ⟨_, rfl⟩
  obtain ⟨g, hg⟩ : ∃ g, w.heap.size = g := ⟨_, rfl⟩
  rw [hW] at HX HA ⊢
  rw [hg] at HX ⊢
  have HG := Aside0.mk hg
  clear hW hg d0 d1 d2 d3
  refine (new_calls (n : Int) (zbn : Int) (bn : Int) r HII.out.1 HII.out.2.1 HII.out.2.2.1 HII.out.2.2.2 _).mono ?_
  rintro e w1 ⟨⟨hn, _⟩ | ⟨_, xb, v, rfl, hD, hxb⟩, hw1⟩
  · exact absurd HRT.out hn
  obtain ⟨A1, m, cp, rfl, hm1, hmc, -, hmm⟩ := hD.form
  have hgB : g < W.heap.size := World.block_lt_of_cell? _ _ HX.out.d0
  have HD := Aside0.mk hD
  have HXB := Aside0.mk hxb
  have HB1 := Aside0.mk (below_go HA.out hw1)
  have HX1 := Aside0.mk (HX.out.below hw1)
  have HWB := Aside0.mk (show w.heap.size ≤ W.heap.size from HA.out.size)
  have HGB := Aside0.mk hgB
  obtain rfl : m = n := by rw [hm1, List.length_replicate]; omega
  obtain ⟨d0, d1, d2, d3⟩ := HX1.out
  clear hm1 hD hxb hw1 hgB
  go_wp2
  clear d0 d1 d2 d3
  go_loopg [6, 7, 21] m (fun gk v6 v7 v21 wr => ∃ i : Nat, v21 = .int .i64 (i : Int) ∧ i ≤ m ∧ Aside0 (gk + i = m) ∧ Aside0 (Dev wr xb W.heap.size (fun k => W.heap.size ≤ k) m zbn bn r (upto (putF zs) i (List.replicate m ([], 0))) (.slice A1 m cp) ∧ Below w.heap.size w wr ∧ Below W.heap.size w1 wr ∧ ∀ p ∈ zs.take i, FitZ zbn bn p))
  case atStart => exact ⟨0, rfl, by omega, ⟨rfl⟩, ⟨by rw [upto_zero]; exact HD.out, HB1.out, (Below.refl _ _), fun p hp => by simp at hp⟩⟩
  case round =>
    obtain ⟨i, rfl, hi, HK, HS⟩ := hrel
    rename World => wr
    obtain ⟨d0, d1, d2, d3⟩ := HX1.out.belowB HS.out.2.2.1 HGB.out
    by_cases hlt : i < m
    · obtain ⟨p, hp⟩ : ∃ p, zs.getD i ([], 0) = p := ⟨_, rfl⟩
      obtain ⟨pa, B0, k0, rfl, e0, e1, hk0, hB, hIp⟩ := zones_at (Kd.C_below HC.out HS.out.2.1) i hlt hp
      have hil : i < zs.length := by rw [HL.out]; exact hlt
      have HTK := Aside0.mk (take_one ([], 0) hil hp)
      have HPM := Aside0.mk (show p ∈ zs by rw [← hp, List.getD_eq_getElem?_getD, List.getElem?_eq_getElem hil]; exact List.getElem_mem _)
      clear hil
      have HP := Aside0.mk hp
      have HIP := Aside0.mk hIp
      have HBY := Aside0.mk hB
      have hlt' : (i : Int) < (m : Int) := by omega
      have hd9 : decide ((i : Int) < (m : Int)) = true := decide_eq_true hlt'
      have HAZ := Aside0.mk (alloc_below wr (.cells #[.slice B0 p.1.length k0, .int .i64 p.2] 77))
      have HZ0 := Aside0.mk (show (wr.alloc (.cells #[.slice B0 p.1.length k0, .int .i64 p.2] 77)).heap[wr.heap.size]? = some (.cells #[.slice B0 p.1.length k0, .int .i64 p.2] 77 (0, 0)) from blk_here rfl)
      clear hp hIp hB hk0
      have d0 := pw_cell_below HAZ.out d0
      have d1 := pw_cell_below HAZ.out d1
      have d2 := pw_cell_below HAZ.out d2
      have d3 := pw_cell_below HAZ.out d3
      go_wp2_with fail
      obtain ⟨V, hV⟩ : ∃ V, wr.alloc (.cells #[.slice B0 p.1.length k0, .int .i64 p.2] 77) = V := ⟨_, rfl⟩
      obtain ⟨gz, hgz⟩ : ∃ gz, wr.heap.size = gz := ⟨_, rfl⟩
      rw [hV] at HAZ HZ0 d0 d1 d2 d3 ⊢
      rw [hgz] at HZ0 ⊢
      clear hV hgz
      refine (fits_calls (m : Int) (zbn : Int) (bn : Int) r B0 k0 p _ (Kd.C_below HBY.out HAZ.out)).mono ?_
      rintro e w3 ⟨rfl, hw3⟩
      by_cases hfit : FitZ (zbn : Int) (bn : Int) p
      case neg =>
        rw [decide_eq_false hfit]
        have HNF := Aside0.mk hfit
        have HB3 := Aside0.mk (HS.out.2.1.trans ((below_go HAZ.out hw3).mono HS.out.2.1.size))
        clear hfit hw3 d0 d1 d2 d3
        go_wp2
        go_ret
        exact ⟨.inr ⟨fun h => HNF.out (h p HPM.out), rfl⟩, HB3.out⟩
      rw [decide_eq_true hfit]
      have HFIT := Aside0.mk hfit
      have hfl : p.1.flatten.length ≤ 100000000 := by
        rw [flat_len (b := bn) (fun x hx => by have := hfit.2.2.2 x hx; omega)]
        have : p.1.length * bn ≤ 4096 * 4096 := Nat.mul_le_mul (by have := hfit.1; omega) hb2
        omega
      clear hfit
      have hbz : Below wr.heap.size wr w3 := below_go HAZ.out hw3
      have hz3 : w3.heap[gz]? = some (.cells #[.slice B0 p.1.length k0, .int .i64 p.2] 77 (0, 0)) := (hw3.block gz (Array.getElem?_eq_some_iff.1 HZ0.out).1).trans HZ0.out
      obtain ⟨z0, z1⟩ : w3.cell? ⟨gz, 0, none⟩ = some (.slice B0 p.1.length k0) ∧ w3.cell? ⟨gz, 1, none⟩ = some (.int .i64 p.2) := ⟨by simp [World.cell?, hz3], by simp [World.cell?, hz3]⟩
      have HD3 := Aside0.mk (HS.out.1.below hbz)
      have HB3 := Aside0.mk hbz
      have HBY3 := Aside0.mk (Kd.C_below HBY.out hbz)
      obtain ⟨-, -, -, -, k4⟩ := HD3.out.cells
      obtain ⟨q, hq⟩ : ∃ q, (upto (putF zs) i (List.replicate m ([], 0))).getD i ([], 0) = q := ⟨_, rfl⟩
      obtain ⟨ad, cp', BB, kk, oki, hv, c0, c1, hkk, hI, hBB, f0, f1, hoa, hax, hal, -, -, -, -⟩ := HD3.out.part (j := i) (by rw [upto_len, List.length_replicate]; exact hlt) hq
      obtain ⟨rfl, rfl⟩ : A1 = some ad ∧ cp = cp' := by simp only [Value.slice.injEq] at hv; exact ⟨hv.1, hv.2.2⟩
      have hab : (ad.add (i * 2)).block = ad.block := add_block _ _
      have HAB := Aside0.mk hab
      have HAL := Aside0.mk hal
      have HOA := Aside0.mk hoa
      have hn1 : ad.add (i * 2) ≠ ⟨(ad.add (i * 2)).block, (ad.add (i * 2)).off + 1, none⟩ := fun e => by have := congrArg Addr.off e; simp at this
      have hn2 := hn1.symm
      clear hbz hz3 hq hv hI hBB hab hoa hax hal hkk hw3 d0 d1 d2 d3 e0 e1
      go_wp2
      go_region_with (go_at_call 67; go_loud (refine (concat_calls B0 p.1.length k0 p.1 hfl _ (Kd.C_below HBY3.out (below_drew (Below.refl _ _)))).mono ?_; rintro e w8 ⟨v8, rfl, hO8, hw8⟩; obtain ⟨A8, n8, c8, rfl, -, -⟩ := Go.Proofs.Ytkmeipblgdahoaa.Base.Own.reads hO8); go_loud (have k4 := pw_cell_below (w := w3.drew) hw8 k4; have z0 := pw_cell_below (w := w3.drew) hw8 z0; have z1 := pw_cell_below (w := w3.drew) hw8 z1; have c0 := pw_cell_below (w := w3.drew) hw8 c0; have c1 := pw_cell_below (w := w3.drew) hw8 c1; have f0 := pw_frozen_below (w := w3.drew) (p := ad.add (i * 2)) hw8 (by show (ad.add (i * 2)).block < _; rw [HAB.out]; exact HAL.out) f0; have f1 := pw_frozen_below (w := w3.drew) (p := ⟨(ad.add (i * 2)).block, (ad.add (i * 2)).off + 1, none⟩) hw8 (by show (ad.add (i * 2)).block < _; rw [HAB.out]; exact HAL.out) f1))
      all_goals
        have HO8 := Aside0.mk hO8
        have HW8 := Aside0.mk hw8
        clear k4 z0 z1 c0 c1 f0 f1 hO8 hw8 hn1 hn2
        go_wp2
        go_roundg (gk - 1)
        case measure => have := HK.out; omega
        case rel =>
          have hsz := HB3.out.size
          have hws := HWB.out
          have hwr := HS.out.2.2.1.size
          have hww : W.heap.size ≤ w1.heap.size := by have := (Array.getElem?_eq_some_iff.1 HD.out.blk).1; have := HXB.out; omega
          have hb8 : Below W.heap.size w1 w8 := HS.out.2.2.1.trans ((below_go HB3.out (Below.trans (below_drew (Below.refl _ _)) HW8.out)).mono (by omega))
          have hc8 : Below w.heap.size w w8 := HS.out.2.1.trans ((below_go HB3.out (Below.trans (below_drew (Below.refl _ _)) HW8.out)).mono (by omega))
          have hob : W.heap.size ≤ (ad.add (i * 2)).block := by rw [HAB.out]; exact HOA.out
          refine ⟨i + 1, by congr 1, by omega, ⟨by have := HK.out; omega⟩, ⟨?_, Below.setCell (Below.setCell hc8 (p := ad.add (i * 2)) (by omega) _) (p := ⟨(ad.add (i * 2)).block, (ad.add (i * 2)).off + 1, none⟩) (by show _ ≤ (ad.add (i * 2)).block; omega) _, Below.setCell (Below.setCell hb8 (p := ad.add (i * 2)) hob _) (p := ⟨(ad.add (i * 2)).block, (ad.add (i * 2)).off + 1, none⟩) hob _, fun y hy => by
            rw [HTK.out] at hy
            rcases List.mem_append.1 hy with hy | hy
            · exact HS.out.2.2.2 y hy
            · rw [List.mem_singleton.1 hy]; exact HFIT.out⟩⟩
          have h9 := (HD3.out.below (below_drew (Below.refl _ _))).put (j := i) (by rw [upto_len, List.length_replicate]; exact hlt) HW8.out HO8.out (fun k hk => by have h5 : w3.drew.heap.size = w3.heap.size := rfl; omega) (d := p.2) HIP.out
          rw [show ((p.1.flatten, p.2) : Prt) = putF zs i ((List.replicate m (([], 0) : Prt)).getD i ([], 0)) by unfold putF; rw [HP.out]; rfl, upto_set _ (by rw [List.length_replicate]; exact hlt)] at h9
          exact h9
    · obtain rfl : i = m := by omega
      have hd9 : decide ((i : Int) < (i : Int)) = false := decide_eq_false (by omega)
      go_wp2
      go_ret
      have h9 := HS.out.1
      rw [show upto (putF zs) i (List.replicate i ([], 0)) = (List.replicate i ([], 0)).mapIdx (putF zs) from by have := upto_all (putF zs) (List.replicate i ([], 0)); rwa [List.length_replicate] at this, put_all HL.out] at h9
      have h8 := HS.out.2.2.2
      rw [List.take_of_length_le (by rw [HL.out]; omega)] at h8
      exact ⟨.inl ⟨h8, xb, _, rfl, ⟨h9.blk, Kd.S_lower (Kd.S_mono h9.row (fun k hk => Nat.le_trans HWB.out hk)) HWB.out⟩, Nat.le_trans HWB.out HXB.out⟩, HS.out.2.1⟩
end Go.Proofs.Ytkmeipblgdahoaa.Dv

/- The document's Open of any zones, as many as the shape says. -/
namespace Go.Proofs.Ytkmeipblgdahoaa.Dv
open Go.RowKit Go.Proofs.YtkmeipblgdahoaaW.PrintWords Go.Proofs.YtkmeipblgdahoaaW.PrintMore Go.Proofs.Ytkmeipblgdahoaa.Base Go.Proofs.Ytkmeipblgdahoaa.Shp
set_option maxRecDepth 100000
set_option linter.unusedVariables false
set_option linter.unusedSimpArgs false
set_option maxRecDepth 100000 in
set_option maxHeartbeats 4000000 in
theorem ropen_gen (zn zbn bn : Nat) (r : Int) (hrt : Rt zn zbn bn r) (hI : IsI zn ∧ IsI zbn ∧ IsI bn ∧ IsI r) (hz2 : zn ≤ 256) (hzb2 : zbn ≤ 4096) (hb1 : 64 ≤ bn) (hb2 : bn ≤ 4096) (A : Option Addr) (n c : Nat) (zs : List Zn) (hlz : zs.length = zn) (w : World) (hC : zoneK.C w A n zs) :
    Calls Try.prog 56 #[.agg #[.int .i64 (zn : Int), .int .i64 (zbn : Int), .int .i64 (bn : Int), .int .i64 r], .slice A n c] w
      fun e w' => (((∀ p ∈ zs, FitZ zbn bn p) ∧ ∃ rb v, e = .returned (.pointer (some ⟨rb, 0, none⟩)) ∧ RDv w' rb w.heap.size (fun k => w.heap.size ≤ k) zn zbn bn r zs v ∧ w.heap.size ≤ rb) ∨ ((¬ ∀ p ∈ zs, FitZ zbn bn p) ∧ e = .returned (.pointer none))) ∧ Below w.heap.size w w' := by
  obtain ⟨hl, hm⟩ := C_len hC
  obtain rfl : n = zn := by omega
  have HL := Aside0.mk hl
  have HC := Aside0.mk hC
  have HRT := Aside0.mk hrt
  have HII := Aside0.mk hI
  have HA := Aside0.mk (alloc_below w (.cells #[.int .i64 (n : Int), .int .i64 (zbn : Int), .int .i64 (bn : Int), .int .i64 r] 23))
  have HX := Aside0.mk (Box.new w n zbn bn r)
  obtain ⟨d0, d1, d2, d3⟩ := HX.out
  clear hl hlz hC hrt hI
  go_enter Try.func56, Try.ntmps56
  go_wp2_with fail
  obtain ⟨W, hW⟩ : ∃ W, (w.alloc (.cells #[.int .i64 (n : Int), .int .i64 (zbn : Int), .int .i64 (bn : Int), .int .i64 r] 23)) = W := ⟨_, rfl⟩
  obtain ⟨g, hg⟩ : ∃ g, w.heap.size = g := ⟨_, rfl⟩
  rw [hW] at HX HA ⊢
  rw [hg] at HX ⊢
  have HG := Aside0.mk hg
  clear hW hg d0 d1 d2 d3
  refine (ref_right_calls (n : Int) (zbn : Int) (bn : Int) r HII.out.1 HII.out.2.1 HII.out.2.2.1 HII.out.2.2.2 _).mono ?_
  rintro e w1 ⟨rfl, hw1⟩
  rw [decide_eq_true HRT.out]
  have HX1 := Aside0.mk (HX.out.below hw1)
  have HB1 := Aside0.mk (below_go HA.out hw1)
  have hgB : g < w1.heap.size := World.block_lt_of_cell? _ _ HX1.out.d0
  have HGB := Aside0.mk hgB
  obtain ⟨d0, d1, d2, d3⟩ := HX1.out
  clear hw1 hgB
  go_wp2
  clear d0 d1 d2 d3
  go_loopg [6, 7, 8] n (fun gk v6 v7 v8 wr => ∃ i : Nat, v6 = .int .i64 (i : Int) ∧ i ≤ n ∧ Aside0 (gk + i = n) ∧ Aside0 (Below w1.heap.size w1 wr ∧ ∀ p ∈ zs.take i, FitZ zbn bn p))
  case atStart => exact ⟨0, rfl, by omega, ⟨rfl⟩, ⟨Below.refl _ _, fun p hp => by simp at hp⟩⟩
  case round =>
    obtain ⟨i, rfl, hi, HK, HS⟩ := hrel
    obtain ⟨g1, rfl⟩ : ∃ g1 : Nat, g1 = gk := ⟨_, rfl⟩
    rename World => wr
    obtain ⟨d0, d1, d2, d3⟩ := HX1.out.below HS.out.1
    have HBR := Aside0.mk (HB1.out.trans (HS.out.1.mono HB1.out.size))
    by_cases hlt : i < n
    · obtain ⟨p, hp⟩ : ∃ p, zs.getD i ([], 0) = p := ⟨_, rfl⟩
      obtain ⟨pa, B0, k0, rfl, e0, e1, hk0, hB, hIp⟩ := zones_at (Kd.C_below HC.out HBR.out) i hlt hp
      have hpm := (C_len hB).2
      have hil : i < zs.length := by rw [HL.out]; exact hlt
      have HTK := Aside0.mk (take_one ([], 0) hil hp)
      have HPM := Aside0.mk (show p ∈ zs by rw [← hp, List.getD_eq_getElem?_getD, List.getElem?_eq_getElem hil]; exact List.getElem_mem _)
      have HBY := Aside0.mk hB
      have hlt' : (i : Int) < (n : Int) := by omega
      have hd9 : decide ((i : Int) < (n : Int)) = true := decide_eq_true hlt'
      clear hil hp hIp hB hk0
      by_cases h1 : zbn < p.1.length
      · have hd1 : decide (zbn < p.1.length) = true := decide_eq_true h1
        have H1 := Aside0.mk h1
        clear h1
        go_wp2
        go_ret
        exact ⟨.inr ⟨fun h => by have h2 := (h p HPM.out).1; have := H1.out; omega, rfl⟩, HBR.out⟩
      have hd1 : decide (zbn < p.1.length) = false := decide_eq_false h1
      by_cases h2 : p.2 < 0
      · have hd2 : decide (p.2 < 0) = true := decide_eq_true h2
        have H2 := Aside0.mk h2
        clear h2 h1
        go_wp2
        go_ret
        exact ⟨.inr ⟨fun h => by have h2 := (h p HPM.out).2.1; have := H2.out; omega, rfl⟩, HBR.out⟩
      have hd2 : decide (p.2 < 0) = false := decide_eq_false h2
      by_cases h3 : ((p.1.length : Nat) : Int) < p.2
      · have hd3 : decide (((p.1.length : Nat) : Int) < p.2) = true := decide_eq_true h3
        have H3 := Aside0.mk h3
        clear h3 h2 h1
        go_wp2
        go_ret
        exact ⟨.inr ⟨fun h => by have h2 := (h p HPM.out).2.2.1; have := H3.out; omega, rfl⟩, HBR.out⟩
      have hd3 : decide (((p.1.length : Nat) : Int) < p.2) = false := decide_eq_false h3
      have HH := Aside0.mk (And.intro h1 (And.intro h2 h3))
      clear h1 h2 h3
      go_wp2
      clear hd1 hd2 hd3 e0 e1 d0 d1 d2 d3
      go_loopg [8] p.1.length (fun gk v8 wq => ∃ q : Nat, v8 = .int .i64 (q : Int) ∧ q ≤ p.1.length ∧ Aside0 (gk + q = p.1.length) ∧ Aside0 (Below w1.heap.size w1 wq ∧ ∀ x ∈ p.1.take q, (x.length : Int) = (bn : Int)))
      case atStart => exact ⟨0, rfl, by omega, ⟨rfl⟩, ⟨HS.out.1, fun x hx => by simp at hx⟩⟩
      case round =>
        obtain ⟨q, rfl, hq, HK2, HS2⟩ := hrel
        rename World => wq
        obtain ⟨d0, d1, d2, d3⟩ := HX1.out.below HS2.out.1
        have HBQ := Aside0.mk (HB1.out.trans (HS2.out.1.mono HB1.out.size))
        by_cases hql : q < p.1.length
        · obtain ⟨pp, hpp⟩ : ∃ pp, zs.getD i ([], 0) = pp := ⟨_, rfl⟩
          have hp9 : zs.getD i ([], 0) = p := by
            have h9 := HTK.out
            have hil : i < zs.length := by rw [HL.out]; exact hlt
            rw [take_one ([], 0) hil rfl] at h9
            have := List.append_cancel_left h9
            simpa using this
          obtain ⟨pa', C0, k1, hpa, e0, e1, hk1, hB, -⟩ := zones_at (Kd.C_below HC.out HBQ.out) i hlt hp9
          obtain rfl : pa = pa' := by injection hpa
          obtain ⟨pb, D0, k2, rfl, f0, hk2, hD⟩ := bytes_at hB q hql
          obtain ⟨x, hx⟩ : ∃ x, p.1.getD q [] = x := ⟨_, rfl⟩
          rw [hx] at f0 hk2 hD
          have HTX := Aside0.mk (take_one [] hql hx)
          have HXM := Aside0.mk (show x ∈ p.1 by rw [← hx, List.getD_eq_getElem?_getD, List.getElem?_eq_getElem hql]; exact List.getElem_mem _)
          have hq' : (q : Int) < (p.1.length : Int) := by omega
          have hd3 : decide ((q : Int) < (p.1.length : Int)) = true := decide_eq_true hq'
          clear hpp hp9 hpa hk1 hB hk2 hD hx
          by_cases hxb : (x.length : Int) = (bn : Int)
          · have hnb : ((x.length : Int) != (bn : Int)) = false := by rw [bne_eq_false_iff_eq]; exact hxb
            have hnb2 : (x.length != bn) = false := by rw [bne_eq_false_iff_eq]; omega
            have HXB := Aside0.mk hxb
            clear hxb
            go_wp2
            go_quiet (fail)
            go_wp2
            go_roundg (gk - 1)
            case measure => have := HK2.out; omega
            case rel => exact ⟨q + 1, by congr 1, by omega, ⟨by have := HK2.out; omega⟩, ⟨pw_below_drewN HS2.out.1 nq, fun y hy => by
              rw [HTX.out] at hy
              rcases List.mem_append.1 hy with hy | hy
              · exact HS2.out.2 y hy
              · rw [List.mem_singleton.1 hy]; exact HXB.out⟩⟩
          · have hnb : ((x.length : Int) != (bn : Int)) = true := by rw [bne_iff_ne]; exact hxb
            have hnb2 : (x.length != bn) = true := by rw [bne_iff_ne]; omega
            have HXB := Aside0.mk hxb
            clear hxb
            go_wp2
            go_quiet (fail)
            go_wp2
            go_ret
            exact ⟨.inr ⟨fun h => HXB.out ((h p HPM.out).2.2.2 x HXM.out), rfl⟩, pw_below_drewN HBQ.out nq⟩
        · obtain rfl : q = p.1.length := by omega
          have hd3 : decide ((p.1.length : Int) < (p.1.length : Int)) = false := decide_eq_false (by omega)
          go_wp2
          go_roundg (g1 - 1)
          case measure => have := HK.out; omega
          case rel => exact ⟨i + 1, by congr 1, by omega, ⟨by have := HK.out; omega⟩, ⟨HS2.out.1, fun y hy => by
            rw [HTK.out] at hy
            rcases List.mem_append.1 hy with hy | hy
            · exact HS.out.2 y hy
            · rw [List.mem_singleton.1 hy]
              have h5 := HS2.out.2
              rw [List.take_length] at h5
              have h6 := HH.out
              exact ⟨by omega, by omega, by omega, h5⟩⟩⟩
    · obtain rfl : i = n := by omega
      have hd9 : decide ((i : Int) < (i : Int)) = false := decide_eq_false (by omega)
      have hall := HS.out.2
      rw [List.take_of_length_le (by rw [HL.out]; omega)] at hall
      have hxs : ∀ p ∈ zs, p.1.length ≤ 5000 ∧ ∀ x ∈ p.1, x.length ≤ 100000000 := fun p hp => ⟨by have := (hall p hp).1; omega, fun x hx => by have := (hall p hp).2.2.2 x hx; omega⟩
      have HALL := Aside0.mk hall
      have HXS := Aside0.mk hxs
      clear hall hxs
      go_wp2
      go_region_held3 (fun w' => w'.cell? ⟨g, 0, none⟩ = some (.int .i64 (i : Int)) ∧ w'.cell? ⟨g, 1, none⟩ = some (.int .i64 (zbn : Int)) ∧ w'.cell? ⟨g, 2, none⟩ = some (.int .i64 (bn : Int)) ∧ w'.cell? ⟨g, 3, none⟩ = some (.int .i64 r))
        (first | exact ⟨d0, d1, d2, d3⟩ | exact ⟨pw_cell_below hw8 d0, pw_cell_below hw8 d1, pw_cell_below hw8 d2, pw_cell_below hw8 d3⟩ | exact ⟨pw_cell_below (alloc_below _ _) (pw_cell_below hw8 d0), pw_cell_below (alloc_below _ _) (pw_cell_below hw8 d1), pw_cell_below (alloc_below _ _) (pw_cell_below hw8 d2), pw_cell_below (alloc_below _ _) (pw_cell_below hw8 d3)⟩)
        (first | (go_at_call 65; (with_reducible refine (lentz_calls A i c zs (by omega) HXS.out _ (Kd.C_below HC.out (below_drew HBR.out))).mono ?_); rintro e w8 ⟨v8, rfl, hN8, hw8⟩; obtain ⟨A8, n8, k8, rfl, -, -⟩ := N_open hN8; have HN8 := Aside0.mk hN8; clear hN8))
      have HW8 := Aside0.mk (show Below wr.heap.size wr w8 from Below.trans (below_drew (Below.refl _ _)) hw8)
      clear d0 d1 d2 d3 hw8
      go_wp2
      go_ret
      have hs1 := HBR.out.size
      have hs8 := HW8.out.size
      have hdr : wr.drew.heap.size = wr.heap.size := rfl
      refine ⟨.inl ⟨HALL.out, w8.heap.size, .slice A8 n8 k8, rfl, ⟨blk_here rfl, ?_⟩, by omega⟩, HBR.out.trans ((HW8.out.mono hs1).trans ((alloc_below w8 _).mono (by omega)))⟩
      exact Kd.N_lower (Kd.N_mono (Kd.N_below HN8.out (alloc_below w8 _)) (fun k hk => by have := hk.1; omega)) (by omega)
end Go.Proofs.Ytkmeipblgdahoaa.Dv

/- Both Opens where the shape may not be, or the number of zones is another one: nil. -/
namespace Go.Proofs.Ytkmeipblgdahoaa.Dv
open Go.RowKit Go.Proofs.YtkmeipblgdahoaaW.PrintWords Go.Proofs.YtkmeipblgdahoaaW.PrintMore Go.Proofs.Ytkmeipblgdahoaa.Base Go.Proofs.Ytkmeipblgdahoaa.Shp
set_option maxRecDepth 100000
set_option linter.unusedVariables false
set_option linter.unusedSimpArgs false
set_option maxHeartbeats 1000000 in
theorem open_nil (z zb b r : Int) (hI : IsI z ∧ IsI zb ∧ IsI b ∧ IsI r) (A : Option Addr) (n c : Nat) (hno : ¬ Rt z zb b r ∨ (n : Int) ≠ z) (w : World) :
    Calls Try.prog 34 #[.agg #[.int .i64 z, .int .i64 zb, .int .i64 b, .int .i64 r], .slice A n c] w fun e w' => e = .returned (.pointer none) ∧ Below w.heap.size w w' := by
  have HII := Aside0.mk hI
  have HNO := Aside0.mk hno
  have HA := Aside0.mk (alloc_below w (.cells #[.int .i64 z, .int .i64 zb, .int .i64 b, .int .i64 r] 23))
  have HX := Aside0.mk (Box.new w z zb b r)
  obtain ⟨d0, d1, d2, d3⟩ := HX.out
  clear hI hno
  go_enter Try.func34, Try.ntmps34
  go_wp2_with fail
  refine (new_calls z zb b r HII.out.1 HII.out.2.1 HII.out.2.2.1 HII.out.2.2.2 _).mono ?_
  rintro e w1 ⟨⟨hn, rfl⟩ | ⟨hrt, xb, v, rfl, hD, hxb⟩, hw1⟩
  · have HB1 := Aside0.mk (below_go HA.out hw1)
    clear hn hw1 d0 d1 d2 d3
    go_wp2
    go_ret
    exact ⟨rfl, HB1.out⟩
  · have hnz : ((n : Int) != z) = true := by rw [bne_iff_ne]; exact HNO.out.resolve_left (fun h => h hrt)
    have HB1 := Aside0.mk (below_go HA.out hw1)
    obtain ⟨e0, e1, e2, e3⟩ := HX.out.below hw1
    clear hrt hD hxb hw1 d0 d1 d2 d3
    go_wp2
    go_ret
    exact ⟨rfl, HB1.out⟩
set_option maxHeartbeats 1000000 in
theorem ropen_nil (z zb b r : Int) (hI : IsI z ∧ IsI zb ∧ IsI b ∧ IsI r) (A : Option Addr) (n c : Nat) (hno : ¬ Rt z zb b r ∨ (n : Int) ≠ z) (w : World) :
    Calls Try.prog 56 #[.agg #[.int .i64 z, .int .i64 zb, .int .i64 b, .int .i64 r], .slice A n c] w fun e w' => e = .returned (.pointer none) ∧ Below w.heap.size w w' := by
  have HII := Aside0.mk hI
  have HNO := Aside0.mk hno
  have HA := Aside0.mk (alloc_below w (.cells #[.int .i64 z, .int .i64 zb, .int .i64 b, .int .i64 r] 23))
  have HX := Aside0.mk (Box.new w z zb b r)
  obtain ⟨d0, d1, d2, d3⟩ := HX.out
  clear hI hno
  go_enter Try.func56, Try.ntmps56
  go_wp2_with fail
  refine (ref_right_calls z zb b r HII.out.1 HII.out.2.1 HII.out.2.2.1 HII.out.2.2.2 _).mono ?_
  rintro e w1 ⟨rfl, hw1⟩
  have HB1 := Aside0.mk (below_go HA.out hw1)
  obtain ⟨e0, e1, e2, e3⟩ := HX.out.below hw1
  by_cases hrt : Rt z zb b r
  · rw [decide_eq_true hrt]
    have hnz : ((n : Int) != z) = true := by rw [bne_iff_ne]; exact HNO.out.resolve_left (fun h => h hrt)
    clear hrt hw1 d0 d1 d2 d3
    go_wp2
    go_ret
    exact ⟨rfl, HB1.out⟩
  · rw [decide_eq_false hrt]
    clear hrt hw1 d0 d1 d2 d3
    go_wp2
    go_ret
    exact ⟨rfl, HB1.out⟩
end Go.Proofs.Ytkmeipblgdahoaa.Dv

/- coamingref00.Zones, Heavy: of zones; what they say is not needed, but that they say it. -/
namespace Go.Proofs.Ytkmeipblgdahoaa.Dv
open Go.RowKit Go.Proofs.YtkmeipblgdahoaaW.PrintWords Go.Proofs.YtkmeipblgdahoaaW.PrintMore Go.Proofs.Ytkmeipblgdahoaa.Base Go.Proofs.Ytkmeipblgdahoaa.Shp
set_option maxRecDepth 100000
set_option linter.unusedVariables false
set_option linter.unusedSimpArgs false
attribute [local go_sem] max2_mx min2_mn max_two min_two
set_option maxHeartbeats 1000000 in
theorem zcount_calls (A : Option Addr) (n c : Nat) (xs : List Zn) (t : Nat) (ht : t ≤ 1000) (w : World) (h : zoneK.C w A n xs) :
    Calls Try.prog 55 #[.slice A n c, .int .i64 (t : Int)] w fun e w' => ∃ s : Nat, e = .returned (.int .i64 (s : Int)) ∧ s ≤ 2001 ∧ w = w' := by
  obtain ⟨hl, hm⟩ := C_len h
  have HL := Aside0.mk hl
  have HC := Aside0.mk h
  clear h hl
  go_enter Try.func55, Try.ntmps55
  go_wp2
  go_loopg [5, 6] n (fun g v5 v6 wr => ∃ i s : Nat, v6 = .int .i64 (i : Int) ∧ v5 = .int .i64 (s : Int) ∧ i ≤ n ∧ s ≤ 2001 ∧ Aside0 (g + i = n) ∧ w = wr)
  case atStart => exact ⟨0, 0, rfl, rfl, by omega, by omega, ⟨rfl⟩, rfl⟩
  case round =>
    obtain ⟨i, s, rfl, rfl, hi, hs, HK, rfl⟩ := hrel
    by_cases hlt : i < n
    · by_cases hst : s ≤ t
      · obtain ⟨p, hp⟩ : ∃ p, xs.getD i ([], 0) = p := ⟨_, rfl⟩
        obtain ⟨pa, B0, k0, rfl, e0, e1, hk0, hB, hIp⟩ := zones_at HC.out i hlt hp
        have hpm := (C_len hB).2
        obtain ⟨k, hk⟩ : ∃ k : Nat, mn (p.1.length : Int) (t : Int) = (k : Int) := by
          unfold mn
          split
          · exact ⟨_, rfl⟩
          · exact ⟨_, rfl⟩
        have hkt : k ≤ t := by
          unfold mn at hk
          split at hk <;> omega
        have hlt' : (i : Int) < (n : Int) := by omega
        have hd0 : decide ((i : Int) < (n : Int)) = true := decide_eq_true hlt'
        have hd1 : decide ((s : Int) ≤ (t : Int)) = true := decide_eq_true (by omega)
        have hd2 : decide (s ≤ t) = true := decide_eq_true hst
        clear hp hB hIp hk0
        go_wp2
        go_roundg (gk - 1)
        case measure => have := HK.out; omega
        case rel => exact ⟨i + 1, s + (1 + k), by congr 1, by congr 1, by omega, by omega, ⟨by have := HK.out; omega⟩, rfl⟩
      · have hlt' : (i : Int) < (n : Int) := by omega
        have hd0 : decide ((i : Int) < (n : Int)) = true := decide_eq_true hlt'
        have hd1 : decide ((s : Int) ≤ (t : Int)) = false := decide_eq_false (by omega)
        have hd2 : decide (s ≤ t) = false := decide_eq_false hst
        go_wp2
        go_ret
        exact ⟨s, rfl, by omega, rfl⟩
    · obtain rfl : i = n := by omega
      have hd0 : decide ((i : Int) < (i : Int)) = false := decide_eq_false (by omega)
      go_wp2
      go_ret
      exact ⟨s, rfl, by omega, rfl⟩
set_option maxHeartbeats 1000000 in
theorem heavyz_calls (A : Option Addr) (n c : Nat) (xs : List Zn) (t : Nat) (ht : t ≤ 1000) (w : World) (h : zoneK.C w A n xs) :
    Calls Try.prog 27 #[.slice A n c, .int .i64 (t : Int)] w fun e w' => ∃ b : Bool, e = .returned (.bool b) ∧ w = w' := by
  obtain ⟨hl, hm⟩ := C_len h
  have HL := Aside0.mk hl
  have HC := Aside0.mk h
  clear h hl
  go_enter Try.func27, Try.ntmps27
  go_wp2_with fail
  refine (zcount_calls A n c xs t ht _ HC.out).mono ?_
  rintro e w1 ⟨s, rfl, hs, rfl⟩
  by_cases hst : t < s
  · have hd1 : decide ((t : Int) < (s : Int)) = true := decide_eq_true (by omega)
    have hd2 : decide (t < s) = true := decide_eq_true hst
    go_wp2
    go_ret
    exact ⟨_, rfl, rfl⟩
  · have hd1 : decide ((t : Int) < (s : Int)) = false := decide_eq_false (by omega)
    have hd2 : decide (t < s) = false := decide_eq_false hst
    go_wp2
    go_loopg [5, 6] n (fun g v5 v6 wr => ∃ i : Nat, v5 = .int .i64 (i : Int) ∧ i ≤ n ∧ Aside0 (g + i = n) ∧ w = wr)
    case atStart => exact ⟨0, rfl, by omega, ⟨rfl⟩, rfl⟩
    case round =>
      obtain ⟨i, rfl, hi, HK, rfl⟩ := hrel
      obtain ⟨g1, rfl⟩ : ∃ g1 : Nat, g1 = gk := ⟨_, rfl⟩
      by_cases hlt : i < n
      · obtain ⟨p, hp⟩ : ∃ p, xs.getD i ([], 0) = p := ⟨_, rfl⟩
        obtain ⟨pa, B0, k0, rfl, e0, e1, hk0, hB, hIp⟩ := zones_at HC.out i hlt hp
        have hpm := (C_len hB).2
        have HB := Aside0.mk hB
        have hlt' : (i : Int) < (n : Int) := by omega
        have hd0 : decide ((i : Int) < (n : Int)) = true := decide_eq_true hlt'
        clear hp hB hIp hk0 e1
        go_wp2
        go_loopg [6] p.1.length (fun g v6 wr => ∃ q : Nat, v6 = .int .i64 (q : Int) ∧ q ≤ p.1.length ∧ Aside0 (g + q = p.1.length) ∧ w = wr)
        case atStart => exact ⟨0, rfl, by omega, ⟨rfl⟩, rfl⟩
        case round =>
          obtain ⟨q, rfl, hq, HK2, rfl⟩ := hrel
          by_cases hql : q < p.1.length
          · obtain ⟨pb, C0, d0, rfl, f0, hd, hC⟩ := bytes_at HB.out q hql
            obtain ⟨x, hx⟩ : ∃ x, p.1.getD q [] = x := ⟨_, rfl⟩
            rw [hx] at f0 hd hC
            have hxm := (C_len hC).2
            have hq' : (q : Int) < (p.1.length : Int) := by omega
            have hd3 : decide ((q : Int) < (p.1.length : Int)) = true := decide_eq_true hq'
            clear hx hd hC
            by_cases hx2 : 200 < x.length
            · have hd4 : decide (200 < (x.length : Int)) = true := decide_eq_true (by omega)
              go_wp2
              go_ret
              exact ⟨_, rfl, rfl⟩
            · have hd4 : decide (200 < (x.length : Int)) = false := decide_eq_false (by omega)
              go_wp2
              go_roundg (gk - 1)
              case measure => have := HK2.out; omega
              case rel => exact ⟨q + 1, by congr 1, by omega, ⟨by have := HK2.out; omega⟩, rfl⟩
          · obtain rfl : q = p.1.length := by omega
            have hd3 : decide ((p.1.length : Int) < (p.1.length : Int)) = false := decide_eq_false (by omega)
            go_wp2
            go_roundg (g1 - 1)
            case measure => have := HK.out; omega
            case rel => exact ⟨i + 1, by congr 1, by omega, ⟨by have := HK.out; omega⟩, rfl⟩
      · obtain rfl : i = n := by omega
        have hd0 : decide ((i : Int) < (i : Int)) = false := decide_eq_false (by omega)
        go_wp2
        go_ret
        exact ⟨_, rfl, rfl⟩
end Go.Proofs.Ytkmeipblgdahoaa.Dv

/- CkptOther walks whole. -/
namespace Go.Proofs.Ytkmeipblgdahoaa.Ck
open Go.RowKit Go.Proofs.YtkmeipblgdahoaaW.PrintWords Go.Proofs.YtkmeipblgdahoaaW.PrintMore Go.Proofs.Ytkmeipblgdahoaa.Base Go.Proofs.Ytkmeipblgdahoaa.Shp
open Go.Proofs.Ytkmeipblgdahoaa.Dv (Zn Chg small_calls zoneK open_gen open_nil zones_calls szones_calls sblocks_calls heavyz_calls FitZ ZInv flat partZ_flat zones_at rfluF)
set_option maxRecDepth 100000
set_option linter.unusedVariables false
set_option linter.unusedSimpArgs false
theorem dopen_calls (z r : Int) (zbn bn : Nat) (hrt : Rt z zbn bn r) (hI : IsI z ∧ IsI (zbn : Int) ∧ IsI (bn : Int) ∧ IsI r) (w0 w : World) (h0 : Below w0.heap.size w0 w) (A : Option Addr) (n c : Nat) (zs : List Zn) (hC : zoneK.C w A n zs) :
    Calls Try.prog 34 #[.agg #[.int .i64 z, .int .i64 (zbn : Int), .int .i64 (bn : Int), .int .i64 r], .slice A n c] w
      fun e w' => (e = .returned (.pointer none) ∧ Below w.heap.size w w') ∨ ((zs.length : Int) = z ∧ ∃ xb v D, e = .returned (.pointer (some ⟨xb, 0, none⟩)) ∧ DZ w0 w' xb w.heap.size z r zbn bn zs v D) := by
  have hl := (C_len hC).1
  by_cases hn : (n : Int) = z
  · subst hn
    have hbn := pow_range hrt.2.2.2.2.1
    have hzb := hrt.2.2.2.1
    refine (open_gen n zbn bn r hrt hI (by omega) (by omega) (by omega) A n c zs hl w hC).mono ?_
    rintro e w' ⟨⟨hf, xb, v, rfl, hD, hxb⟩ | ⟨-, rfl⟩, hb⟩
    · refine .inr ⟨by rw [hl], xb, v, fun k => w.heap.size ≤ k ∧ k < w'.heap.size, rfl, hD.tight (fun k h1 _ h3 => ⟨h1, h3⟩), fun k hk => hk, ?_, below_go h0 hb, h0.size, hb.size⟩
      intro p hp
      obtain ⟨h1, h2, h3, h4⟩ := hf p hp
      exact ⟨⟨h2, h3⟩, by omega, fun x hx => by have := h4 x hx; omega⟩
    · exact .inl ⟨rfl, hb⟩
  · exact (open_nil z zbn bn r hI A n c (.inr hn) w).mono fun e w' h => .inl h
theorem flat_whole {b zb : Nat} (hz : zb ≤ 4096) {zs : List Zn} (h : ZInv b zb zs) : Dv.Whole b 4096 (zs.map flat) := by
  intro p hp
  obtain ⟨y, hy, rfl⟩ := List.mem_map.1 hp
  obtain ⟨-, h1, h2⟩ := h y hy
  exact ⟨y.1.length, by omega, Dv.flat_len h2⟩
theorem savZ_full {zs : List Zn} {s k : Nat} {bs : List (List UInt8)} (hk : k < zs.length) : (savZ zs s bs).getD k ([], 0) = ((if s = k then bs else (zs.getD k ([], 0)).1), (((if s = k then bs else (zs.getD k ([], 0)).1).length : Nat) : Int)) := by
  have h1 := savZ_get (slot := s) (bs := bs) hk
  have h2 : ((savZ zs s bs).getD k ([], 0)).2 = ((((savZ zs s bs).getD k ([], 0)).1.length : Nat) : Int) := by
    unfold savZ
    rw [List.getD_eq_getElem?_getD, List.getElem?_mapIdx, List.getElem?_eq_getElem (by rw [List.length_set]; exact hk)]
    rfl
  rw [h1] at h2
  exact Prod.ext h1 h2
set_option maxHeartbeats 4000000 in
theorem cother_walk (w : World) (z zb b r : Int) (hz : IsI z) (hzb : IsI zb) (hb : IsI b) (hr : IsI r) (A : Option Addr) (n c : Nat) (zs : List Zn) (hnc : n ≤ c) (h : zoneK.C w A n zs) (sl : Bool)
    (q1 : Nat) (hq1 : q1 < 18446744073709551616) (A1 : Option Addr) (n1 c1 : Nat) (l1 : List Plc) (hnc1 : n1 ≤ c1) (h1 : plK.C w A1 n1 l1) :
    Calls Try.prog 9 #[.agg #[.int .i64 z, .int .i64 zb, .int .i64 b, .int .i64 r], .slice A n c, .bool sl, .agg #[.int .u64 (q1 : Int), .slice A1 n1 c1]] w
      fun e w' => e = .returned (.bool true) ∧ Below w.heap.size w w' := by
  have HLZ0 := Aside0.mk (C_len h).1
  have HL1 := Aside0.mk (C_len h1).1
  have HC := Aside0.mk h
  have HC1 := Aside0.mk h1
  have HI := Aside0.mk (And.intro hz (And.intro hzb (And.intro hb hr)))
  have HQ := Aside0.mk hq1
  have HNC := Aside0.mk hnc1
  have HA := Aside0.mk (below_alloc (alloc_below w (.cells #[.int .i64 z, .int .i64 zb, .int .i64 b, .int .i64 r] 23)) (.cells #[.int .u64 (q1 : Int), .slice A1 n1 c1] 27))
  have HB0 := Aside0.mk (show ((w.alloc (.cells #[.int .i64 z, .int .i64 zb, .int .i64 b, .int .i64 r] 23)).alloc (.cells #[.int .u64 (q1 : Int), .slice A1 n1 c1] 27)).heap[w.heap.size]? = some (.cells #[.int .i64 z, .int .i64 zb, .int .i64 b, .int .i64 r] 23 (0, 0)) ∧
      ((w.alloc (.cells #[.int .i64 z, .int .i64 zb, .int .i64 b, .int .i64 r] 23)).alloc (.cells #[.int .u64 (q1 : Int), .slice A1 n1 c1] 27)).heap[w.heap.size + 1]? = some (.cells #[.int .u64 (q1 : Int), .slice A1 n1 c1] 27 (0, 0)) from
    ⟨blk_past (blk_here rfl), blk_here (by simp)⟩)
  clear h h1 hz hzb hb hr hq1 hnc1 hnc
  go_enter Try.func9, Try.ntmps9
  go_wp2_with fail
  obtain ⟨g, hg⟩ : ∃ g, w.heap.size = g := ⟨_, rfl⟩
  obtain ⟨W, hW⟩ : ∃ W, (w.alloc (.cells #[.int .i64 z, .int .i64 zb, .int .i64 b, .int .i64 r] 23)).alloc (.cells #[.int .u64 (q1 : Int), .slice A1 n1 c1] 27) = W := ⟨_, rfl⟩
  rw [hW] at HA HB0 ⊢
  rw [hg] at HB0 ⊢
  have HG := Aside0.mk (Nat.le_of_eq hg)
  have HS := Aside0.mk (shc4 HB0.out.1)
  have HT1 := Aside0.mk (st_cells (x := .int .u64 (q1 : Int)) (by rfl) HB0.out.2)
  clear hW hg
  refine (small_calls z zb b r HI.out.1 HI.out.2.1 HI.out.2.2.1 HI.out.2.2.2 _).mono ?_
  rintro e w1 ⟨rfl, hb1⟩
  obtain ⟨sm, hsm⟩ : ∃ sm, (decide (z ≤ 12) && decide (zb ≤ 16) && decide (b ≤ 128)) = sm := ⟨_, rfl⟩
  rw [hsm]
  have HSM := Aside0.mk hsm
  have HW1 := Aside0.mk hb1
  have HX1 := Aside0.mk (stb_below HW1.out HT1.out)
  clear hsm hb1
  cases sm with
  | false =>
    go_wp2_with fail
    refine (known_calls _).mono ?_
    rintro e w2 ⟨rfl, hb2⟩
    have HB2 := Aside0.mk (below_go (below_go HA.out HW1.out) hb2)
    clear hb2
    go_wp2
    go_ret
    exact ⟨rfl, HB2.out⟩
  | true =>
  go_wp2_with fail
  refine (heavyz_calls A n c zs 200 (by omega) _ (Kd.C_below HC.out (below_go HA.out HW1.out))).mono ?_
  rintro e w1' ⟨bo, rfl, rfl⟩
  cases bo with
  | true =>
    go_wp2_with fail
    refine (known_calls _).mono ?_
    rintro e w2 ⟨rfl, hb2⟩
    have HB2 := Aside0.mk (below_go (below_go HA.out HW1.out) hb2)
    clear hb2
    go_wp2
    go_ret
    exact ⟨rfl, HB2.out⟩
  | false =>
  obtain ⟨s10, s11, -, -⟩ := HX1.out
  by_cases h200 : 200 < n1
  · have e1 : decide ((200 : Int) < (n1 : Int)) = true := decide_eq_true (by omega)
    have e1' : decide (200 < n1) = true := decide_eq_true h200
    clear h200
    go_wp2_with fail
    refine (known_calls _).mono ?_
    rintro e w2 ⟨rfl, hb2⟩
    have HB2 := Aside0.mk (below_go (below_go HA.out HW1.out) hb2)
    clear hb2 s10 s11
    go_wp2
    go_ret
    exact ⟨rfl, HB2.out⟩
  have e1 : decide ((200 : Int) < (n1 : Int)) = false := decide_eq_false (by omega)
  have e1' : decide (200 < n1) = false := decide_eq_false (by omega)
  have HN1 := Aside0.mk (show n1 ≤ 10000000 by omega)
  clear h200
  go_wp2_with fail
  refine (known_calls _).mono ?_
  rintro e w2 ⟨rfl, hb2⟩
  have HW2 := Aside0.mk (below_go HW1.out hb2)
  obtain ⟨c0, c1_, c2_, c3⟩ := shc4_below HW2.out HS.out
  clear hb2 e1 e1' s10 s11
  by_cases hrt : Rt z zb b r
  case neg =>
    have HRT := Aside0.mk hrt
    clear hrt
    go_wp2_with fail
    refine (open_nil z zb b r HI.out A n c (.inl HRT.out) _).mono ?_
    rintro e w3 ⟨rfl, hb3⟩
    have HB3 := Aside0.mk (below_go (below_go HA.out HW2.out) hb3)
    clear hb3 c0 c1_ c2_ c3
    go_wp2
    go_ret
    exact ⟨rfl, HB3.out⟩
  have HRT := Aside0.mk hrt
  obtain ⟨bn, rfl⟩ : ∃ bn : Nat, b = (bn : Int) := ⟨b.toNat, by have := pow_range hrt.2.2.2.2.1; omega⟩
  obtain ⟨zbn, rfl⟩ : ∃ zbn : Nat, zb = (zbn : Int) := ⟨zb.toNat, by have := hrt.2.2.1; omega⟩
  have HZB := Aside0.mk (show zbn ≤ 16 ∧ 64 ≤ bn ∧ bn ≤ 4096 ∧ 6 ≤ z ∧ z ≤ 256 by
    have h1 := HSM.out
    simp only [Bool.and_eq_true, decide_eq_true_eq] at h1
    have h3 := pow_range hrt.2.2.2.2.1
    have h4 := hrt.1
    have h5 := hrt.2.1
    omega)
  clear hrt
  go_wp2_with fail
  refine (dopen_calls z r zbn bn HRT.out HI.out W _ HW2.out A n c zs (Kd.C_below HC.out (below_go HA.out HW2.out))).mono ?_
  rintro e w3 (⟨rfl, hb3⟩ | ⟨hlz, xb, v, D, rfl, hDZ⟩)
  · have HB3 := Aside0.mk (below_go (below_go HA.out HW2.out) hb3)
    clear hb3 c0 c1_ c2_ c3
    go_wp2
    go_ret
    exact ⟨rfl, HB3.out⟩
  have HLZ := Aside0.mk (show zs.length = n ∧ 6 ≤ n ∧ n ≤ 256 from ⟨HLZ0.out, by have := HLZ0.out; have := HZB.out; omega, by have := HLZ0.out; have := HZB.out; omega⟩)
  have HDZ := Aside0.mk hDZ
  clear hDZ c0 c1_ c2_ c3 hlz
  obtain ⟨s, hs⟩ : ∃ s : Nat, (if sl then 1 else 0) = s := ⟨_, rfl⟩
  have hs2 : s < 2 := by rw [← hs]; split <;> omega
  have HSL := Aside0.mk hs
  clear hs
  go_upto_if 38 with fail
  go_cut [11] from 14 (fun v11 wx => v11 = .int .i64 (s : Int) ∧ wx = w3)
  case first =>
    cases sl with
    | false =>
      have h := HSL.out
      subst h
      go_wp2_with fail
      go_meet
      exact ⟨rfl, rfl⟩
    | true =>
      have h := HSL.out
      subst h
      go_wp2_with fail
      go_meet
      exact ⟨rfl, rfl⟩
  obtain ⟨rfl, rfl⟩ := hcut
  have HX1 := Aside0.mk (stb_below HDZ.out.bel HT1.out)
  obtain ⟨s10, s11, -, -⟩ := HX1.out
  go_wp2_with fail
  refine (dsave_calls HDZ.out HRT.out HI.out.2.2.2 (s : Int) ⟨by omega, by omega⟩ q1 HQ.out A1 n1 c1 l1 HN1.out HNC.out (Kd.C_below HC1.out (below_go HA.out HDZ.out.bel)) (by have := HLZ.out; omega)).mono ?_
  rintro e w4 ⟨zs4, D4, hsv, hlz4, hD4, -⟩
  have HD4 := Aside0.mk hD4
  have HLZ4 := Aside0.mk hlz4
  clear hD4 hlz4 s10 s11
  rcases hsv with ⟨hno, -, -⟩ | ⟨-, xe, he, hxe, rfl, rfl⟩ | ⟨-, bs1, he1, rfl, hz4⟩
  · exact absurd ⟨by omega, by omega⟩ hno
  · have hx0 : (xe != 0) = true := by rw [bne_iff_ne]; rcases hxe with rfl | rfl <;> decide
    clear hxe he
    go_wp2_with fail
    refine (zones_calls xb _ _ z zbn r bn (by have := HZB.out; omega) (by have := HZB.out; omega) _ v _ HD4.out.dev (flat_whole (by have := HRT.out.2.2.2.1; omega) HD4.out.inv) (by rw [List.length_map, HLZ.out.1]; exact HLZ.out.2.2)).mono ?_
    rintro e w5 ⟨v5, rfl, hN5, hb5⟩
    rw [partZ_flat (by have := HZB.out; omega) HD4.out.inv] at hN5
    obtain ⟨A5, n5, k5, rfl, -, hC5⟩ := N_open hN5
    have HC5 := Aside0.mk hC5
    have HB5 := Aside0.mk (below_go HA.out (below_go HD4.out.bel hb5))
    clear hC5 hN5 hb5 hx0
    go_wp2_with fail
    refine (szones_calls A5 A n5 n k5 c zs4 zs4 _ HC5.out (Kd.C_below HC.out HB5.out)).mono ?_
    rw [decide_eq_true rfl]
    rintro e w6 ⟨rfl, m, rfl⟩
    have HB6 := Aside0.mk (pw_below_drewN HB5.out m)
    go_wp2
    go_ret
    exact ⟨rfl, HB6.out⟩
  rw [Int.toNat_natCast] at hz4
  clear he1
  go_wp2_with fail
  refine (zones_calls xb _ _ z zbn r bn (by have := HZB.out; omega) (by have := HZB.out; omega) _ v _ HD4.out.dev (flat_whole (by have := HRT.out.2.2.2.1; omega) HD4.out.inv) (by rw [List.length_map, HLZ4.out, HLZ.out.1]; exact HLZ.out.2.2)).mono ?_
  rintro e w5 ⟨v5, rfl, hN5, hb5⟩
  rw [partZ_flat (by have := HZB.out; omega) HD4.out.inv] at hN5
  obtain ⟨A5, n5, k5, rfl, hk5, hC5⟩ := N_open hN5
  obtain rfl : n5 = n := by rw [← (C_len hC5).1, HLZ4.out, HLZ.out.1]
  have HC5 := Aside0.mk hC5
  have HB5 := Aside0.mk (below_go HA.out (below_go HD4.out.bel hb5))
  have HZ4 := Aside0.mk hz4
  have HL := HLZ
  clear hC5 hN5 hb5 hz4
  go_wp2
  go_loopg [13] n5 (fun g1 v13 wr => ∃ i : Nat, v13 = .int .i64 (i : Int) ∧ i ≤ n5 ∧ Aside0 (g1 + i = n5) ∧ Aside0 (∃ m, wr = w5.drewN m))
  case atStart => exact ⟨0, rfl, Nat.zero_le _, ⟨rfl⟩, ⟨0, rfl⟩⟩
  case round =>
    obtain ⟨i, rfl, hi, HK, HM⟩ := hrel
    rename World => Wr
    have hbw : Below w5.heap.size w5 Wr := by
      obtain ⟨m, e⟩ := HM.out
      rw [e]
      exact pw_below_drewN (Below.refl _ _) m
    have HCW := Aside0.mk (Kd.C_below HC5.out hbw)
    have HCW2 := Aside0.mk (Kd.C_below HC.out (below_go HB5.out hbw))
    have HBW := Aside0.mk (below_go HB5.out hbw)
    have HM2 := Aside0.mk (show ∀ k : Nat, ∃ m, Wr.drewN k = w5.drewN m from fun k => by
      obtain ⟨m, e⟩ := HM.out
      exact ⟨_, by rw [e]; exact World.drewN_drewN _ _ _⟩)
    clear hbw
    have hn256 : n5 ≤ 256 := HLZ.out.2.2
    by_cases hlt : i < n5
    · have hil : i < zs.length := by rw [HLZ.out.1]; exact hlt
      obtain ⟨x, hx⟩ : ∃ x, (if s = i then bs1 else (zs.getD i ([], 0)).1) = x := ⟨_, rfl⟩
      have hfull : zs4.getD i ([], 0) = (x, ((x.length : Nat) : Int)) := by rw [HZ4.out, savZ_full hil, hx]
      obtain ⟨y, hy⟩ : ∃ y, zs.getD i ([], 0) = y := ⟨_, rfl⟩
      obtain ⟨pa, A0, c0, rfl, e0, e1, hk0, hC0, -⟩ := zones_at HCW.out i hlt hfull
      obtain ⟨pb, B0, d0, rfl, f0, f1, hj0, hD0, -⟩ := zones_at HCW2.out i hlt hy
      dsimp only at e0 e1 hk0 hC0
      have HC0 := Aside0.mk hC0
      have HD0 := Aside0.mk hD0
      have hlt' : (i : Int) < (n5 : Int) := by omega
      have hd0 : decide ((i : Int) < (n5 : Int)) = true := decide_eq_true hlt'
      have hd0' : decide (i < n5) = true := decide_eq_true hlt
      by_cases his : i = s
      · have hne : ((i : Int) != (s : Int)) = false := by rw [bne_eq_false_iff_eq]; omega
        clear his hy hx hfull hC0 hD0 f0 f1 hil
        go_wp2
        go_quiet (fail)
        go_wp2
        go_roundg (gk - 1)
        case measure => have := HK.out; omega
        case rel => exact ⟨i + 1, by congr 1, by omega, ⟨by have := HK.out; omega⟩, ⟨by first | exact HM2.out _ | (rw [World.drewN_drewN]; exact HM2.out _)⟩⟩
      · have hne : ((i : Int) != (s : Int)) = true := by rw [bne_iff_ne]; omega
        have hxy : x = y.1 := by rw [← hx, ← hy, if_neg (fun h => his h.symm)]
        have q0 : ∀ v : Nat, Calls Try.prog 13 #[.slice A0 x.length c0, .slice B0 y.1.length d0] (Wr.drewN v) fun e w' => e = .returned (.bool true) ∧ ∃ m, w' = Wr.drewN m := fun v => (sblocks_calls A0 B0 x.length y.1.length c0 d0 x y.1 (Wr.drewN v) (Kd.C_below HC0.out (pw_below_drewN (Below.refl _ _) v)) (Kd.C_below HD0.out (pw_below_drewN (Below.refl _ _) v))).mono fun e w' hh => by
          obtain ⟨h1, m, h2⟩ := hh
          rw [decide_eq_true hxy] at h1
          exact ⟨h1, _, by rw [h2]; exact World.drewN_drewN _ _ _⟩
        clear his hy hx hfull hC0 hD0 hil hxy
        go_wp2
        go_quiet (exact q0 _)
        go_wp2
        go_roundg (gk - 1)
        case measure => have := HK.out; omega
        case rel => exact ⟨i + 1, by congr 1, by omega, ⟨by have := HK.out; omega⟩, ⟨by first | exact HM2.out _ | (rw [World.drewN_drewN]; exact HM2.out _)⟩⟩
    · obtain rfl : i = n5 := by omega
      have hd0 : decide ((i : Int) < (i : Int)) = false := decide_eq_false (by omega)
      go_wp2
      go_ret
      exact ⟨rfl, HBW.out⟩
theorem opn_zone : Opn Try.prog 77 zoneK :=
  Opn.struct Try.underlying77 (by kernel_rfl) (OpnFs.cons rfl (by kernel_rfl) (Opn.slice Try.underlying28 (by kernel_rfl) (Opn.slice Try.underlying39 (by kernel_rfl) (Opn.byte Try.underlying5)))
    (OpnFs.last rfl (by kernel_rfl) (Opn.num Try.underlying3)))
theorem cother_row (W : World) (s : Int × Int × Int × Int) (c : IsI s.1 ∧ IsI s.2.1 ∧ IsI s.2.2.1 ∧ IsI s.2.2.2) (A : Option Addr) (n cp : Nat) (zs : List Zn) (hnc : n ≤ cp) (h : zoneK.C W A n zs) (x : Bool) (t : Nat × List Plc × Option Addr × Nat × Nat) (d : StArg W t) :
    Calls Try.prog 9 #[.agg #[.int .i64 s.1, .int .i64 s.2.1, .int .i64 s.2.2.1, .int .i64 s.2.2.2], .slice A n cp, .bool x, .agg #[.int .u64 (t.1 : Int), .slice t.2.2.1 t.2.2.2.1 t.2.2.2.2]] W fun e w' => e = .returned (.bool true) ∧ Below W.heap.size W w' :=
  cother_walk W s.1 s.2.1 s.2.2.1 s.2.2.2 c.1 c.2.1 c.2.2.1 c.2.2.2 A n cp zs hnc h x t.1 d.1 t.2.2.1 t.2.2.2.1 t.2.2.2.2 t.2.1 d.2.2 d.2.1
end Go.Proofs.Ytkmeipblgdahoaa.Ck

/- The row of CkptOther, out of its walk. -/
namespace Go.Proofs.Ytkmeipblgdahoaa.ckptOther
open Go.ChangeShapes Go.WideShapes Go.ChangeAt Go.RowKit Go.Proofs.Ytkmeipblgdahoaa.Base
open Go.ChangeMaps (open_string shut_string)
set_option linter.unusedVariables false
theorem own : ownKnob Try.prog.godebug = none := by kernel_rfl
theorem laidOut : laidOutB Try.prog = true := by kernel_rfl
set_option maxRecDepth 100000 in
theorem lifted (os : Os) (started : os.Started) (H : Type) (enc : TypeId × Value → H) :
    ReturnsInHanded {} Try.checked os 9 .any (Rows.ckptOtherSpec.pre6 enc Try.prog Try.f9 Rows.ckptOtherRow.domain false) (Rows.ckptOtherSpec.post enc Try.prog Try.f9 false true false false) := by
  refine returnsInHanded_of_change_sized (C := Try.checked) own started (by kernel_rfl) Try.func9
    (ChangeSpec.witness6 (enc := enc) (C := Try.checked) false ⟨#[], #[.agg #[.int .i64 0, .int .i64 0, .int .i64 0, .int .i64 0], .slice none 0 0, .bool false, .agg #[.int .u64 0, .slice none 0 0]], []⟩ 8 (by kernel_rfl) (by kernel_rfl) (by kernel_rfl) (by kernel_rfl)) ?_
  intro W base args ds gs before hval0 hW hcnd hsz0 _
  have hval : ∀ (j : Nat) t v, Try.f9.params[j]? = some t → args[j]? = some v → Value.okWide Try.prog W .any base t v := hval0
  have hW' := hW
  obtain ⟨p, q, hA0, hV, rfl, hfz, hnd⟩ := hW
  have hA : DataW.TrodAll enc Try.prog W 0 (fun _ => true) true Try.f9.params.toList args.toList ds p := hA0
  rw [Try.params9] at hA hval
  obtain ⟨v0, vs0, d0, ds0, p0, q0, hargs, rfl, rfl, h0, r0⟩ := trodAll_cons hA
  obtain ⟨v1, vs1, d1, ds1, p1, q1, rfl, rfl, rfl, h1, r1⟩ := trodAll_cons r0
  obtain ⟨v2, vs2, d2, ds2, p2, q2, rfl, rfl, rfl, h2, r2⟩ := trodAll_cons r1
  obtain ⟨v3, vs3, d3, ds3, p3, q3, rfl, rfl, rfl, h3, r3⟩ := trodAll_cons r2
  obtain ⟨rfl, rfl, rfl⟩ := trodAll_nil r3
  obtain rfl : args = #[v0, v1, v2, v3] := by cases args; simp_all
  obtain ⟨rfl, rfl⟩ := trodVars_none hV
  have k0 := h0
  have lt0 : ∀ x ∈ p0, x.block < W.heap.size := by obtain ⟨m, hm⟩ := k0; exact DataW.trod_lt m _ _ _ hm
  obtain ⟨s0, rfl, c0⟩ := Shp.open_shape (hval 0 23 v0 rfl rfl) h0
  obtain ⟨a1, len1, cap1, rfl⟩ := okWide_slice Try.underlying64 (hval 1 64 v1 rfl rfl)
  have k1 := h1
  have lt1 : ∀ x ∈ p1, x.block < W.heap.size := by obtain ⟨m, hm⟩ := k1; exact DataW.trod_lt m _ _ _ hm
  obtain ⟨l1, c1, le1⟩ := open_kd Try.underlying64 (by kernel_rfl) (Ck.opn_zone) h1
  obtain ⟨a2, rfl, rfl, rfl⟩ := open_bool Try.underlying4 (hval 2 4 v2 rfl rfl) h2
  have k3 := h3
  have lt3 : ∀ x ∈ p3, x.block < W.heap.size := by obtain ⟨m, hm⟩ := k3; exact DataW.trod_lt m _ _ _ hm
  obtain ⟨s3, rfl, c3⟩ := Ck.open_st (hval 3 27 v3 rfl rfl) h3
  clear hA0 hval0 hsz0
  refine (Ck.cother_row W s0 c0 a1 len1 cap1 l1 le1 c1 a2 s3 c3).mono fun e W' ⟨he, bel⟩ => ?_
  subst he
  exact ⟨_, rfl, _, _, _, [], _, [], hW', trodAll_mk1 (shut_bool Try.underlying4 _), (trodAll_cons_mk (Below.trod laidOut (by kernel_rfl) (of_decide_eq_true (by kernel_rfl)) k0 bel lt0) (trodAll_cons_mk (Below.trod laidOut (by kernel_rfl) (of_decide_eq_true (by kernel_rfl)) k1 bel lt1) (trodAll_cons_mk (shut_bool Try.underlying4 _) (trodAll_cons_mk (Below.trod laidOut (by kernel_rfl) (of_decide_eq_true (by kernel_rfl)) k3 bel lt3) trodAll_mk0)))), rfl, bel.frame _, fun h => by cases h⟩
theorem over : Rows.ckptOtherRow.holds Try.pinned (OpenSpec.ofChange Rows.ckptOtherSpec) :=
  OpenClaim.holds_of_wide 9 Try.f9 rfl rfl rfl rfl rfl rfl rfl ⟨rfl, rfl, rfl, rfl, rfl⟩ rfl rfl rfl rfl rfl (by kernel_rfl) Try.func9 (by kernel_rfl)
    (of_decide_eq_true (by kernel_rfl)) (by unfold Func.isWrapper; first | (rw [if_pos (by decide +kernel)]; kernel_rfl) | (rw [if_neg (by decide +kernel)]; exact ⟨rfl, rfl⟩))
    (fun os started H enc _ => lifted os started H enc)
theorem proved : Rows.CkptOtherSaid := over
#print axioms proved
end Go.Proofs.Ytkmeipblgdahoaa.ckptOther
namespace Go.Proofs.Ytkmeipblgdahoaa
theorem ckptOther_holds : Rows.CkptOtherSaid := ckptOther.proved
end Go.Proofs.Ytkmeipblgdahoaa
