/- The document's own zones: lent; its Zones. -/
import Derived.Test.YtmkjglnggkkpeaaSame
namespace Go.Proofs.Ytmkjglnggkkpeaa.Dv
open Go.RowKit Go.Shelf Go.Proofs.YtmkjglnggkkpeaaW.PrintWords Go.Proofs.YtmkjglnggkkpeaaW.PrintMore Go.Proofs.Ytmkjglnggkkpeaa.Base Go.Proofs.Ytmkjglnggkkpeaa.Shp
set_option linter.unusedVariables false
set_option linter.unusedSimpArgs false
theorem take_one {α : Type} {xs : List α} {i : Nat} (d : α) {x : α} (h : i < xs.length) (hx : xs.getD i d = x) : xs.take (i + 1) = xs.take i ++ [x] := by
  rw [List.take_succ_eq_append_getElem h]
  rw [List.getD_eq_getElem?_getD, List.getElem?_eq_getElem h] at hx
  exact congrArg _ (congrArg (· :: []) hx)
set_option maxRecDepth 100000 in
set_option maxHeartbeats 4000000 in
theorem lentz_calls (A : Option Addr) (n c : Nat) (xs : List Zn) (hn : n ≤ 1000) (hxs : ∀ p ∈ xs, p.1.length ≤ 5000 ∧ ∀ x ∈ p.1, x.length ≤ 100000000) (w : World) (h : zoneK.C w A n xs) :
    Calls Try.prog 46 #[.slice A n c] w fun e w' => ∃ v, e = .returned v ∧ Kd.N zoneK 55 w' w.heap.size (fun k => w.heap.size ≤ k ∧ k < w'.heap.size) v xs ∧ Below w.heap.size w w' := by
  obtain ⟨hl, hm⟩ := C_len h
  have HL := Aside0.mk hl
  have HC := Aside0.mk h
  have HXS := Aside0.mk hxs
  clear h hl hxs
  go_enter Try.func46, Try.ntmps46
  go_wp2
  go_loopg [3, 4, 5, 6] n (fun g v3 v4 v5 v6 wr => ∃ i : Nat, v4 = .int .i64 (i : Int) ∧ i ≤ n ∧ Aside0 (g + i = n) ∧ Aside0 (Kd.N zoneK 55 wr w.heap.size (fun k => w.heap.size ≤ k) v3 (xs.take i) ∧ Below w.heap.size w wr))
  case atStart => exact ⟨0, rfl, by omega, ⟨rfl⟩, ⟨by rw [List.take_zero]; exact Kd.N_nil _ _ _ _ _, Below.refl _ _⟩⟩
  case round =>
    obtain ⟨i, rfl, hi, HK, HS⟩ := hrel
    rename World => W
    obtain ⟨g1, rfl⟩ : ∃ g1 : Nat, g1 = gk := ⟨_, rfl⟩
    by_cases hlt : i < n
    · obtain ⟨p, hp⟩ : ∃ p, xs.getD i ([], 0) = p := ⟨_, rfl⟩
      obtain ⟨pa, B0, c0, rfl, e0, e1, hk0, hB, hI⟩ := zones_at (Kd.C_below HC.out HS.out.2) i hlt hp
      have hpm : p ∈ xs := by
        rw [← hp, List.getD_eq_getElem?_getD, List.getElem?_eq_getElem (show i < xs.length by rw [HL.out]; exact hlt)]
        exact List.getElem_mem _
      have HP := Aside0.mk hp
      have HI := Aside0.mk hI
      obtain ⟨hp5, hpx⟩ := HXS.out p hpm
      have HPX := Aside0.mk hpx
      have hlt' : (i : Int) < (n : Int) := by omega
      have hd0 : decide ((i : Int) < (n : Int)) = true := decide_eq_true hlt'
      clear hp hB hI hk0 hpm hpx
      go_wp2
      obtain ⟨W1, hW1⟩ : ∃ W1, W.alloc (.cells #[.slice none 0 0, .int .i64 p.2] 55) = W1 := ⟨_, rfl⟩
      obtain ⟨gz, hgz⟩ : ∃ gz, W.heap.size = gz := ⟨_, rfl⟩
      have HBZ := Aside0.mk (show W1.heap[gz]? = some (.cells #[.slice none 0 0, .int .i64 p.2] 55 (0, 0)) by rw [← hW1, ← hgz]; exact blk_here rfl)
      have HS1 := Aside0.mk (show W1.heap.size = gz + 1 by rw [← hW1, ← hgz]; simp)
      have HB1 := Aside0.mk (show Below W.heap.size W W1 by rw [← hW1]; exact alloc_below _ _)
      have HGZ := Aside0.mk hgz
      have hwg : w.heap.size ≤ gz := by rw [← hgz]; exact HS.out.2.size
      rw [hW1, hgz]
      clear hW1 hgz e0 e1
      go_loopg [6] p.1.length (fun gk2 v6 wq => ∃ q : Nat, v6 = .int .i64 (q : Int) ∧ q ≤ p.1.length ∧ Aside0 (gk2 + q = p.1.length) ∧ Aside0 (∃ vz S, ZI W1 wq gz p.2 vz (p.1.take q) S))
      case atStart => exact ⟨0, rfl, by omega, ⟨rfl⟩, ⟨.slice none 0 0, fun _ => False, HBZ.out, by rw [List.take_zero]; exact Kd.N_nil _ _ _ _ _, fun _ h => h.elim, Chg.refl _ _⟩⟩
      case round =>
        obtain ⟨q, rfl, hq, HK2, HZZ⟩ := hrel
        rename World => Wq
        obtain ⟨vq, S, hz⟩ := HZZ.out
        have HZ := Aside0.mk hz
        have HBQ := Aside0.mk (show Below w.heap.size w Wq from by
          have h1 := HS.out.2
          have h2 := HB1.out
          have h3 := hz.chg
          have h4 := HS1.out
          have h5 := HGZ.out
          have h6 := h1.size
          exact ⟨h3.os.trans (h2.os.trans h1.os), h3.tape.trans (h2.tape.trans h1.tape), h3.output.trans (h2.output.trans h1.output), by have := h3.kept.1; omega, fun k hk => by
            rw [h3.kept.2 k (by omega) (by omega), h2.block k (by omega)]
            exact h1.block k hk⟩)
        obtain ⟨Aq, nq, cq, rfl, -, hCq⟩ := N_open hz.row
        obtain ⟨z0, z1, zf, -⟩ : Wq.cell? ⟨gz, 0, none⟩ = some (.slice Aq nq cq) ∧ Wq.cell? ⟨gz, 1, none⟩ = some (.int .i64 p.2) ∧ Wq.frozen? ⟨gz, 0, none⟩ = false ∧ Wq.frozen? ⟨gz, 1, none⟩ = false := by
          have := hz.blk
          exact ⟨by simp [World.cell?, this], by simp [World.cell?, this], by simp [World.frozen?, this], by simp [World.frozen?, this]⟩
        obtain ⟨pa', B1, c1, hpa, e0, e1, hk1, hB1, -⟩ := zones_at (Kd.C_below HC.out HBQ.out) i hlt HP.out
        obtain rfl : pa = pa' := by injection hpa
        have HZ0 := Aside0.mk z0
        clear hz hCq hpa zf
        by_cases hql : q < p.1.length
        · obtain ⟨pb, X0, cx, rfl, f0, hcx, hXC⟩ := bytes_at hB1 q hql
          obtain ⟨x, hx⟩ : ∃ x, p.1.getD q [] = x := ⟨_, rfl⟩
          rw [hx] at f0 hcx hXC
          have hxl : x.length ≤ 100000000 := HPX.out x (by rw [← hx, List.getD_eq_getElem?_getD, List.getElem?_eq_getElem hql]; exact List.getElem_mem _)
          have HXC := Aside0.mk hXC
          have HTK := Aside0.mk (take_one [] hql hx)
          have HNQ := Aside0.mk (show (p.1.take q).length ≤ 100000 by rw [List.length_take]; omega)
          have hqlt : (q : Int) < (p.1.length : Int) := by omega
          have hd1 : decide ((q : Int) < (p.1.length : Int)) = true := decide_eq_true hqlt
          clear hx hcx hXC hB1 hk1
          go_wp2
          refine wp_region_any (by kernel_rfl) ?_
          rw [show ({ Wq with drawn := Wq.drawn + 1 } : World) = Wq.drew from rfl]
          refine wpAny_take (i := 0) (oi := { dst := some 29, op := Op.fieldAddr 55 (Operand.tmp 5) 0, type := 0, pos := "ref.go:42", after := #[], guard := none }) (v := ?_) rfl (by kernel_rfl) (by kernel_rfl) (by kernel_rfl) (fun _ _ _ h => h) (Or.inl ⟨by rfl, ?_⟩) ?_
          rotate_left
          · (intro w; go_simp; (try with_reducible rfl))
          (try simp only [Act.put, List.setIfInBounds_toArray, List.set_cons_zero, List.set_cons_succ])
          refine wpAny_take (i := 2) (oi := { dst := some 31, op := Op.move (Operand.tmp 0), type := 51, pos := "ref.go:42", after := #[], guard := none }) (v := ?_) rfl (by kernel_rfl) (by kernel_rfl) (by kernel_rfl) (fun _ _ _ h => h) (Or.inl ⟨by rfl, ?_⟩) ?_
          rotate_left
          · (intro w; go_simp; (try with_reducible rfl))
          (try simp only [Act.put, List.setIfInBounds_toArray, List.set_cons_zero, List.set_cons_succ])
          refine wpAny_take (i := 3) (oi := { dst := some 32, op := Op.move (Operand.tmp 4), type := 3, pos := "ref.go:42", after := #[], guard := none }) (v := ?_) rfl (by kernel_rfl) (by kernel_rfl) (by kernel_rfl) (fun _ _ _ h => h) (Or.inl ⟨by rfl, ?_⟩) ?_
          rotate_left
          · (intro w; go_simp; (try with_reducible rfl))
          (try simp only [Act.put, List.setIfInBounds_toArray, List.set_cons_zero, List.set_cons_succ])
          refine wpAny_take (i := 4) (oi := { dst := some 33, op := Op.indexAddr 51 (Operand.tmp 31) (Operand.tmp 32), type := 0, pos := "ref.go:42", after := #[{ on := 2, ground := Ground.data }, { on := 3, ground := Ground.data }], guard := none }) (v := ?_) rfl (by kernel_rfl) (by kernel_rfl) (by kernel_rfl) (fun _ _ _ h => h) (Or.inl ⟨by rfl, ?_⟩) ?_
          rotate_left
          · (intro w; go_simp; (try with_reducible rfl))
          (try simp only [Act.put, List.setIfInBounds_toArray, List.set_cons_zero, List.set_cons_succ])
          refine wpAny_take (i := 5) (oi := { dst := some 34, op := Op.fieldAddr 55 (Operand.tmp 33) 0, type := 0, pos := "ref.go:42", after := #[{ on := 4, ground := Ground.data }], guard := none }) (v := ?_) rfl (by kernel_rfl) (by kernel_rfl) (by kernel_rfl) (fun _ _ _ h => h) (Or.inl ⟨by rfl, ?_⟩) ?_
          rotate_left
          · (intro w; go_simp; (try with_reducible rfl))
          (try simp only [Act.put, List.setIfInBounds_toArray, List.set_cons_zero, List.set_cons_succ])
          refine wpAny_take (i := 7) (oi := { dst := some 36, op := Op.move (Operand.tmp 6), type := 3, pos := "ref.go:42", after := #[], guard := none }) (v := ?_) rfl (by kernel_rfl) (by kernel_rfl) (by kernel_rfl) (fun _ _ _ h => h) (Or.inl ⟨by rfl, ?_⟩) ?_
          rotate_left
          · (intro w; go_simp; (try with_reducible rfl))
          (try simp only [Act.put, List.setIfInBounds_toArray, List.set_cons_zero, List.set_cons_succ])
          refine wpAny_ready (rs := [1, 6]) (by kernel_rfl) (by simp) ?_
          refine (AllReady.cons (o := { dst := some 30, op := Op.load 31 (Operand.tmp 29), type := 31, pos := "ref.go:42", after := #[{ on := 0, ground := Ground.data }], guard := none }) rfl (fun K hK => ?_) (AllReady.cons (o := { dst := some 35, op := Op.load 31 (Operand.tmp 34), type := 31, pos := "ref.go:42", after := #[{ on := 5, ground := Ground.data }], guard := none }) rfl (fun K hK => ?_) AllReady.nil))
          · go_simp
            refine hK _ _ ?_
            clear hK K
            (try simp only [Act.put, List.setIfInBounds_toArray, List.set_cons_zero, List.set_cons_succ])
            refine wpAny_ready (rs := [6]) (by kernel_rfl) (by simp) ?_
            refine (AllReady.cons (o := { dst := some 35, op := Op.load 31 (Operand.tmp 34), type := 31, pos := "ref.go:42", after := #[{ on := 5, ground := Ground.data }], guard := none }) rfl (fun K hK => ?_) AllReady.nil)
            go_simp
            refine hK _ _ ?_
            clear hK K
            (try simp only [Act.put, List.setIfInBounds_toArray, List.set_cons_zero, List.set_cons_succ])
            refine wpAny_take (i := 8) (oi := { dst := some 37, op := Op.indexAddr 31 (Operand.tmp 35) (Operand.tmp 36), type := 0, pos := "ref.go:42", after := #[{ on := 6, ground := Ground.data }, { on := 7, ground := Ground.data }], guard := none }) (v := ?_) rfl (by kernel_rfl) (by kernel_rfl) (by kernel_rfl) (fun _ _ _ h => h) (Or.inl ⟨by rfl, ?_⟩) ?_
            rotate_left
            · (intro w; go_simp; (try with_reducible rfl))
            (try simp only [Act.put, List.setIfInBounds_toArray, List.set_cons_zero, List.set_cons_succ])
            refine wpAny_ready (rs := [9]) (by kernel_rfl) (by simp) ?_
            refine (AllReady.cons (o := { dst := some 38, op := Op.load 32 (Operand.tmp 37), type := 32, pos := "ref.go:42", after := #[{ on := 8, ground := Ground.data }], guard := none }) rfl (fun K hK => ?_) AllReady.nil)
            go_simp
            refine hK _ _ ?_
            clear hK K
            (try simp only [Act.put, List.setIfInBounds_toArray, List.set_cons_zero, List.set_cons_succ])
            refine wpAny_ready (rs := [10]) (by kernel_rfl) (by simp) ?_
            refine (AllReady.cons (o := { dst := some 39, op := Op.call { callee := Callee.value (Operand.func 50), args := #[Operand.tmp 38], argTypes := #[32] }, type := 32, pos := "ref.go:42", after := #[{ on := 9, ground := Ground.data }], guard := none }) rfl (fun K hK => ?_) AllReady.nil)
            go_simp
            refine (lent_calls X0 x.length cx x (by omega) _ (Kd.C_below HXC.out (below_drew (Below.refl _ _)))).mono ?_
            rintro e w8 ⟨v8, rfl, hO8, hw8⟩
            obtain ⟨A8, n8, c8, rfl, -, hC8⟩ := hO8.reads
            have HO8 := Aside0.mk hO8
            have hb8 : Below Wq.heap.size Wq w8 := Below.trans (below_drew (Below.refl _ _)) hw8
            have HZ8 := Aside0.mk (HZ.out.below (by rw [HS1.out]; omega) hb8)
            have HKF8 := Aside0.mk hb8
            have z0 := pw_cell_below hb8 HZ0.out
            clear hO8 hw8 hC8 hb8
            refine hK _ _ ?_
            clear hK K
            (try simp only [Act.put, List.setIfInBounds_toArray, List.set_cons_zero, List.set_cons_succ])
            refine wpAny_ready (rs := [11]) (by kernel_rfl) (by simp) ?_
            refine (AllReady.cons (o := { dst := some 40, op := Op.buildSlice 31 1 #[(0, Operand.tmp 39)], type := 31, pos := "ref.go:42", after := #[{ on := 10, ground := Ground.data }], guard := none }) rfl (fun K hK => ?_) AllReady.nil)
            go_simp
            refine hK _ _ ?_
            clear hK K
            (try simp only [Act.put, List.setIfInBounds_toArray, List.set_cons_zero, List.set_cons_succ])
            refine wpAny_ready (rs := [12]) (by kernel_rfl) (by simp) ?_
            refine (AllReady.cons (o := { dst := some 41, op := Op.call { callee := Callee.builtin Builtin.append, args := #[Operand.tmp 30, Operand.tmp 40], argTypes := #[31, 31] }, type := 31, pos := "ref.go:42", after := #[{ on := 1, ground := Ground.data }, { on := 11, ground := Ground.data }, { on := 10, ground := Ground.chain }], guard := none }) rfl (fun K hK => ?_) AllReady.nil)
            refine app_blk_step W1.heap.size S (fun j => some j = (Value.slice A8 n8 c8).ownBlock) (.tmp 30) (.tmp 40) (by rfl) rfl (.slice Aq nq cq) (p.1.take q) x A8 n8 c8 (own_FK HO8.out) (fun j hj e => by have h1 := Kd.N_lt HZ.out.row j e.symm; have h2 := Kd.R_base HO8.out j hj.symm; have h3 : Wq.drew.heap.size = Wq.heap.size := rfl; omega) rfl (by simp [Act.eval]) HZ8.out.row (Nat.le_trans HZ.out.chg.kept.1 HKF8.out.size) HNQ.out ?_
            intro v9 w9 hN9 hg9
            obtain ⟨A9, n9, c9, rfl, -, -⟩ := N_open hN9
            have HZ9 := Aside0.mk (HZ8.out.add (Wq := Wq) (by rw [HS1.out]; omega) HZ.out.chg.kept.1 hN9 hg9 (fun j hj => Kd.R_base HO8.out j hj.symm) (Nat.le_trans HZ.out.chg.kept.1 HKF8.out.size))
            have hz9 : w9.heap[gz]? = some (.cells #[.slice Aq nq cq, .int .i64 p.2] 55 (0, 0)) := (hg9.block _ HZ8.out.blkEq (fun e => by have := Kd.N_base HZ8.out.row _ e.symm; have := HS1.out; omega)).trans HZ8.out.blk
            have z9 : w9.cell? ⟨gz, 0, none⟩ = some (.slice Aq nq cq) := by simp [World.cell?, hz9]
            have zf9 : w9.frozen? ⟨gz, 0, none⟩ = false := by simp [World.frozen?, hz9]
            have HG9 := Aside0.mk hg9
            clear hz9 hN9 hg9
            refine hK _ _ ?_
            clear hK K
            (try simp only [Act.put, List.setIfInBounds_toArray, List.set_cons_zero, List.set_cons_succ])
            refine wpAny_take (i := 13) (oi := { dst := some 42, op := Op.fieldAddr 55 (Operand.tmp 5) 0, type := 0, pos := "ref.go:42", after := #[{ on := 0, ground := Ground.phase }, { on := 1, ground := Ground.phase }, { on := 2, ground := Ground.phase }, { on := 3, ground := Ground.phase }, { on := 4, ground := Ground.phase }, { on := 5, ground := Ground.phase }, { on := 6, ground := Ground.phase }, { on := 7, ground := Ground.phase }, { on := 8, ground := Ground.phase }, { on := 9, ground := Ground.phase }, { on := 10, ground := Ground.phase }, { on := 11, ground := Ground.phase }, { on := 12, ground := Ground.phase }], guard := none }) (v := ?_) rfl (by kernel_rfl) (by kernel_rfl) (by kernel_rfl) (fun _ _ _ h => h) (Or.inl ⟨by rfl, ?_⟩) ?_
            rotate_left
            · (intro w; go_simp; (try with_reducible rfl))
            (try simp only [Act.put, List.setIfInBounds_toArray, List.set_cons_zero, List.set_cons_succ])
            refine wpAny_ready (rs := [14]) (by kernel_rfl) (by simp) ?_
            refine (AllReady.cons (o := { dst := none, op := Op.store 31 (Operand.tmp 42) (Operand.tmp 41), type := 0, pos := "ref.go:42", after := #[{ on := 13, ground := Ground.data }, { on := 12, ground := Ground.data }, { on := 12, ground := Ground.chain }, { on := 0, ground := Ground.phase }, { on := 1, ground := Ground.phase }, { on := 2, ground := Ground.phase }, { on := 3, ground := Ground.phase }, { on := 4, ground := Ground.phase }, { on := 5, ground := Ground.phase }, { on := 6, ground := Ground.phase }, { on := 7, ground := Ground.phase }, { on := 8, ground := Ground.phase }, { on := 9, ground := Ground.phase }, { on := 10, ground := Ground.phase }, { on := 11, ground := Ground.phase }, { on := 12, ground := Ground.phase }], guard := none }) rfl (fun K hK => ?_) AllReady.nil)
            go_simp
            refine hK _ _ ?_
            clear hK K
            (try simp only [Act.put, List.setIfInBounds_toArray, List.set_cons_zero, List.set_cons_succ])
            refine wpAny_done (by kernel_rfl) ?_ _
            go_wp2
            go_roundg (gk - 1)
            case measure => have := HK2.out; omega
            case rel =>
              refine ⟨q + 1, by congr 1, by omega, ⟨by have := HK2.out; omega⟩, ⟨?_⟩⟩
              obtain ⟨S9, hz⟩ := HZ9.out
              rw [← HTK.out] at hz
              exact ⟨_, S9, hz⟩
          · go_simp
            refine hK _ _ ?_
            clear hK K
            (try simp only [Act.put, List.setIfInBounds_toArray, List.set_cons_zero, List.set_cons_succ])
            refine wpAny_take (i := 8) (oi := { dst := some 37, op := Op.indexAddr 31 (Operand.tmp 35) (Operand.tmp 36), type := 0, pos := "ref.go:42", after := #[{ on := 6, ground := Ground.data }, { on := 7, ground := Ground.data }], guard := none }) (v := ?_) rfl (by kernel_rfl) (by kernel_rfl) (by kernel_rfl) (fun _ _ _ h => h) (Or.inl ⟨by rfl, ?_⟩) ?_
            rotate_left
            · (intro w; go_simp; (try with_reducible rfl))
            (try simp only [Act.put, List.setIfInBounds_toArray, List.set_cons_zero, List.set_cons_succ])
            refine wpAny_ready (rs := [1, 9]) (by kernel_rfl) (by simp) ?_
            refine (AllReady.cons (o := { dst := some 30, op := Op.load 31 (Operand.tmp 29), type := 31, pos := "ref.go:42", after := #[{ on := 0, ground := Ground.data }], guard := none }) rfl (fun K hK => ?_) (AllReady.cons (o := { dst := some 38, op := Op.load 32 (Operand.tmp 37), type := 32, pos := "ref.go:42", after := #[{ on := 8, ground := Ground.data }], guard := none }) rfl (fun K hK => ?_) AllReady.nil))
            · go_simp
              refine hK _ _ ?_
              clear hK K
              (try simp only [Act.put, List.setIfInBounds_toArray, List.set_cons_zero, List.set_cons_succ])
              refine wpAny_ready (rs := [9]) (by kernel_rfl) (by simp) ?_
              refine (AllReady.cons (o := { dst := some 38, op := Op.load 32 (Operand.tmp 37), type := 32, pos := "ref.go:42", after := #[{ on := 8, ground := Ground.data }], guard := none }) rfl (fun K hK => ?_) AllReady.nil)
              go_simp
              refine hK _ _ ?_
              clear hK K
              (try simp only [Act.put, List.setIfInBounds_toArray, List.set_cons_zero, List.set_cons_succ])
              refine wpAny_ready (rs := [10]) (by kernel_rfl) (by simp) ?_
              refine (AllReady.cons (o := { dst := some 39, op := Op.call { callee := Callee.value (Operand.func 50), args := #[Operand.tmp 38], argTypes := #[32] }, type := 32, pos := "ref.go:42", after := #[{ on := 9, ground := Ground.data }], guard := none }) rfl (fun K hK => ?_) AllReady.nil)
              go_simp
              refine (lent_calls X0 x.length cx x (by omega) _ (Kd.C_below HXC.out (below_drew (Below.refl _ _)))).mono ?_
              rintro e w8 ⟨v8, rfl, hO8, hw8⟩
              obtain ⟨A8, n8, c8, rfl, -, hC8⟩ := hO8.reads
              have HO8 := Aside0.mk hO8
              have hb8 : Below Wq.heap.size Wq w8 := Below.trans (below_drew (Below.refl _ _)) hw8
              have HZ8 := Aside0.mk (HZ.out.below (by rw [HS1.out]; omega) hb8)
              have HKF8 := Aside0.mk hb8
              have z0 := pw_cell_below hb8 HZ0.out
              clear hO8 hw8 hC8 hb8
              refine hK _ _ ?_
              clear hK K
              (try simp only [Act.put, List.setIfInBounds_toArray, List.set_cons_zero, List.set_cons_succ])
              refine wpAny_ready (rs := [11]) (by kernel_rfl) (by simp) ?_
              refine (AllReady.cons (o := { dst := some 40, op := Op.buildSlice 31 1 #[(0, Operand.tmp 39)], type := 31, pos := "ref.go:42", after := #[{ on := 10, ground := Ground.data }], guard := none }) rfl (fun K hK => ?_) AllReady.nil)
              go_simp
              refine hK _ _ ?_
              clear hK K
              (try simp only [Act.put, List.setIfInBounds_toArray, List.set_cons_zero, List.set_cons_succ])
              refine wpAny_ready (rs := [12]) (by kernel_rfl) (by simp) ?_
              refine (AllReady.cons (o := { dst := some 41, op := Op.call { callee := Callee.builtin Builtin.append, args := #[Operand.tmp 30, Operand.tmp 40], argTypes := #[31, 31] }, type := 31, pos := "ref.go:42", after := #[{ on := 1, ground := Ground.data }, { on := 11, ground := Ground.data }, { on := 10, ground := Ground.chain }], guard := none }) rfl (fun K hK => ?_) AllReady.nil)
              refine app_blk_step W1.heap.size S (fun j => some j = (Value.slice A8 n8 c8).ownBlock) (.tmp 30) (.tmp 40) (by rfl) rfl (.slice Aq nq cq) (p.1.take q) x A8 n8 c8 (own_FK HO8.out) (fun j hj e => by have h1 := Kd.N_lt HZ.out.row j e.symm; have h2 := Kd.R_base HO8.out j hj.symm; have h3 : Wq.drew.heap.size = Wq.heap.size := rfl; omega) rfl (by simp [Act.eval]) HZ8.out.row (Nat.le_trans HZ.out.chg.kept.1 HKF8.out.size) HNQ.out ?_
              intro v9 w9 hN9 hg9
              obtain ⟨A9, n9, c9, rfl, -, -⟩ := N_open hN9
              have HZ9 := Aside0.mk (HZ8.out.add (Wq := Wq) (by rw [HS1.out]; omega) HZ.out.chg.kept.1 hN9 hg9 (fun j hj => Kd.R_base HO8.out j hj.symm) (Nat.le_trans HZ.out.chg.kept.1 HKF8.out.size))
              have hz9 : w9.heap[gz]? = some (.cells #[.slice Aq nq cq, .int .i64 p.2] 55 (0, 0)) := (hg9.block _ HZ8.out.blkEq (fun e => by have := Kd.N_base HZ8.out.row _ e.symm; have := HS1.out; omega)).trans HZ8.out.blk
              have z9 : w9.cell? ⟨gz, 0, none⟩ = some (.slice Aq nq cq) := by simp [World.cell?, hz9]
              have zf9 : w9.frozen? ⟨gz, 0, none⟩ = false := by simp [World.frozen?, hz9]
              have HG9 := Aside0.mk hg9
              clear hz9 hN9 hg9
              refine hK _ _ ?_
              clear hK K
              (try simp only [Act.put, List.setIfInBounds_toArray, List.set_cons_zero, List.set_cons_succ])
              refine wpAny_take (i := 13) (oi := { dst := some 42, op := Op.fieldAddr 55 (Operand.tmp 5) 0, type := 0, pos := "ref.go:42", after := #[{ on := 0, ground := Ground.phase }, { on := 1, ground := Ground.phase }, { on := 2, ground := Ground.phase }, { on := 3, ground := Ground.phase }, { on := 4, ground := Ground.phase }, { on := 5, ground := Ground.phase }, { on := 6, ground := Ground.phase }, { on := 7, ground := Ground.phase }, { on := 8, ground := Ground.phase }, { on := 9, ground := Ground.phase }, { on := 10, ground := Ground.phase }, { on := 11, ground := Ground.phase }, { on := 12, ground := Ground.phase }], guard := none }) (v := ?_) rfl (by kernel_rfl) (by kernel_rfl) (by kernel_rfl) (fun _ _ _ h => h) (Or.inl ⟨by rfl, ?_⟩) ?_
              rotate_left
              · (intro w; go_simp; (try with_reducible rfl))
              (try simp only [Act.put, List.setIfInBounds_toArray, List.set_cons_zero, List.set_cons_succ])
              refine wpAny_ready (rs := [14]) (by kernel_rfl) (by simp) ?_
              refine (AllReady.cons (o := { dst := none, op := Op.store 31 (Operand.tmp 42) (Operand.tmp 41), type := 0, pos := "ref.go:42", after := #[{ on := 13, ground := Ground.data }, { on := 12, ground := Ground.data }, { on := 12, ground := Ground.chain }, { on := 0, ground := Ground.phase }, { on := 1, ground := Ground.phase }, { on := 2, ground := Ground.phase }, { on := 3, ground := Ground.phase }, { on := 4, ground := Ground.phase }, { on := 5, ground := Ground.phase }, { on := 6, ground := Ground.phase }, { on := 7, ground := Ground.phase }, { on := 8, ground := Ground.phase }, { on := 9, ground := Ground.phase }, { on := 10, ground := Ground.phase }, { on := 11, ground := Ground.phase }, { on := 12, ground := Ground.phase }], guard := none }) rfl (fun K hK => ?_) AllReady.nil)
              go_simp
              refine hK _ _ ?_
              clear hK K
              (try simp only [Act.put, List.setIfInBounds_toArray, List.set_cons_zero, List.set_cons_succ])
              refine wpAny_done (by kernel_rfl) ?_ _
              go_wp2
              go_roundg (gk - 1)
              case measure => have := HK2.out; omega
              case rel =>
                refine ⟨q + 1, by congr 1, by omega, ⟨by have := HK2.out; omega⟩, ⟨?_⟩⟩
                obtain ⟨S9, hz⟩ := HZ9.out
                rw [← HTK.out] at hz
                exact ⟨_, S9, hz⟩
            · go_simp
              refine hK _ _ ?_
              clear hK K
              (try simp only [Act.put, List.setIfInBounds_toArray, List.set_cons_zero, List.set_cons_succ])
              refine wpAny_ready (rs := [1, 10]) (by kernel_rfl) (by simp) ?_
              refine (AllReady.cons (o := { dst := some 30, op := Op.load 31 (Operand.tmp 29), type := 31, pos := "ref.go:42", after := #[{ on := 0, ground := Ground.data }], guard := none }) rfl (fun K hK => ?_) (AllReady.cons (o := { dst := some 39, op := Op.call { callee := Callee.value (Operand.func 50), args := #[Operand.tmp 38], argTypes := #[32] }, type := 32, pos := "ref.go:42", after := #[{ on := 9, ground := Ground.data }], guard := none }) rfl (fun K hK => ?_) AllReady.nil))
              · go_simp
                refine hK _ _ ?_
                clear hK K
                (try simp only [Act.put, List.setIfInBounds_toArray, List.set_cons_zero, List.set_cons_succ])
                refine wpAny_ready (rs := [10]) (by kernel_rfl) (by simp) ?_
                refine (AllReady.cons (o := { dst := some 39, op := Op.call { callee := Callee.value (Operand.func 50), args := #[Operand.tmp 38], argTypes := #[32] }, type := 32, pos := "ref.go:42", after := #[{ on := 9, ground := Ground.data }], guard := none }) rfl (fun K hK => ?_) AllReady.nil)
                go_simp
                refine (lent_calls X0 x.length cx x (by omega) _ (Kd.C_below HXC.out (below_drew (Below.refl _ _)))).mono ?_
                rintro e w8 ⟨v8, rfl, hO8, hw8⟩
                obtain ⟨A8, n8, c8, rfl, -, hC8⟩ := hO8.reads
                have HO8 := Aside0.mk hO8
                have hb8 : Below Wq.heap.size Wq w8 := Below.trans (below_drew (Below.refl _ _)) hw8
                have HZ8 := Aside0.mk (HZ.out.below (by rw [HS1.out]; omega) hb8)
                have HKF8 := Aside0.mk hb8
                have z0 := pw_cell_below hb8 HZ0.out
                clear hO8 hw8 hC8 hb8
                refine hK _ _ ?_
                clear hK K
                (try simp only [Act.put, List.setIfInBounds_toArray, List.set_cons_zero, List.set_cons_succ])
                refine wpAny_ready (rs := [11]) (by kernel_rfl) (by simp) ?_
                refine (AllReady.cons (o := { dst := some 40, op := Op.buildSlice 31 1 #[(0, Operand.tmp 39)], type := 31, pos := "ref.go:42", after := #[{ on := 10, ground := Ground.data }], guard := none }) rfl (fun K hK => ?_) AllReady.nil)
                go_simp
                refine hK _ _ ?_
                clear hK K
                (try simp only [Act.put, List.setIfInBounds_toArray, List.set_cons_zero, List.set_cons_succ])
                refine wpAny_ready (rs := [12]) (by kernel_rfl) (by simp) ?_
                refine (AllReady.cons (o := { dst := some 41, op := Op.call { callee := Callee.builtin Builtin.append, args := #[Operand.tmp 30, Operand.tmp 40], argTypes := #[31, 31] }, type := 31, pos := "ref.go:42", after := #[{ on := 1, ground := Ground.data }, { on := 11, ground := Ground.data }, { on := 10, ground := Ground.chain }], guard := none }) rfl (fun K hK => ?_) AllReady.nil)
                refine app_blk_step W1.heap.size S (fun j => some j = (Value.slice A8 n8 c8).ownBlock) (.tmp 30) (.tmp 40) (by rfl) rfl (.slice Aq nq cq) (p.1.take q) x A8 n8 c8 (own_FK HO8.out) (fun j hj e => by have h1 := Kd.N_lt HZ.out.row j e.symm; have h2 := Kd.R_base HO8.out j hj.symm; have h3 : Wq.drew.heap.size = Wq.heap.size := rfl; omega) rfl (by simp [Act.eval]) HZ8.out.row (Nat.le_trans HZ.out.chg.kept.1 HKF8.out.size) HNQ.out ?_
                intro v9 w9 hN9 hg9
                obtain ⟨A9, n9, c9, rfl, -, -⟩ := N_open hN9
                have HZ9 := Aside0.mk (HZ8.out.add (Wq := Wq) (by rw [HS1.out]; omega) HZ.out.chg.kept.1 hN9 hg9 (fun j hj => Kd.R_base HO8.out j hj.symm) (Nat.le_trans HZ.out.chg.kept.1 HKF8.out.size))
                have hz9 : w9.heap[gz]? = some (.cells #[.slice Aq nq cq, .int .i64 p.2] 55 (0, 0)) := (hg9.block _ HZ8.out.blkEq (fun e => by have := Kd.N_base HZ8.out.row _ e.symm; have := HS1.out; omega)).trans HZ8.out.blk
                have z9 : w9.cell? ⟨gz, 0, none⟩ = some (.slice Aq nq cq) := by simp [World.cell?, hz9]
                have zf9 : w9.frozen? ⟨gz, 0, none⟩ = false := by simp [World.frozen?, hz9]
                have HG9 := Aside0.mk hg9
                clear hz9 hN9 hg9
                refine hK _ _ ?_
                clear hK K
                (try simp only [Act.put, List.setIfInBounds_toArray, List.set_cons_zero, List.set_cons_succ])
                refine wpAny_take (i := 13) (oi := { dst := some 42, op := Op.fieldAddr 55 (Operand.tmp 5) 0, type := 0, pos := "ref.go:42", after := #[{ on := 0, ground := Ground.phase }, { on := 1, ground := Ground.phase }, { on := 2, ground := Ground.phase }, { on := 3, ground := Ground.phase }, { on := 4, ground := Ground.phase }, { on := 5, ground := Ground.phase }, { on := 6, ground := Ground.phase }, { on := 7, ground := Ground.phase }, { on := 8, ground := Ground.phase }, { on := 9, ground := Ground.phase }, { on := 10, ground := Ground.phase }, { on := 11, ground := Ground.phase }, { on := 12, ground := Ground.phase }], guard := none }) (v := ?_) rfl (by kernel_rfl) (by kernel_rfl) (by kernel_rfl) (fun _ _ _ h => h) (Or.inl ⟨by rfl, ?_⟩) ?_
                rotate_left
                · (intro w; go_simp; (try with_reducible rfl))
                (try simp only [Act.put, List.setIfInBounds_toArray, List.set_cons_zero, List.set_cons_succ])
                refine wpAny_ready (rs := [14]) (by kernel_rfl) (by simp) ?_
                refine (AllReady.cons (o := { dst := none, op := Op.store 31 (Operand.tmp 42) (Operand.tmp 41), type := 0, pos := "ref.go:42", after := #[{ on := 13, ground := Ground.data }, { on := 12, ground := Ground.data }, { on := 12, ground := Ground.chain }, { on := 0, ground := Ground.phase }, { on := 1, ground := Ground.phase }, { on := 2, ground := Ground.phase }, { on := 3, ground := Ground.phase }, { on := 4, ground := Ground.phase }, { on := 5, ground := Ground.phase }, { on := 6, ground := Ground.phase }, { on := 7, ground := Ground.phase }, { on := 8, ground := Ground.phase }, { on := 9, ground := Ground.phase }, { on := 10, ground := Ground.phase }, { on := 11, ground := Ground.phase }, { on := 12, ground := Ground.phase }], guard := none }) rfl (fun K hK => ?_) AllReady.nil)
                go_simp
                refine hK _ _ ?_
                clear hK K
                (try simp only [Act.put, List.setIfInBounds_toArray, List.set_cons_zero, List.set_cons_succ])
                refine wpAny_done (by kernel_rfl) ?_ _
                go_wp2
                go_roundg (gk - 1)
                case measure => have := HK2.out; omega
                case rel =>
                  refine ⟨q + 1, by congr 1, by omega, ⟨by have := HK2.out; omega⟩, ⟨?_⟩⟩
                  obtain ⟨S9, hz⟩ := HZ9.out
                  rw [← HTK.out] at hz
                  exact ⟨_, S9, hz⟩
              · go_simp
                refine (lent_calls X0 x.length cx x (by omega) _ (Kd.C_below HXC.out (below_drew (Below.refl _ _)))).mono ?_
                rintro e w8 ⟨v8, rfl, hO8, hw8⟩
                obtain ⟨A8, n8, c8, rfl, -, hC8⟩ := hO8.reads
                have HO8 := Aside0.mk hO8
                have hb8 : Below Wq.heap.size Wq w8 := Below.trans (below_drew (Below.refl _ _)) hw8
                have HZ8 := Aside0.mk (HZ.out.below (by rw [HS1.out]; omega) hb8)
                have HKF8 := Aside0.mk hb8
                have z0 := pw_cell_below hb8 HZ0.out
                clear hO8 hw8 hC8 hb8
                refine hK _ _ ?_
                clear hK K
                (try simp only [Act.put, List.setIfInBounds_toArray, List.set_cons_zero, List.set_cons_succ])
                refine wpAny_ready (rs := [1, 11]) (by kernel_rfl) (by simp) ?_
                refine (AllReady.cons (o := { dst := some 30, op := Op.load 31 (Operand.tmp 29), type := 31, pos := "ref.go:42", after := #[{ on := 0, ground := Ground.data }], guard := none }) rfl (fun K hK => ?_) (AllReady.cons (o := { dst := some 40, op := Op.buildSlice 31 1 #[(0, Operand.tmp 39)], type := 31, pos := "ref.go:42", after := #[{ on := 10, ground := Ground.data }], guard := none }) rfl (fun K hK => ?_) AllReady.nil))
                · go_simp
                  refine hK _ _ ?_
                  clear hK K
                  (try simp only [Act.put, List.setIfInBounds_toArray, List.set_cons_zero, List.set_cons_succ])
                  refine wpAny_ready (rs := [11]) (by kernel_rfl) (by simp) ?_
                  refine (AllReady.cons (o := { dst := some 40, op := Op.buildSlice 31 1 #[(0, Operand.tmp 39)], type := 31, pos := "ref.go:42", after := #[{ on := 10, ground := Ground.data }], guard := none }) rfl (fun K hK => ?_) AllReady.nil)
                  go_simp
                  refine hK _ _ ?_
                  clear hK K
                  (try simp only [Act.put, List.setIfInBounds_toArray, List.set_cons_zero, List.set_cons_succ])
                  refine wpAny_ready (rs := [12]) (by kernel_rfl) (by simp) ?_
                  refine (AllReady.cons (o := { dst := some 41, op := Op.call { callee := Callee.builtin Builtin.append, args := #[Operand.tmp 30, Operand.tmp 40], argTypes := #[31, 31] }, type := 31, pos := "ref.go:42", after := #[{ on := 1, ground := Ground.data }, { on := 11, ground := Ground.data }, { on := 10, ground := Ground.chain }], guard := none }) rfl (fun K hK => ?_) AllReady.nil)
                  refine app_blk_step W1.heap.size S (fun j => some j = (Value.slice A8 n8 c8).ownBlock) (.tmp 30) (.tmp 40) (by rfl) rfl (.slice Aq nq cq) (p.1.take q) x A8 n8 c8 (own_FK HO8.out) (fun j hj e => by have h1 := Kd.N_lt HZ.out.row j e.symm; have h2 := Kd.R_base HO8.out j hj.symm; have h3 : Wq.drew.heap.size = Wq.heap.size := rfl; omega) rfl (by simp [Act.eval]) HZ8.out.row (Nat.le_trans HZ.out.chg.kept.1 HKF8.out.size) HNQ.out ?_
                  intro v9 w9 hN9 hg9
                  obtain ⟨A9, n9, c9, rfl, -, -⟩ := N_open hN9
                  have HZ9 := Aside0.mk (HZ8.out.add (Wq := Wq) (by rw [HS1.out]; omega) HZ.out.chg.kept.1 hN9 hg9 (fun j hj => Kd.R_base HO8.out j hj.symm) (Nat.le_trans HZ.out.chg.kept.1 HKF8.out.size))
                  have hz9 : w9.heap[gz]? = some (.cells #[.slice Aq nq cq, .int .i64 p.2] 55 (0, 0)) := (hg9.block _ HZ8.out.blkEq (fun e => by have := Kd.N_base HZ8.out.row _ e.symm; have := HS1.out; omega)).trans HZ8.out.blk
                  have z9 : w9.cell? ⟨gz, 0, none⟩ = some (.slice Aq nq cq) := by simp [World.cell?, hz9]
                  have zf9 : w9.frozen? ⟨gz, 0, none⟩ = false := by simp [World.frozen?, hz9]
                  have HG9 := Aside0.mk hg9
                  clear hz9 hN9 hg9
                  refine hK _ _ ?_
                  clear hK K
                  (try simp only [Act.put, List.setIfInBounds_toArray, List.set_cons_zero, List.set_cons_succ])
                  refine wpAny_take (i := 13) (oi := { dst := some 42, op := Op.fieldAddr 55 (Operand.tmp 5) 0, type := 0, pos := "ref.go:42", after := #[{ on := 0, ground := Ground.phase }, { on := 1, ground := Ground.phase }, { on := 2, ground := Ground.phase }, { on := 3, ground := Ground.phase }, { on := 4, ground := Ground.phase }, { on := 5, ground := Ground.phase }, { on := 6, ground := Ground.phase }, { on := 7, ground := Ground.phase }, { on := 8, ground := Ground.phase }, { on := 9, ground := Ground.phase }, { on := 10, ground := Ground.phase }, { on := 11, ground := Ground.phase }, { on := 12, ground := Ground.phase }], guard := none }) (v := ?_) rfl (by kernel_rfl) (by kernel_rfl) (by kernel_rfl) (fun _ _ _ h => h) (Or.inl ⟨by rfl, ?_⟩) ?_
                  rotate_left
                  · (intro w; go_simp; (try with_reducible rfl))
                  (try simp only [Act.put, List.setIfInBounds_toArray, List.set_cons_zero, List.set_cons_succ])
                  refine wpAny_ready (rs := [14]) (by kernel_rfl) (by simp) ?_
                  refine (AllReady.cons (o := { dst := none, op := Op.store 31 (Operand.tmp 42) (Operand.tmp 41), type := 0, pos := "ref.go:42", after := #[{ on := 13, ground := Ground.data }, { on := 12, ground := Ground.data }, { on := 12, ground := Ground.chain }, { on := 0, ground := Ground.phase }, { on := 1, ground := Ground.phase }, { on := 2, ground := Ground.phase }, { on := 3, ground := Ground.phase }, { on := 4, ground := Ground.phase }, { on := 5, ground := Ground.phase }, { on := 6, ground := Ground.phase }, { on := 7, ground := Ground.phase }, { on := 8, ground := Ground.phase }, { on := 9, ground := Ground.phase }, { on := 10, ground := Ground.phase }, { on := 11, ground := Ground.phase }, { on := 12, ground := Ground.phase }], guard := none }) rfl (fun K hK => ?_) AllReady.nil)
                  go_simp
                  refine hK _ _ ?_
                  clear hK K
                  (try simp only [Act.put, List.setIfInBounds_toArray, List.set_cons_zero, List.set_cons_succ])
                  refine wpAny_done (by kernel_rfl) ?_ _
                  go_wp2
                  go_roundg (gk - 1)
                  case measure => have := HK2.out; omega
                  case rel =>
                    refine ⟨q + 1, by congr 1, by omega, ⟨by have := HK2.out; omega⟩, ⟨?_⟩⟩
                    obtain ⟨S9, hz⟩ := HZ9.out
                    rw [← HTK.out] at hz
                    exact ⟨_, S9, hz⟩
                · go_simp
                  refine hK _ _ ?_
                  clear hK K
                  (try simp only [Act.put, List.setIfInBounds_toArray, List.set_cons_zero, List.set_cons_succ])
                  have z0 := pw_cell_below (alloc_below w8 (.cells #[.slice A8 n8 c8] 32)) z0
                  refine wpAny_ready (rs := [1]) (by kernel_rfl) (by simp) ?_
                  refine (AllReady.cons (o := { dst := some 30, op := Op.load 31 (Operand.tmp 29), type := 31, pos := "ref.go:42", after := #[{ on := 0, ground := Ground.data }], guard := none }) rfl (fun K hK => ?_) AllReady.nil)
                  go_simp
                  refine hK _ _ ?_
                  clear hK K
                  (try simp only [Act.put, List.setIfInBounds_toArray, List.set_cons_zero, List.set_cons_succ])
                  refine wpAny_ready (rs := [12]) (by kernel_rfl) (by simp) ?_
                  refine (AllReady.cons (o := { dst := some 41, op := Op.call { callee := Callee.builtin Builtin.append, args := #[Operand.tmp 30, Operand.tmp 40], argTypes := #[31, 31] }, type := 31, pos := "ref.go:42", after := #[{ on := 1, ground := Ground.data }, { on := 11, ground := Ground.data }, { on := 10, ground := Ground.chain }], guard := none }) rfl (fun K hK => ?_) AllReady.nil)
                  refine app_blk_step W1.heap.size S (fun j => some j = (Value.slice A8 n8 c8).ownBlock) (.tmp 30) (.tmp 40) (by rfl) rfl (.slice Aq nq cq) (p.1.take q) x A8 n8 c8 (own_FK HO8.out) (fun j hj e => by have h1 := Kd.N_lt HZ.out.row j e.symm; have h2 := Kd.R_base HO8.out j hj.symm; have h3 : Wq.drew.heap.size = Wq.heap.size := rfl; omega) rfl (by simp [Act.eval]) HZ8.out.row (Nat.le_trans HZ.out.chg.kept.1 HKF8.out.size) HNQ.out ?_
                  intro v9 w9 hN9 hg9
                  obtain ⟨A9, n9, c9, rfl, -, -⟩ := N_open hN9
                  have HZ9 := Aside0.mk (HZ8.out.add (Wq := Wq) (by rw [HS1.out]; omega) HZ.out.chg.kept.1 hN9 hg9 (fun j hj => Kd.R_base HO8.out j hj.symm) (Nat.le_trans HZ.out.chg.kept.1 HKF8.out.size))
                  have hz9 : w9.heap[gz]? = some (.cells #[.slice Aq nq cq, .int .i64 p.2] 55 (0, 0)) := (hg9.block _ HZ8.out.blkEq (fun e => by have := Kd.N_base HZ8.out.row _ e.symm; have := HS1.out; omega)).trans HZ8.out.blk
                  have z9 : w9.cell? ⟨gz, 0, none⟩ = some (.slice Aq nq cq) := by simp [World.cell?, hz9]
                  have zf9 : w9.frozen? ⟨gz, 0, none⟩ = false := by simp [World.frozen?, hz9]
                  have HG9 := Aside0.mk hg9
                  clear hz9 hN9 hg9
                  refine hK _ _ ?_
                  clear hK K
                  (try simp only [Act.put, List.setIfInBounds_toArray, List.set_cons_zero, List.set_cons_succ])
                  refine wpAny_take (i := 13) (oi := { dst := some 42, op := Op.fieldAddr 55 (Operand.tmp 5) 0, type := 0, pos := "ref.go:42", after := #[{ on := 0, ground := Ground.phase }, { on := 1, ground := Ground.phase }, { on := 2, ground := Ground.phase }, { on := 3, ground := Ground.phase }, { on := 4, ground := Ground.phase }, { on := 5, ground := Ground.phase }, { on := 6, ground := Ground.phase }, { on := 7, ground := Ground.phase }, { on := 8, ground := Ground.phase }, { on := 9, ground := Ground.phase }, { on := 10, ground := Ground.phase }, { on := 11, ground := Ground.phase }, { on := 12, ground := Ground.phase }], guard := none }) (v := ?_) rfl (by kernel_rfl) (by kernel_rfl) (by kernel_rfl) (fun _ _ _ h => h) (Or.inl ⟨by rfl, ?_⟩) ?_
                  rotate_left
                  · (intro w; go_simp; (try with_reducible rfl))
                  (try simp only [Act.put, List.setIfInBounds_toArray, List.set_cons_zero, List.set_cons_succ])
                  refine wpAny_ready (rs := [14]) (by kernel_rfl) (by simp) ?_
                  refine (AllReady.cons (o := { dst := none, op := Op.store 31 (Operand.tmp 42) (Operand.tmp 41), type := 0, pos := "ref.go:42", after := #[{ on := 13, ground := Ground.data }, { on := 12, ground := Ground.data }, { on := 12, ground := Ground.chain }, { on := 0, ground := Ground.phase }, { on := 1, ground := Ground.phase }, { on := 2, ground := Ground.phase }, { on := 3, ground := Ground.phase }, { on := 4, ground := Ground.phase }, { on := 5, ground := Ground.phase }, { on := 6, ground := Ground.phase }, { on := 7, ground := Ground.phase }, { on := 8, ground := Ground.phase }, { on := 9, ground := Ground.phase }, { on := 10, ground := Ground.phase }, { on := 11, ground := Ground.phase }, { on := 12, ground := Ground.phase }], guard := none }) rfl (fun K hK => ?_) AllReady.nil)
                  go_simp
                  refine hK _ _ ?_
                  clear hK K
                  (try simp only [Act.put, List.setIfInBounds_toArray, List.set_cons_zero, List.set_cons_succ])
                  refine wpAny_done (by kernel_rfl) ?_ _
                  go_wp2
                  go_roundg (gk - 1)
                  case measure => have := HK2.out; omega
                  case rel =>
                    refine ⟨q + 1, by congr 1, by omega, ⟨by have := HK2.out; omega⟩, ⟨?_⟩⟩
                    obtain ⟨S9, hz⟩ := HZ9.out
                    rw [← HTK.out] at hz
                    exact ⟨_, S9, hz⟩
        · obtain rfl : q = p.1.length := by omega
          have hd1 : decide ((p.1.length : Int) < (p.1.length : Int)) = false := decide_eq_false (by omega)
          clear hB1 hk1
          have hz0 := HZ.out.row
          rw [List.take_length] at hz0
          have HNZ := Kd.N_reads' hz0
          have HFZ := Aside0.mk (show Kd.FK zoneK Wq S (p.1, p.2) [.slice Aq nq cq, .int .i64 p.2] from by
            have h1 := HNZ.1
            have h2 := Kd.N_F hz0
            subst h1
            exact zone_K h2 HNZ.2.1 HI.out)
          have hWq : ∀ k, k < W.heap.size → Wq.heap[k]? = W.heap[k]? := fun k hk => by
            have h4 := HS1.out
            have h5 := HGZ.out
            rw [HZ.out.chg.kept.2 k (by omega) (by omega)]
            exact HB1.out.block k hk
          have HOut := Aside0.mk (Kd.N_step (Kd.N_bound HS.out.1) (fun j hj hlt => hWq j hlt))
          have HTK := Aside0.mk (take_one ([], 0) (by rw [HL.out]; exact hlt) HP.out)
          clear hz0 HNZ hWq
          go_wp2_with (at_builtin; (refine app_zone w.heap.size _ S (.tmp 43) (.tmp 45) rfl rfl u3 (xs.take i) p.1 p.2 Aq nq cq HFZ.out (fun j hj e => by have h1 := (HZ.out.ft j hj).1; have h2 := Kd.N_lt HS.out.1 j e.symm; have h3 := HS1.out; have h4 := HGZ.out; omega) rfl (by simp [Act.eval]) HOut.out HBQ.out.size (by rw [List.length_take]; omega) ?_; intro v9 w9 hN9 hg9); (have HN9 := Aside0.mk hN9; have HG9 := Aside0.mk hg9; clear hN9 hg9))
          clear z0 z1 e0 e1
          go_roundg (g1 - 1)
          case measure => have := HK.out; omega
          case rel =>
            refine ⟨i + 1, by congr 1, by omega, ⟨by have := HK.out; omega⟩, ⟨?_, ?_⟩⟩
            · rw [HTK.out]
              refine Kd.N_mono HN9.out (fun k hk => ?_)
              rcases hk with h1 | h1 | h1
              · exact h1.1
              · have := (HZ.out.ft k h1).1; have h3 := HS1.out; omega
              · have := HBQ.out.size; omega
            · exact HBQ.out.grown HG9.out HBQ.out.size (fun k hk => Kd.N_base HOut.out k hk)
    · obtain rfl : i = n := by omega
      have hd0 : decide ((i : Int) < (i : Int)) = false := decide_eq_false (by omega)
      go_wp2
      go_ret
      have h1 := HS.out.1
      rw [List.take_of_length_le (by rw [HL.out]; omega)] at h1
      exact ⟨_, rfl, Kd.N_bound h1, HS.out.2⟩
end Go.Proofs.Ytmkjglnggkkpeaa.Dv
