/- Zones of a device: all that it holds. -/
import Derived.Test.YtmkjglnggkkpeaaZonesMem
namespace Go.Proofs.Ytmkjglnggkkpeaa.Dv
open Go.RowKit Go.Shelf Go.Proofs.YtmkjglnggkkpeaaW.PrintWords Go.Proofs.YtmkjglnggkkpeaaW.PrintMore Go.Proofs.Ytmkjglnggkkpeaa.Base Go.Proofs.Ytmkjglnggkkpeaa.Shp
set_option linter.unusedVariables false
set_option linter.unusedSimpArgs false
attribute [local go_sem] Oper.semAt_some
/-- What holds at a round's head. -/
structure ZRel (w W : World) (m bn : Nat) (ps : List Prt) (i : Nat) (vo : Value) (ds : List Deferred) (So : Nat → Prop) : Prop where
  le : i ≤ m
  out : Kd.N zoneK 55 W w.heap.size So vo ((ps.take i).map (partZ bn))
  ft : ∀ k, So k → w.heap.size ≤ k ∧ k < W.heap.size ∧ ∀ d ∈ ds, d.target ≠ .collected k
  marks : Marks w.heap.size W ds
  bel : Below w.heap.size w W
def WZ (w : World) (xb m cp bn : Nat) (A0 : Option Addr) (ps : List Prt) (a : Act) (W : World) : Prop :=
  ∃ (i : Nat) (vo : Value) (ds : List Deferred) (u4 u5 u6 u7 u14 u15 u16 u17 u18 u19 u20 u21 u22 u23 u24 u25 u26 u27 u28 u29 u30 u31 u32 u33 u34 u35 u36 u37 u38 u39 u40 u41 : Value), (∃ So, ZRel w W m bn ps i vo ds So) ∧ a = { tmps := #[Value.pointer (some ⟨xb, 0, none⟩), undef, .slice none 0 0, vo, u4, u5, u6, u7, .pointer (some ⟨xb, 0, none⟩), .pointer (some ⟨xb, 0, none⟩), .pointer (some ⟨xb, 4, none⟩), .slice A0 m cp, .int .i64 (m : Int), .int .i64 (i : Int), u14, u15, u16, u17, u18, u19, u20, u21, u22, u23, u24, u25, u26, u27, u28, u29, u30, u31, u32, u33, u34, u35, u36, u37, u38, u39, u40, u41], defers := ds }
def WM (m : Nat) (a : Act) (_ : World) : Nat := m - (intOf (a.tmps.getD 13 undef)).toNat
set_option maxRecDepth 100000 in
set_option maxHeartbeats 4000000 in
theorem zones_calls (xb base : Nat) (ok : Nat → Prop) (z zb r : Int) (bn : Nat) (hb1 : 1 ≤ bn) (hb2 : bn ≤ 4096) (ps : List Prt) (v : Value) (w : World) (h : Dev w xb base ok z zb bn r ps v) (hw : Whole bn 4096 ps) (hn : ps.length ≤ 256) :
    Calls Try.prog 21 #[.pointer (some ⟨xb, 0, none⟩)] w fun e w' => ∃ v', e = .returned v' ∧ Kd.N zoneK 55 w' w.heap.size (fun k => w.heap.size ≤ k ∧ k < w'.heap.size) v' (ps.map (partZ bn)) ∧ Below w.heap.size w w' := by
  have HD := Aside0.mk h
  obtain ⟨-, -, -, -, k4⟩ := h.cells
  obtain ⟨A0, m, cp, rfl, hm, hmc, -, hmm⟩ := h.form
  have HM := Aside0.mk hm
  have HWH := Aside0.mk hw
  clear h hm hw
  refine (callsIn_wide (n := 9)).1 (callsIn_of_wp_marks Try.func21 rfl trivial ?_ rfl)
  refine wpIn_wide.2 ?_
  simp only [Try.ntmps21, List.size_toArray, List.length_cons, List.length_nil, Nat.reduceAdd, Nat.reduceSub, Array.replicate_succ, Array.replicate_zero, List.push_toArray, List.append_toArray, List.nil_append, List.cons_append]
  go_wp2
  clear k4
  refine wp_loop (WZ w xb m cp bn A0 ps) (WM m) ⟨0, .slice none 0 0, [], undef, undef, undef, undef, undef, undef, undef, undef, undef, undef, undef, undef, undef, undef, undef, undef, undef, undef, undef, undef, undef, undef, undef, undef, undef, undef, undef, undef, undef, undef, undef, undef, ⟨fun _ => False, Nat.zero_le _, Kd.N_nil _ _ _ _ _, fun _ h => h.elim, trivial, Below.refl _ _⟩, rfl⟩ ?_
  rintro a W ⟨i, vo, ds, u4, hI⟩
  obtain ⟨u5, hI⟩ := hI
  obtain ⟨u6, hI⟩ := hI
  obtain ⟨u7, u14, u15, u16, u17, u18, u19, u20, hI⟩ := hI
  obtain ⟨u21, u22, u23, u24, u25, u26, u27, u28, hI⟩ := hI
  obtain ⟨u29, u30, u31, u32, u33, u34, u35, u36, hI⟩ := hI
  obtain ⟨u37, u38, u39, u40, u41, ⟨So, hrel⟩, rfl⟩ := hI
  have hle := hrel.le
  have HR := Aside0.mk hrel
  have HDW := Aside0.mk (HD.out.below hrel.bel)
  clear hrel
  by_cases hlt : i < m
  · obtain ⟨p, hp⟩ : ∃ p, ps.getD i ([], 0) = p := ⟨_, rfl⟩
    obtain ⟨-, -, k2, -, k4⟩ := HDW.out.cells
    obtain ⟨ad, cp', B, k, oki, hv, c0, c1, hk, hI, hB, f0, f1, hoa, hax, hal, hR, hoki, -, -⟩ := HDW.out.part (j := i) (by rw [← HM.out]; exact hlt) hp
    obtain ⟨rfl, rfl⟩ : A0 = some ad ∧ cp = cp' := by simp only [Value.slice.injEq] at hv; exact ⟨hv.1, hv.2.2⟩
    have HP := Aside0.mk hp
    have HI := Aside0.mk hI
    obtain ⟨cnt, hcnt4, hlen⟩ := HWH.out.get (i := i) (by rw [← HM.out]; exact hlt)
    rw [hp] at hlen
    have HLEN := Aside0.mk hlen
    have hpm : p.1.length ≤ 100000000 := by
      have : cnt * bn ≤ 4096 * 4096 := Nat.mul_le_mul hcnt4 hb2
      omega
    have K2 := Aside0.mk k2
    have K4 := Aside0.mk k4
    have hlt' : (i : Int) < (m : Int) := by omega
    have hd0 : decide ((i : Int) < (m : Int)) = true := decide_eq_true hlt'
    have HCAP := Aside0.mk hk
    have HRB := Aside0.mk (Kd.R_bound hR)
    clear hp hv hI hB hR hoki hlen f0 f1 hoa hax hal
    go_wp2
    obtain ⟨W2, hW2⟩ : ∃ W2, (W.alloc (.cells #[.slice B p.1.length k, .int .i64 p.2] 73)).alloc (.cells #[.slice none 0 0, .int .i64 p.2] 55) = W2 := ⟨_, rfl⟩
    obtain ⟨gp, hgp⟩ : ∃ gp, W.heap.size = gp := ⟨_, rfl⟩
    have hb2w : Below W.heap.size W W2 := by rw [← hW2]; exact ((Below.refl _ _).alloc (Nat.le_refl _) _).alloc (by simp) _
    have hs2 : W2.heap.size = gp + 2 := by rw [← hW2, ← hgp]; simp
    have p0 : W2.cell? ⟨gp, 0, none⟩ = some (.slice B p.1.length k) := by rw [← hW2, ← hgp]; exact (pw_cell_below (alloc_below _ _) (part_cells rfl (blk_here rfl)).1)
    have hbz : W2.heap[gp + 1]? = some (.cells #[.slice none 0 0, .int .i64 p.2] 55 (0, 0)) := by rw [← hW2, ← hgp]; exact blk_here (by simp)
    have k2 := pw_cell_below hb2w k2
    rw [hW2, hgp]
    have HB2 := Aside0.mk hb2w
    have HS2 := Aside0.mk hs2
    have HBZ := Aside0.mk hbz
    have HGP := Aside0.mk hgp
    have HD2 := Aside0.mk (HDW.out.below hb2w)
    clear hW2 hgp hb2w hs2 hbz c0 c1 k4 hk
    go_region_held3 (fun w' => w'.cell? ⟨gp, 0, none⟩ = some (.slice B p.1.length k) ∧ w'.cell? ⟨xb, 2, none⟩ = some (.int .i64 (bn : Int)))
      (first | exact ⟨p0, k2⟩ | exact ⟨pw_cell_below (((Below.refl _ _).alloc (Nat.le_refl _) _).alloc (by simp) _) p0, pw_cell_below (((Below.refl _ _).alloc (Nat.le_refl _) _).alloc (by simp) _) k2⟩)
      (first | (go_at_call 43; (with_reducible refine (chunk_calls B p.1.length k (bn : Int) (by omega) _).mono ?_); rintro e w8 ⟨rfl, rfl⟩))
    go_wp2
    obtain ⟨gb, hgb⟩ : ∃ gb, W2.heap.size = gb := ⟨_, rfl⟩
    obtain ⟨W3, hW3⟩ : ∃ W3, ((W2.alloc (.cells #[.slice B p.1.length k] 32)).alloc (.cells #[.int .i64 (bn : Int)] 3)).drew = W3 := ⟨_, rfl⟩
    have hb3 : Below W2.heap.size W2 W3 := by rw [← hW3]; exact below_drew (((Below.refl _ _).alloc (Nat.le_refl _) _).alloc (by simp) _)
    have hs3 : W3.heap.size = gb + 2 := by
      rw [← hW3, ← hgb]
      show ((W2.alloc (.cells #[.slice B p.1.length k] 32)).alloc (.cells #[.int .i64 (bn : Int)] 3)).heap.size = _
      simp
    have bx0 : W3.cell? ⟨gb, 0, none⟩ = some (.slice B p.1.length k) := by
      rw [← hW3, ← hgb]
      show ((W2.alloc (.cells #[.slice B p.1.length k] 32)).alloc (.cells #[.int .i64 (bn : Int)] 3)).cell? _ = _
      go_simp
    have bx1 : W3.cell? ⟨gb + 1, 0, none⟩ = some (.int .i64 (bn : Int)) := by
      rw [← hW3, ← hgb]
      show ((W2.alloc (.cells #[.slice B p.1.length k] 32)).alloc (.cells #[.int .i64 (bn : Int)] 3)).cell? _ = _
      go_simp
    rw [hgb, hW3]
    have HGB := Aside0.mk (show gb = gp + 2 by rw [← hgb]; exact HS2.out)
    have HB3 := Aside0.mk hb3
    have HS3 := Aside0.mk hs3
    have HBZ3 := Aside0.mk (show W3.heap[gp + 1]? = some (.cells #[.slice none 0 0, .int .i64 p.2] 55 (0, 0)) from (hb3.block _ (by rw [HS2.out]; omega)).trans HBZ.out)
    have HD3 := Aside0.mk (((HDW.out.tight (ok' := fun j => ok j ∧ j < W.heap.size) (fun j hj h1 h2 => ⟨hj, h2⟩)).below HB2.out).below hb3)
    have HBX := Aside0.mk (And.intro bx0 bx1)
    clear hgb hW3 hb3 hs3 bx0 bx1 p0 k2
    refine (wpIn_wide (n := 9)).1 ?_
    refine wpIn_rangeFunc_ownG (α := Fin cnt) rfl (by decide) (gf := 51) (lb := #[.pointer (some ⟨gb, 0, none⟩), .pointer (some ⟨gb + 1, 0, none⟩)]) rfl trivial (enters_of Try.func51 (by kernel_rfl) rfl)
      (chunk_stops _ gb B p.1.length k bn cnt hb1 HLEN.out HCAP.out hpm W3 (by rw [HS3.out]; omega) HBX.out.1 HBX.out.2) KpB.trans ?hKb (Below.refl _ _) (fun _ => rfl)
      (fun pre Wx => ∃ vz S, ZI W3 Wx (gp + 1) p.2 vz (pre.map fun x => piece bn p.1 x.1) S) (fun _ _ _ => False)
      (fun s A B row hs hg hr => by obtain ⟨vz, S, hz⟩ := hs; exact ⟨vz, S, hz.grown (by rw [HS3.out, HGB.out]; omega) hg hr⟩)
      (fun _ _ _ _ _ hs _ _ => hs) ⟨.slice none 0 0, fun _ => False, HBZ3.out, Kd.N_nil _ _ _ _ _, fun _ h => h.elim, Chg.refl _ _⟩ ?a1 ?assign ?body ?done ?stop
    case assign =>
      intro l x Wx K hK
      gi_wp2
      exact hK
    case hKb =>
      intro Wx l o o' hl ho _ _ j hj
      have hlt := (Array.getElem?_eq_some_iff.1 ho).1
      have := HS3.out
      exact (grownBy_putObj' Wx l o').block j (by omega) (fun e => by injection e with e; omega)
    case body =>
      rintro l pre x Wq ⟨vq, S, hz⟩ hlen
      have HZ := Aside0.mk hz
      clear hz
      have hgl : gp + 1 < W3.heap.size := by rw [HS3.out, HGB.out]; omega
      have hxg : xb ≠ gp + 1 := by
        have h1 := (Array.getElem?_eq_some_iff.1 HDW.out.blk).1
        have h2 := HGP.out
        omega
      have hcap : p.1.length ≤ k ∧ byte.C Wq B p.1.length p.1 := by
        have h1 := Kd.R_below (Kd.R_below HRB.out HB2.out) HB3.out
        have h2 := Kd.R_kept h1 HZ.out.chg.kept (fun j hj e => by have := hj.2.2.1; have := HGP.out; omega)
        have h3 := Kd.R_reads' h2
        exact ⟨h3.2.1, h3.2.2⟩
      have hxl : x.1 * bn + bn ≤ p.1.length := by
        rw [HLEN.out, ← Nat.succ_mul]
        exact Nat.mul_le_mul_right bn x.2
      have HPC := Aside0.mk (show byte.C Wq (B.map (·.add (x.1 * bn))) bn (piece bn p.1 x.1) from by
        have h1 := C_drop hcap.2 hcap.1 (x.1 * bn) (by omega)
        rw [if_neg (by have := hcap.1; omega)] at h1
        have h2 := C_take h1 bn (by omega)
        rw [show x.1 * bn * byte.sz = x.1 * bn from Nat.mul_one _] at h2
        exact h2)
      obtain ⟨Aq, nq, cq, rfl, -, hCq⟩ := N_open HZ.out.row
      have HNQ := Aside0.mk (show (pre.map fun x => piece bn p.1 x.1).length ≤ 100000 by rw [List.length_map]; omega)
      obtain ⟨z0, -, zf, -⟩ : Wq.cell? ⟨gp + 1, 0, none⟩ = some (.slice Aq nq cq) ∧ Wq.cell? ⟨gp + 1, 1, none⟩ = some (.int .i64 p.2) ∧ Wq.frozen? ⟨gp + 1, 0, none⟩ = false ∧ Wq.frozen? ⟨gp + 1, 1, none⟩ = false := by
        have := HZ.out.blk
        exact ⟨by simp [World.cell?, this], by simp [World.cell?, this], by simp [World.frozen?, this], by simp [World.frozen?, this]⟩
      have HZ0 := Aside0.mk z0
      clear hcap hCq zf hxg
      gi_wp2
      refine Brg.region_in (by kernel_rfl) (by simp) (by rintro ⟨a, w, h⟩; exact h) ?_
      unfold chunkV
      refine wpAny_take (i := 0) (oi := { dst := some 29, op := Op.fieldAddr 55 (Operand.tmp 6) 0, type := 0, pos := "zone.go:154", after := #[], guard := none }) (v := ?_) rfl (by kernel_rfl) (by kernel_rfl) (by kernel_rfl) (fun _ _ _ h => h) (Or.inl ⟨by rfl, ?_⟩) ?_
      rotate_left
      · (intro w; go_simp; (try with_reducible rfl))
      (try simp only [Act.put, List.setIfInBounds_toArray, List.set_cons_zero, List.set_cons_succ])
      refine wpAny_take (i := 2) (oi := { dst := some 31, op := Op.move (Operand.tmp 7), type := 32, pos := "zone.go:154", after := #[], guard := none }) (v := ?_) rfl (by kernel_rfl) (by kernel_rfl) (by kernel_rfl) (fun _ _ _ h => h) (Or.inl ⟨by rfl, ?_⟩) ?_
      rotate_left
      · (intro w; go_simp; (try with_reducible rfl))
      (try simp only [Act.put, List.setIfInBounds_toArray, List.set_cons_zero, List.set_cons_succ])
      refine wpAny_ready (rs := [1, 3]) (by kernel_rfl) (by simp) ?_
      refine AllReady.cons (o := { dst := some 30, op := Op.load 31 (Operand.tmp 29), type := 31, pos := "zone.go:154", after := #[{ on := 0, ground := Ground.data }], guard := none }) rfl (fun K hK => ?_) (AllReady.cons (o := { dst := some 32, op := Op.call { callee := Callee.value (Operand.func 36), args := #[Operand.tmp 31], argTypes := #[32] }, type := 32, pos := "zone.go:154", after := #[{ on := 2, ground := Ground.data }], guard := none }) rfl (fun K hK => ?_) AllReady.nil)
      · go_simp
        refine hK _ _ ?_
        clear hK K
        (try simp only [Act.put, List.setIfInBounds_toArray, List.set_cons_zero, List.set_cons_succ])
        refine wpAny_ready (rs := [3]) (by kernel_rfl) (by simp) ?_
        refine AllReady.cons (o := { dst := some 32, op := Op.call { callee := Callee.value (Operand.func 36), args := #[Operand.tmp 31], argTypes := #[32] }, type := 32, pos := "zone.go:154", after := #[{ on := 2, ground := Ground.data }], guard := none }) rfl (fun K hK => ?_) AllReady.nil
        go_simp
        refine (clone_calls _ bn bn _ (by omega) _ (Kd.C_below HPC.out (below_drew (Below.refl _ _)))).mono ?_
        rintro e w8 ⟨v8, rfl, hO8, hw8⟩
        obtain ⟨A8, n8, c8, rfl, -, hC8⟩ := hO8.reads
        have HO8 := Aside0.mk hO8
        have hb8 : Below Wq.heap.size Wq w8 := Below.trans (below_drew (Below.refl _ _)) hw8
        have HZ8 := Aside0.mk (HZ.out.below hgl hb8)
        have HKF8 := Aside0.mk hb8
        have z0 := pw_cell_below hb8 HZ0.out
        clear hO8 hw8 hC8 hb8
        refine hK _ _ ?_
        clear hK K
        (try simp only [Act.put, List.setIfInBounds_toArray, List.set_cons_zero, List.set_cons_succ])
        refine wpAny_ready (rs := [4]) (by kernel_rfl) (by simp) ?_
        refine AllReady.cons (o := { dst := some 33, op := Op.buildSlice 31 1 #[(0, Operand.tmp 32)], type := 31, pos := "zone.go:154", after := #[{ on := 3, ground := Ground.data }], guard := none }) rfl (fun K hK => ?_) AllReady.nil
        go_simp
        refine hK _ _ ?_
        clear hK K
        (try simp only [Act.put, List.setIfInBounds_toArray, List.set_cons_zero, List.set_cons_succ])
        refine wpAny_ready (rs := [5]) (by kernel_rfl) (by simp) ?_
        refine AllReady.cons (o := { dst := some 34, op := Op.call { callee := Callee.builtin Builtin.append, args := #[Operand.tmp 30, Operand.tmp 33], argTypes := #[31, 31] }, type := 31, pos := "zone.go:154", after := #[{ on := 1, ground := Ground.data }, { on := 4, ground := Ground.data }, { on := 3, ground := Ground.chain }], guard := none }) rfl (fun K hK => ?_) AllReady.nil
        refine app_blk_step W3.heap.size S (fun j => some j = (Value.slice A8 n8 c8).ownBlock) (.tmp 30) (.tmp 33) (by rfl) rfl (.slice Aq nq cq) (pre.map fun x => piece bn p.1 x.1) (piece bn p.1 x.1) A8 n8 c8 (own_FK HO8.out) (fun j hj e => by have h1 := Kd.N_lt HZ.out.row j e.symm; have h2 := Kd.R_base HO8.out j hj.symm; have h3 : Wq.drew.heap.size = Wq.heap.size := rfl; omega) rfl (by simp [Act.eval]) HZ8.out.row (Nat.le_trans HZ.out.chg.kept.1 HKF8.out.size) HNQ.out ?_
        intro v9 w9 hN9 hg9
        obtain ⟨A9, n9, c9, rfl, -, -⟩ := N_open hN9
        have HZ9 := Aside0.mk (HZ8.out.add (Wq := Wq) hgl HZ.out.chg.kept.1 hN9 hg9 (fun j hj => Kd.R_base HO8.out j hj.symm) (Nat.le_trans HZ.out.chg.kept.1 HKF8.out.size))
        have hz9 : w9.heap[gp + 1]? = some (.cells #[.slice Aq nq cq, .int .i64 p.2] 55 (0, 0)) := (hg9.block _ HZ8.out.blkEq (fun e => by have := Kd.N_base HZ8.out.row _ e.symm; omega)).trans HZ8.out.blk
        have z9 : w9.cell? ⟨gp + 1, 0, none⟩ = some (.slice Aq nq cq) := by simp [World.cell?, hz9]
        have zf9 : w9.frozen? ⟨gp + 1, 0, none⟩ = false := by simp [World.frozen?, hz9]
        have HG9 := Aside0.mk hg9
        clear hz9 hN9 hg9
        refine hK _ _ ?_
        clear hK K
        (try simp only [Act.put, List.setIfInBounds_toArray, List.set_cons_zero, List.set_cons_succ])
        refine wpAny_take (i := 6) (oi := { dst := some 35, op := Op.fieldAddr 55 (Operand.tmp 6) 0, type := 0, pos := "zone.go:154", after := #[{ on := 0, ground := Ground.phase }, { on := 1, ground := Ground.phase }, { on := 2, ground := Ground.phase }, { on := 3, ground := Ground.phase }, { on := 4, ground := Ground.phase }, { on := 5, ground := Ground.phase }], guard := none }) (v := ?_) rfl (by kernel_rfl) (by kernel_rfl) (by kernel_rfl) (fun _ _ _ h => h) (Or.inl ⟨by rfl, ?_⟩) ?_
        rotate_left
        · (intro w; go_simp; (try with_reducible rfl))
        (try simp only [Act.put, List.setIfInBounds_toArray, List.set_cons_zero, List.set_cons_succ])
        refine wpAny_ready (rs := [7]) (by kernel_rfl) (by simp) ?_
        refine AllReady.cons (o := { dst := none, op := Op.store 31 (Operand.tmp 35) (Operand.tmp 34), type := 0, pos := "zone.go:154", after := #[{ on := 6, ground := Ground.data }, { on := 5, ground := Ground.data }, { on := 5, ground := Ground.chain }, { on := 0, ground := Ground.phase }, { on := 1, ground := Ground.phase }, { on := 2, ground := Ground.phase }, { on := 3, ground := Ground.phase }, { on := 4, ground := Ground.phase }, { on := 5, ground := Ground.phase }], guard := none }) rfl (fun K hK => ?_) AllReady.nil
        go_simp
        refine hK _ _ ?_
        clear hK K
        (try simp only [Act.put, List.setIfInBounds_toArray, List.set_cons_zero, List.set_cons_succ])
        refine wpAny_done (by kernel_rfl) ?_ _
        obtain ⟨S9, hz⟩ := HZ9.out
        have hkk : KeepsOthers Wq (w9.setCell ⟨gp + 1, 0, none⟩ (.slice A9 n9 c9)) := ((KeepsOthers.of_grownBy (row := none) ⟨HKF8.out.os, HKF8.out.tape, HKF8.out.output, HKF8.out.size, fun k hk _ => HKF8.out.block k hk⟩ (fun j o e => by cases e)).trans (KeepsOthers.of_grownBy HG9.out (fun j o e ho => by obtain ⟨cells, hc⟩ := Kd.N_typed HZ8.out.row j e; rw [hc] at ho; injection ho with ho; rw [← ho]; rfl))).trans (KeepsOthers.setCell _ _ _)
        refine ⟨hkk.from _, fun j hj => ?_, ⟨_, S9, by rw [List.map_append]; exact hz⟩⟩
        have hj3 : j < W3.heap.size ∧ j ≠ gp + 1 := by have := HS3.out; have := HGB.out; omega
        rw [Below.heap_setCell _ _ _ _ hj3.2, HG9.out.block j (by have := HZ.out.chg.kept.1; have := HKF8.out.size; omega) (fun e => by have := Kd.N_base HZ8.out.row j e.symm; omega)]
        exact HKF8.out.block j (by have := HZ.out.chg.kept.1; omega)
      · go_simp
        refine (clone_calls _ bn bn _ (by omega) _ (Kd.C_below HPC.out (below_drew (Below.refl _ _)))).mono ?_
        rintro e w8 ⟨v8, rfl, hO8, hw8⟩
        obtain ⟨A8, n8, c8, rfl, -, hC8⟩ := hO8.reads
        have HO8 := Aside0.mk hO8
        have hb8 : Below Wq.heap.size Wq w8 := Below.trans (below_drew (Below.refl _ _)) hw8
        have HZ8 := Aside0.mk (HZ.out.below hgl hb8)
        have HKF8 := Aside0.mk hb8
        have z0 := pw_cell_below hb8 HZ0.out
        clear hO8 hw8 hC8 hb8
        refine hK _ _ ?_
        clear hK K
        (try simp only [Act.put, List.setIfInBounds_toArray, List.set_cons_zero, List.set_cons_succ])
        refine wpAny_ready (rs := [1, 4]) (by kernel_rfl) (by simp) ?_
        refine AllReady.cons (o := { dst := some 30, op := Op.load 31 (Operand.tmp 29), type := 31, pos := "zone.go:154", after := #[{ on := 0, ground := Ground.data }], guard := none }) rfl (fun K hK => ?_) (AllReady.cons (o := { dst := some 33, op := Op.buildSlice 31 1 #[(0, Operand.tmp 32)], type := 31, pos := "zone.go:154", after := #[{ on := 3, ground := Ground.data }], guard := none }) rfl (fun K hK => ?_) AllReady.nil)
        · go_simp
          refine hK _ _ ?_
          clear hK K
          (try simp only [Act.put, List.setIfInBounds_toArray, List.set_cons_zero, List.set_cons_succ])
          refine wpAny_ready (rs := [4]) (by kernel_rfl) (by simp) ?_
          refine AllReady.cons (o := { dst := some 33, op := Op.buildSlice 31 1 #[(0, Operand.tmp 32)], type := 31, pos := "zone.go:154", after := #[{ on := 3, ground := Ground.data }], guard := none }) rfl (fun K hK => ?_) AllReady.nil
          go_simp
          refine hK _ _ ?_
          clear hK K
          (try simp only [Act.put, List.setIfInBounds_toArray, List.set_cons_zero, List.set_cons_succ])
          refine wpAny_ready (rs := [5]) (by kernel_rfl) (by simp) ?_
          refine AllReady.cons (o := { dst := some 34, op := Op.call { callee := Callee.builtin Builtin.append, args := #[Operand.tmp 30, Operand.tmp 33], argTypes := #[31, 31] }, type := 31, pos := "zone.go:154", after := #[{ on := 1, ground := Ground.data }, { on := 4, ground := Ground.data }, { on := 3, ground := Ground.chain }], guard := none }) rfl (fun K hK => ?_) AllReady.nil
          refine app_blk_step W3.heap.size S (fun j => some j = (Value.slice A8 n8 c8).ownBlock) (.tmp 30) (.tmp 33) (by rfl) rfl (.slice Aq nq cq) (pre.map fun x => piece bn p.1 x.1) (piece bn p.1 x.1) A8 n8 c8 (own_FK HO8.out) (fun j hj e => by have h1 := Kd.N_lt HZ.out.row j e.symm; have h2 := Kd.R_base HO8.out j hj.symm; have h3 : Wq.drew.heap.size = Wq.heap.size := rfl; omega) rfl (by simp [Act.eval]) HZ8.out.row (Nat.le_trans HZ.out.chg.kept.1 HKF8.out.size) HNQ.out ?_
          intro v9 w9 hN9 hg9
          obtain ⟨A9, n9, c9, rfl, -, -⟩ := N_open hN9
          have HZ9 := Aside0.mk (HZ8.out.add (Wq := Wq) hgl HZ.out.chg.kept.1 hN9 hg9 (fun j hj => Kd.R_base HO8.out j hj.symm) (Nat.le_trans HZ.out.chg.kept.1 HKF8.out.size))
          have hz9 : w9.heap[gp + 1]? = some (.cells #[.slice Aq nq cq, .int .i64 p.2] 55 (0, 0)) := (hg9.block _ HZ8.out.blkEq (fun e => by have := Kd.N_base HZ8.out.row _ e.symm; omega)).trans HZ8.out.blk
          have z9 : w9.cell? ⟨gp + 1, 0, none⟩ = some (.slice Aq nq cq) := by simp [World.cell?, hz9]
          have zf9 : w9.frozen? ⟨gp + 1, 0, none⟩ = false := by simp [World.frozen?, hz9]
          have HG9 := Aside0.mk hg9
          clear hz9 hN9 hg9
          refine hK _ _ ?_
          clear hK K
          (try simp only [Act.put, List.setIfInBounds_toArray, List.set_cons_zero, List.set_cons_succ])
          refine wpAny_take (i := 6) (oi := { dst := some 35, op := Op.fieldAddr 55 (Operand.tmp 6) 0, type := 0, pos := "zone.go:154", after := #[{ on := 0, ground := Ground.phase }, { on := 1, ground := Ground.phase }, { on := 2, ground := Ground.phase }, { on := 3, ground := Ground.phase }, { on := 4, ground := Ground.phase }, { on := 5, ground := Ground.phase }], guard := none }) (v := ?_) rfl (by kernel_rfl) (by kernel_rfl) (by kernel_rfl) (fun _ _ _ h => h) (Or.inl ⟨by rfl, ?_⟩) ?_
          rotate_left
          · (intro w; go_simp; (try with_reducible rfl))
          (try simp only [Act.put, List.setIfInBounds_toArray, List.set_cons_zero, List.set_cons_succ])
          refine wpAny_ready (rs := [7]) (by kernel_rfl) (by simp) ?_
          refine AllReady.cons (o := { dst := none, op := Op.store 31 (Operand.tmp 35) (Operand.tmp 34), type := 0, pos := "zone.go:154", after := #[{ on := 6, ground := Ground.data }, { on := 5, ground := Ground.data }, { on := 5, ground := Ground.chain }, { on := 0, ground := Ground.phase }, { on := 1, ground := Ground.phase }, { on := 2, ground := Ground.phase }, { on := 3, ground := Ground.phase }, { on := 4, ground := Ground.phase }, { on := 5, ground := Ground.phase }], guard := none }) rfl (fun K hK => ?_) AllReady.nil
          go_simp
          refine hK _ _ ?_
          clear hK K
          (try simp only [Act.put, List.setIfInBounds_toArray, List.set_cons_zero, List.set_cons_succ])
          refine wpAny_done (by kernel_rfl) ?_ _
          obtain ⟨S9, hz⟩ := HZ9.out
          have hkk : KeepsOthers Wq (w9.setCell ⟨gp + 1, 0, none⟩ (.slice A9 n9 c9)) := ((KeepsOthers.of_grownBy (row := none) ⟨HKF8.out.os, HKF8.out.tape, HKF8.out.output, HKF8.out.size, fun k hk _ => HKF8.out.block k hk⟩ (fun j o e => by cases e)).trans (KeepsOthers.of_grownBy HG9.out (fun j o e ho => by obtain ⟨cells, hc⟩ := Kd.N_typed HZ8.out.row j e; rw [hc] at ho; injection ho with ho; rw [← ho]; rfl))).trans (KeepsOthers.setCell _ _ _)
          refine ⟨hkk.from _, fun j hj => ?_, ⟨_, S9, by rw [List.map_append]; exact hz⟩⟩
          have hj3 : j < W3.heap.size ∧ j ≠ gp + 1 := by have := HS3.out; have := HGB.out; omega
          rw [Below.heap_setCell _ _ _ _ hj3.2, HG9.out.block j (by have := HZ.out.chg.kept.1; have := HKF8.out.size; omega) (fun e => by have := Kd.N_base HZ8.out.row j e.symm; omega)]
          exact HKF8.out.block j (by have := HZ.out.chg.kept.1; omega)
        · go_simp
          refine hK _ _ ?_
          clear hK K
          (try simp only [Act.put, List.setIfInBounds_toArray, List.set_cons_zero, List.set_cons_succ])
          refine wpAny_ready (rs := [1]) (by kernel_rfl) (by simp) ?_
          refine AllReady.cons (o := { dst := some 30, op := Op.load 31 (Operand.tmp 29), type := 31, pos := "zone.go:154", after := #[{ on := 0, ground := Ground.data }], guard := none }) rfl (fun K hK => ?_) AllReady.nil
          have z0 := pw_cell_below (alloc_below w8 (.cells #[.slice A8 n8 c8] 32)) z0
          go_simp
          refine hK _ _ ?_
          clear hK K
          (try simp only [Act.put, List.setIfInBounds_toArray, List.set_cons_zero, List.set_cons_succ])
          refine wpAny_ready (rs := [5]) (by kernel_rfl) (by simp) ?_
          refine AllReady.cons (o := { dst := some 34, op := Op.call { callee := Callee.builtin Builtin.append, args := #[Operand.tmp 30, Operand.tmp 33], argTypes := #[31, 31] }, type := 31, pos := "zone.go:154", after := #[{ on := 1, ground := Ground.data }, { on := 4, ground := Ground.data }, { on := 3, ground := Ground.chain }], guard := none }) rfl (fun K hK => ?_) AllReady.nil
          refine app_blk_step W3.heap.size S (fun j => some j = (Value.slice A8 n8 c8).ownBlock) (.tmp 30) (.tmp 33) (by rfl) rfl (.slice Aq nq cq) (pre.map fun x => piece bn p.1 x.1) (piece bn p.1 x.1) A8 n8 c8 (own_FK HO8.out) (fun j hj e => by have h1 := Kd.N_lt HZ.out.row j e.symm; have h2 := Kd.R_base HO8.out j hj.symm; have h3 : Wq.drew.heap.size = Wq.heap.size := rfl; omega) rfl (by simp [Act.eval]) HZ8.out.row (Nat.le_trans HZ.out.chg.kept.1 HKF8.out.size) HNQ.out ?_
          intro v9 w9 hN9 hg9
          obtain ⟨A9, n9, c9, rfl, -, -⟩ := N_open hN9
          have HZ9 := Aside0.mk (HZ8.out.add (Wq := Wq) hgl HZ.out.chg.kept.1 hN9 hg9 (fun j hj => Kd.R_base HO8.out j hj.symm) (Nat.le_trans HZ.out.chg.kept.1 HKF8.out.size))
          have hz9 : w9.heap[gp + 1]? = some (.cells #[.slice Aq nq cq, .int .i64 p.2] 55 (0, 0)) := (hg9.block _ HZ8.out.blkEq (fun e => by have := Kd.N_base HZ8.out.row _ e.symm; omega)).trans HZ8.out.blk
          have z9 : w9.cell? ⟨gp + 1, 0, none⟩ = some (.slice Aq nq cq) := by simp [World.cell?, hz9]
          have zf9 : w9.frozen? ⟨gp + 1, 0, none⟩ = false := by simp [World.frozen?, hz9]
          have HG9 := Aside0.mk hg9
          clear hz9 hN9 hg9
          refine hK _ _ ?_
          clear hK K
          (try simp only [Act.put, List.setIfInBounds_toArray, List.set_cons_zero, List.set_cons_succ])
          refine wpAny_take (i := 6) (oi := { dst := some 35, op := Op.fieldAddr 55 (Operand.tmp 6) 0, type := 0, pos := "zone.go:154", after := #[{ on := 0, ground := Ground.phase }, { on := 1, ground := Ground.phase }, { on := 2, ground := Ground.phase }, { on := 3, ground := Ground.phase }, { on := 4, ground := Ground.phase }, { on := 5, ground := Ground.phase }], guard := none }) (v := ?_) rfl (by kernel_rfl) (by kernel_rfl) (by kernel_rfl) (fun _ _ _ h => h) (Or.inl ⟨by rfl, ?_⟩) ?_
          rotate_left
          · (intro w; go_simp; (try with_reducible rfl))
          (try simp only [Act.put, List.setIfInBounds_toArray, List.set_cons_zero, List.set_cons_succ])
          refine wpAny_ready (rs := [7]) (by kernel_rfl) (by simp) ?_
          refine AllReady.cons (o := { dst := none, op := Op.store 31 (Operand.tmp 35) (Operand.tmp 34), type := 0, pos := "zone.go:154", after := #[{ on := 6, ground := Ground.data }, { on := 5, ground := Ground.data }, { on := 5, ground := Ground.chain }, { on := 0, ground := Ground.phase }, { on := 1, ground := Ground.phase }, { on := 2, ground := Ground.phase }, { on := 3, ground := Ground.phase }, { on := 4, ground := Ground.phase }, { on := 5, ground := Ground.phase }], guard := none }) rfl (fun K hK => ?_) AllReady.nil
          go_simp
          refine hK _ _ ?_
          clear hK K
          (try simp only [Act.put, List.setIfInBounds_toArray, List.set_cons_zero, List.set_cons_succ])
          refine wpAny_done (by kernel_rfl) ?_ _
          obtain ⟨S9, hz⟩ := HZ9.out
          have hkk : KeepsOthers Wq (w9.setCell ⟨gp + 1, 0, none⟩ (.slice A9 n9 c9)) := ((KeepsOthers.of_grownBy (row := none) ⟨HKF8.out.os, HKF8.out.tape, HKF8.out.output, HKF8.out.size, fun k hk _ => HKF8.out.block k hk⟩ (fun j o e => by cases e)).trans (KeepsOthers.of_grownBy HG9.out (fun j o e ho => by obtain ⟨cells, hc⟩ := Kd.N_typed HZ8.out.row j e; rw [hc] at ho; injection ho with ho; rw [← ho]; rfl))).trans (KeepsOthers.setCell _ _ _)
          refine ⟨hkk.from _, fun j hj => ?_, ⟨_, S9, by rw [List.map_append]; exact hz⟩⟩
          have hj3 : j < W3.heap.size ∧ j ≠ gp + 1 := by have := HS3.out; have := HGB.out; omega
          rw [Below.heap_setCell _ _ _ _ hj3.2, HG9.out.block j (by have := HZ.out.chg.kept.1; have := HKF8.out.size; omega) (fun e => by have := Kd.N_base HZ8.out.row j e.symm; omega)]
          exact HKF8.out.block j (by have := HZ.out.chg.kept.1; omega)
    case done =>
      rintro D xs Wd hD rfl ⟨vz, S, hz⟩ hK
      have HZ := Aside0.mk hz
      have HK := Aside0.mk hK
      obtain ⟨Az, nz, cz, rfl, hcz, -⟩ := N_open hz.row
      have hzb := hz.blk
      obtain ⟨z0, z1⟩ : Wd.cell? ⟨gp + 1, 0, none⟩ = some (.slice Az nz cz) ∧ Wd.cell? ⟨gp + 1, 1, none⟩ = some (.int .i64 p.2) := ⟨by simp [World.cell?, hzb], by simp [World.cell?, hzb]⟩
      clear hz hK hzb
      have hWd : ∀ j, j < W.heap.size → Wd.heap[j]? = W.heap[j]? := fun j hj => by
        have h1 := HGP.out
        have h2 := HS2.out
        have h3 := HGB.out
        have h4 := HS3.out
        rw [HZ.out.chg.kept.2 j (by omega) (by omega), HB3.out.block j (by omega)]
        exact HB2.out.block j hj
      have HWD := Aside0.mk hWd
      have HWS := Aside0.mk (show W.heap.size ≤ W3.heap.size ∧ W3.heap.size ≤ Wd.heap.size from ⟨by have h1 := HGP.out; have h3 := HGB.out; have h4 := HS3.out; omega, HZ.out.chg.kept.1⟩)
      have HOut := Aside0.mk (Kd.N_step HR.out.out (fun j hj hlt => HWD.out j hlt))
      have HSW := Aside0.mk HR.out.bel.size
      have HNZ := Aside0.mk (Kd.N_reads' HZ.out.row)
      have HFZ := Aside0.mk (show Kd.FK zoneK Wd S (((List.finRange cnt).map fun x => piece bn p.1 x.1), p.2) [.slice Az nz cz, .int .i64 p.2] from by
        have h1 := HNZ.out.1
        have h2 := Kd.N_F HZ.out.row
        subst h1
        exact zone_K h2 HNZ.out.2.1 HI.out)
      clear hWd
      go_wp2_with (at_builtin; (refine app_zone w.heap.size So S (.tmp 36) (.tmp 38) rfl rfl vo ((ps.take i).map (partZ bn)) ((List.finRange cnt).map fun x => piece bn p.1 x.1) p.2 Az nz cz HFZ.out (fun j hj e => by have h1 := (HZ.out.ft j hj).1; have h2 := Kd.N_lt HR.out.out j e.symm; have h3 := HWS.out.1; omega) rfl (by simp [Act.eval]) HOut.out (Nat.le_trans HSW.out (Nat.le_trans HWS.out.1 HWS.out.2)) (by rw [List.length_map, List.length_take]; omega) ?_; intro v9 w9 hN9 hg9); (have HN9 := Aside0.mk hN9; have HG9 := Aside0.mk hg9; clear hN9 hg9))
      clear z0 z1
      refine ⟨?_, by simp [WM, intOf]; omega⟩
      refine ⟨i + 1, v9, _, _, _, _, _, _, _, _, _, _, _, _, _, _, _, _, _, _, _, _, _, _, _, _, _, _, _, _, _, _, _, _, _, ?_, rfl⟩
      have hWl := (Array.getElem?_eq_some_iff.1 HK.out).1
      have hDw : W.heap.size ≤ D := Nat.le_trans HWS.out.1 hD
      have hvo : ∀ j, vo.ownBlock = some j → So j := HR.out.out.1
      have hs9 := HG9.out.size
      have hne : ∀ j, So j → j ≠ D := fun j hj e => by have := (HR.out.ft j hj).2.1; omega
      have hbW9 : ∀ j, j < W.heap.size → some j ≠ vo.ownBlock → w9.heap[j]? = W.heap[j]? := fun j hj h1 => by
        have h2 := HWS.out
        exact (HG9.out.block j (by omega) h1).trans (HWD.out j hj)
      have hsW := HSW.out
      refine ⟨fun k => (So k ∨ S k ∨ Wd.heap.size ≤ k) ∧ k < w9.heap.size, by omega, ?_, ?_, ?_, ?_⟩
      · have hil : i < ps.length := by rw [← HM.out]; exact hlt
        have e : (ps.take (i + 1)).map (partZ bn) = (ps.take i).map (partZ bn) ++ [((List.finRange cnt).map fun x => piece bn p.1 x.1, p.2)] := by
          have hp := HP.out
          rw [List.getD_eq_getElem?_getD, List.getElem?_eq_getElem hil] at hp
          rw [List.take_add_one, List.getElem?_eq_getElem hil, List.map_append]
          have hp' : ps[i] = p := hp
          simp only [hp', Option.toList, List.map_cons, List.map_nil, partZ, pieces]
          rw [HLEN.out, Nat.mul_div_cancel _ (by omega)]
        rw [e]
        exact Kd.N_bound HN9.out
      · rintro j ⟨hj, hj9⟩
        refine ⟨?_, hj9, fun d hd e => ?_⟩
        · rcases hj with h1 | h1 | h1
          · exact (HR.out.ft j h1).1
          · have := (HZ.out.ft j h1).1; have := HWS.out; omega
          · have := HWS.out; omega
        · have hjm : (W.heap.size ≤ j → j = D) ∧ (j < W.heap.size → ∃ d ∈ ds, d.target = .collected j) := by
            rcases List.mem_cons.1 hd with rfl | hd
            · injection e with e
              exact ⟨fun _ => e.symm, fun h => by omega⟩
            · have := (HR.out.marks.lt d hd j e).2.1
              exact ⟨fun h => by omega, fun _ => ⟨d, hd, e⟩⟩
          rcases hj with h1 | h1 | h1
          · obtain ⟨d', hd', e'⟩ := hjm.2 (HR.out.ft j h1).2.1
            exact (HR.out.ft j h1).2.2 d' hd' e'
          · have h2 := (HZ.out.ft j h1).1
            have h3 := HWS.out
            have h4 := hjm.1 (by omega)
            subst h4
            obtain ⟨o, h5, h6⟩ := (HZ.out.ft _ h1).2.2
            have := HK.out
            rw [this] at h5
            injection h5 with h5
            rw [← h5] at h6
            cases h6
          · have h3 := HWS.out
            have h4 := hjm.1 (by omega)
            omega
      · refine ⟨⟨D, rfl, by omega, ?_, fun d' hd' e => ?_⟩, ?_⟩
        · rw [HG9.out.block D hWl (fun e => hne D (hvo D e.symm) rfl)]
          exact HK.out
        · have := (HR.out.marks.lt d' hd' D e).2.1
          omega
        · refine (HR.out.marks.below (W' := Wd) ⟨?_, ?_, ?_, by have := HWS.out; omega, HWD.out⟩).grown HG9.out (fun r e d' hd' e' => (HR.out.ft r (hvo r e)).2.2 d' hd' e')
          · exact HZ.out.chg.os.trans (HB3.out.os.trans HB2.out.os)
          · exact HZ.out.chg.tape.trans (HB3.out.tape.trans HB2.out.tape)
          · exact HZ.out.chg.output.trans (HB3.out.output.trans HB2.out.output)
      · refine ⟨?_, ?_, ?_, by have := HWS.out; omega, fun k hk => ?_⟩
        · exact HG9.out.os.trans (HZ.out.chg.os.trans (HB3.out.os.trans (HB2.out.os.trans HR.out.bel.os)))
        · exact HG9.out.tape.trans (HZ.out.chg.tape.trans (HB3.out.tape.trans (HB2.out.tape.trans HR.out.bel.tape)))
        · exact HG9.out.output.trans (HZ.out.chg.output.trans (HB3.out.output.trans (HB2.out.output.trans HR.out.bel.output)))
        · exact (hbW9 k (by omega) (fun e => by have := (HR.out.ft k (hvo k e.symm)).1; omega)).trans (HR.out.bel.block k hk)
    case stop =>
      rintro D c pre Wx _ _ h _
      exact h.elim
  · have hd0 : decide ((i : Int) < (m : Int)) = false := decide_eq_false (by omega)
    go_wp2
    have him : i = ps.length := by have := HM.out; omega
    have hN : Kd.N zoneK 55 W w.heap.size So vo (ps.map (partZ bn)) := by
      have h1 := HR.out.out
      rw [him, List.take_length] at h1
      exact h1
    refine leaves_marks ds W HR.out.marks (fun W' hs ho ht hou hk => ?_)
    have hmk : ∀ k, k < w.heap.size → ∀ d ∈ ds, d.target ≠ .collected k := fun k hk d hd e => by
      have := (HR.out.marks.lt d hd k e).1
      omega
    refine ⟨_, results_tmp Try.results21 _ _ _, _, rfl, ?_, ?_⟩
    · exact Kd.N_mono (Kd.N_step hN (fun j hj hlt => hk j hlt (HR.out.ft j hj).2.2)) (fun k hk => ⟨(HR.out.ft k hk).1, by have := (HR.out.ft k hk).2.1; omega⟩)
    · exact ⟨ho.trans HR.out.bel.os, ht.trans HR.out.bel.tape, hou.trans HR.out.bel.output, by have := HR.out.bel.size; omega, fun k hlt => (hk k (by have := HR.out.bel.size; omega) (hmk k hlt)).trans (HR.out.bel.block k hlt)⟩
end Go.Proofs.Ytmkjglnggkkpeaa.Dv
