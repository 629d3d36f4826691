/- Append of the document's device. -/
import Derived.Test.YtmkjglnggkkpeaaRefRead
namespace Go.Proofs.Ytmkjglnggkkpeaa.Dv
open Go.RowKit Go.Proofs.YtmkjglnggkkpeaaW.PrintWords Go.Proofs.YtmkjglnggkkpeaaW.PrintMore Go.Proofs.Ytmkjglnggkkpeaa.Base Go.Proofs.Ytmkjglnggkkpeaa.Shp
set_option linter.unusedVariables false
set_option linter.unusedSimpArgs false
section
variable {ops : Array Oper} {rest : List Oper} {o : Oper} {a : Act} {Q : Exit → Act → World → Prop}
/-- append(v, ys...): blocks. -/
theorem app_blks {W : World} (base : Nat) (E O : Nat → Prop) (s x : Operand) (hgd : o.guard = none) (ho : o.op = .call { callee := .builtin .append, args := #[s, x], argTypes := #[31, 31] })
    (v : Value) (xs ys : List (List UInt8)) (A : Option Addr) (m c : Nat) (hs : a.eval s = v) (hx : a.eval x = .slice A m c)
    (HO : Kd.N bytesK 32 W base E v xs) (HF : Kd.F bytesK W O A m ys) (hO : ∀ k, O k → some k ≠ v.ownBlock) (hbase : base ≤ W.heap.size) (hl : xs.length + m ≤ 100000)
    (h : ∀ v1 w1, Kd.N bytesK 32 w1 base (fun k => E k ∨ O k ∨ W.heap.size ≤ k) v1 (xs ++ ys) → W.grownBy w1 v.ownBlock → wpList Try.prog ops Q rest (a.put o.dst v1) w1) :
    wpList Try.prog ops Q (o :: rest) a W :=
  Kd.N_append_rows bytesK (w0 := W) base hgd s x 31 32 _ 24 ho Try.underlying31 info_bytes rfl (by decide) (by decide) v xs ys A m c (fun k => E k ∨ O k ∨ W.heap.size ≤ k) O hs hx
    (Kd.N_mono HO (fun k hk => .inl hk)) HF (fun k hk => ⟨.inr (.inl hk), hO k hk⟩) (fun k hk => .inr (.inr hk)) (Below.refl _ _) hbase (by omega) (fun v1 w1 h1 _ h3 _ => h v1 w1 h1 h3)
end
theorem RDv.far {w : World} {rb base : Nat} {ok : Nat → Prop} {z zb b r : Int} {zs : List Zn} {v : Value} (h : RDv w rb base ok z zb b r zs v) {p : Addr} (hx : rb ≠ p.block) (hok : ∀ k, ok k → k ≠ p.block) (u : Value) : RDv (w.setCell p u) rb base ok z zb b r zs v :=
  ⟨blk_far h.blk hx u, Kd.N_far h.row hok u⟩
def raddrV (z b : Int) (e : Int) : Ending := .returned (.tuple #[.agg #[.int .i64 z, .int .i64 b], .int .i64 e])
def RAppR (zb b : Int) (zs : List Zn) (i : Int) (xs : List UInt8) (e : Ending) (zs' : List Zn) : Prop :=
  ((hasB zs.length i = false ∨ (xs.length : Int) ≠ b) ∧ e = raddrV 0 0 100 ∧ zs' = zs) ∨
  (hasB zs.length i = true ∧ (xs.length : Int) = b ∧ zb ≤ (((zs.getD i.toNat ([], 0)).1.length : Nat) : Int) ∧ e = raddrV 0 0 101 ∧ zs' = zs) ∨
  (hasB zs.length i = true ∧ (xs.length : Int) = b ∧ (((zs.getD i.toNat ([], 0)).1.length : Nat) : Int) < zb ∧ e = raddrV i (((zs.getD i.toNat ([], 0)).1.length : Nat) : Int) 0 ∧ zs' = zs.set i.toNat ((zs.getD i.toNat ([], 0)).1 ++ [xs], (zs.getD i.toNat ([], 0)).2))
set_option maxHeartbeats 4000000 in
theorem rappend_calls (rb base : Nat) (ok : Nat → Prop) (z zb b r : Int) (zs : List Zn) (v : Value) (i : Int) (hi : IsI i) (X : Option Addr) (xn xc : Nat) (xs : List UInt8) (hxn : xn ≤ 100000000) (w : World) (h : RDv w rb base ok z zb b r zs v) (hok : ∀ k, w.heap.size ≤ k → ok k) (hC : byte.C w X xn xs) (hcnt : ∀ p ∈ zs, p.1.length ≤ 5000) :
    Calls Try.prog 42 #[.pointer (some ⟨rb, 0, none⟩), .int .i64 i, .slice X xn xc] w
      fun e w' => ∃ zs', RAppR zb b zs i xs e zs' ∧ RDv w' rb base ok z zb b r zs' v ∧ Chg w w' ok := by
  have HA := Aside0.mk (alloc_below w (.cells #[.int .i64 0, .int .i64 0] 40))
  have HOK := Aside0.mk hok
  have HD := Aside0.mk ((h.mono (ok' := fun k => ok k ∧ k ≠ w.heap.size) (fun k hk hlt => ⟨hk, by omega⟩)).below HA.out)
  have HDD := Aside0.mk (h.below HA.out)
  have HL := Aside0.mk (C_len hC).1
  have HC := Aside0.mk (Kd.C_below hC HA.out)
  have HRB := Aside0.mk (show rb ≠ w.heap.size by have := h.xlt; omega)
  obtain ⟨A, m, cp, rfl, hm, hmc, hmm⟩ := h.form
  have HM := Aside0.mk hm
  have HCN := Aside0.mk hcnt
  obtain ⟨hi1, hi2⟩ := hi
  obtain ⟨-, k1, k2, -, k4⟩ := HD.out.cells
  have HG0 := Aside0.mk (show (w.alloc (.cells #[.int .i64 0, .int .i64 0] 40)).heap[w.heap.size]? = some (.cells #[.int .i64 0, .int .i64 0] 40 (0, 0)) from blk_here rfl)
  clear h hm hcnt hC hok
  by_cases h0 : 0 ≤ i
  · have hd1 : decide (i < 0) = false := decide_eq_false (by omega)
    by_cases h1 : i < (m : Int)
    · have HH := Aside0.mk (show hasB zs.length i = true from hasB_true h0 (by rw [← HM.out]; exact h1))
      obtain ⟨j, rfl⟩ : ∃ j : Nat, i = (j : Int) := ⟨i.toNat, by omega⟩
      have hd2 : decide ((m : Int) ≤ (j : Int)) = false := decide_eq_false (by omega)
      have hd3 : decide (m ≤ j) = false := decide_eq_false (by omega)
      by_cases hxb : (xn : Int) = b
      · have hnb2 : ((xn : Int) != b) = false := by rw [bne_eq_false_iff_eq]; exact hxb
        have HXB := Aside0.mk hxb
        clear hxb
        obtain ⟨p, hp⟩ : ∃ p, zs.getD j ([], 0) = p := ⟨_, rfl⟩
        obtain ⟨ad, cp', B, k, hv, c0, -, hk, hI, hF, f0, -, hoa, hax, hal, hput, -, -⟩ := HD.out.zone (j := j) (by rw [← HM.out]; omega) hp
        obtain ⟨rfl, rfl⟩ : A = some ad ∧ cp = cp' := by simp only [Value.slice.injEq] at hv; exact ⟨hv.1, hv.2.2⟩
        have hpc : p.1.length ≤ 5000 := HCN.out p (by rw [← hp, List.getD_eq_getElem?_getD, List.getElem?_eq_getElem (show j < zs.length by rw [← HM.out]; omega)]; exact List.getElem_mem _)
        have HP := Aside0.mk hp
        have HF := Aside0.mk hF
        have HPUT := Aside0.mk hput
        have HO := Aside0.mk hoa
        have HAL := Aside0.mk hal
        have HAX := Aside0.mk hax
        clear hp hv hI hF hoa hax hal hput hk
        by_cases hfull : zb ≤ (p.1.length : Int)
        · have hd5 : decide (zb ≤ (p.1.length : Int)) = true := decide_eq_true hfull
          have HFL := Aside0.mk hfull
          clear hfull
          go_enter Try.func42, Try.ntmps42
          go_wp2
          go_returns
          exact ⟨zs, .inr (.inl ⟨HH.out, by rw [HL.out]; exact HXB.out, by rw [Int.toNat_natCast, HP.out]; exact HFL.out, rfl, rfl⟩), HDD.out, Chg.of_below HA.out _⟩
        · have hd5 : decide (zb ≤ (p.1.length : Int)) = false := decide_eq_false hfull
          have HFL := Aside0.mk hfull
          clear hfull
          obtain ⟨g, hg⟩ : ∃ g, w.heap.size = g := ⟨_, rfl⟩
          have HSZ := Aside0.mk (show g + 1 = (w.alloc (.cells #[.int .i64 0, .int .i64 0] 40)).heap.size by rw [← hg]; simp)
          have HG := Aside0.mk hg
          have hbase : base ≤ (w.alloc (.cells #[.int .i64 0, .int .i64 0] 40)).heap.size := Nat.le_trans (Kd.N_base HDD.out.row ad.block (by obtain ⟨g', cp', hg', _⟩ := Kd.N_form HDD.out.row (by rw [← HM.out]; omega); simp only [Value.slice.injEq, Option.some.injEq] at hg'; rw [hg'.1]; rfl)) (Nat.le_of_lt HAL.out)
          have HBASE := Aside0.mk hbase
          have C0 := Aside0.mk c0
          have F0 := Aside0.mk f0
          clear hbase
          rw [hg] at HG0 HOK HRB HF HPUT HO
          go_enter Try.func42, Try.ntmps42
          go_wp2_with (at_builtin; (refine app_blks (w.alloc (.cells #[.int .i64 0, .int .i64 0] 40)).heap.size (fun _ => False) (fun k => (ok k ∧ k ≠ g) ∧ k ≠ ad.block) (.tmp 49) (.tmp 57) rfl rfl (.slice none 0 0) [] p.1 B p.1.length k rfl rfl (Kd.N_nil _ _ _ _ _) HF.out (fun k _ e => by simp [Value.ownBlock] at e) (Nat.le_refl _) (by simp; omega) ?_; intro v1 w1 hN1 hg1); (rw [List.nil_append] at hN1; have HN1 := Aside0.mk hN1; have HB1 := Aside0.mk (below_of_grown hg1); have k4 := pw_cell_below HB1.out k4; have c0 := pw_cell_below HB1.out c0; have f0 := pw_frozen_below HB1.out (by rw [add_block]; exact HAL.out) f0; have HC := Aside0.mk (Kd.C_below HC.out HB1.out); clear hN1 hg1))
          refine (lent_calls X xn xc xs (by omega) _ HC.out).mono ?_
          rintro e w2 ⟨v2, rfl, hO2, hw2⟩
          obtain ⟨A2, n2, c2, rfl, -, hC2⟩ := hO2.reads
          obtain rfl : xn = n2 := by rw [← (C_len hC2).1, HL.out]
          have HN2 := Aside0.mk (Kd.N_below HN1.out hw2)
          have HO2 := Aside0.mk hO2
          have HB2 := Aside0.mk (below_go HB1.out hw2)
          have HS2 := Aside0.mk hw2.size
          have hga : ad.block ≠ g := HO.out.2
          have hn0 : ad.add (j * 2) ≠ ⟨g, 0, none⟩ := fun e => hga (by have := congrArg Addr.block e; simpa [add_block] using this)
          have hn1 : ad.add (j * 2) ≠ ⟨g, 1, none⟩ := fun e => hga (by have := congrArg Addr.block e; simpa [add_block] using this)
          have hn2 := hn0.symm
          have hn3 := hn1.symm
          have K40 := Aside0.mk (pw_cell_below hw2 k4)
          have hgs := HSZ.out
          have FL0 := Aside0.mk (show (ad.add (j * 2)).block < (w.alloc (.cells #[.int .i64 0, .int .i64 0] 40)).heap.size by rw [add_block]; exact HAL.out)
          have HK0 := HDD.out.cells.2.2.2.2
          have HKK := Aside0.mk HK0
          clear k4 c0 hw2 hO2 hC2 hga HK0
          go_wp2_with (at_builtin; (refine app_blk (w.alloc (.cells #[.int .i64 0, .int .i64 0] 40)).heap.size _ (fun k => some k = (Value.slice A2 xn c2).ownBlock) (.tmp 59) (.tmp 62) rfl rfl _ p.1 xs A2 xn c2 (own_FK HO2.out) (fun k hk e => (by have h1 := Kd.N_lt HN1.out k e.symm; have h2 := Kd.R_base HO2.out k hk.symm; omega)) rfl (by simp [Act.eval]) HN2.out HB2.out.size (by omega) ?_; intro v3 w3 hN3 hg3); (have HN3 := Aside0.mk hN3; have hB3 : Below (w.alloc (.cells #[.int .i64 0, .int .i64 0] 40)).heap.size (w.alloc (.cells #[.int .i64 0, .int .i64 0] 40)) w3 := HB2.out.grown hg3 HB2.out.size (fun k hk => Kd.N_base HN2.out k hk); have HB3 := Aside0.mk hB3; have k4 := pw_cell_below hB3 HKK.out; have c0 := pw_cell_below hB3 C0.out; have f0 := pw_frozen_below hB3 FL0.out F0.out; obtain ⟨q0, q1, q2, q3⟩ := res_cells ((hB3.block g (by omega)).trans HG0.out); obtain ⟨A3, n3, c3, rfl, hc3, hC3⟩ := N_open hN3; clear hN3 hg3 hB3 hC3))
          refine bodyPost_ret (by simp [results, Try.results42, go_sem, *]; rfl) rfl ?_
          obtain ⟨hn3, -, -⟩ := Kd.N_reads' HN3.out
          subst hn3
          have hab : (ad.add (j * 2)).block = ad.block := add_block _ _
          have hR3 := HPUT.out w3 A3 c3 (p.1 ++ [xs]) _ HB3.out (Kd.N_F HN3.out) hc3 (fun k hk => by
            have hal := HAL.out
            have hgs := HSZ.out
            have fresh : ∀ k, (w.alloc (.cells #[.int .i64 0, .int .i64 0] 40)).heap.size ≤ k → (ok k ∧ k ≠ g) ∧ k ≠ ad.block := fun k hk => ⟨⟨HOK.out k (by have := HG.out; omega), by omega⟩, by omega⟩
            rcases hk with (hk | hk | hk) | hk | hk
            · exact hk.elim
            · exact hk
            · exact fresh k hk
            · exact fresh k (Nat.le_trans HB1.out.size (Kd.R_base HO2.out k hk.symm))
            · exact fresh k (Nat.le_trans HB2.out.size hk))
          have hfar : ∀ (o : Nat) k, ok k ∧ k ≠ g → k ≠ (⟨g, o, none⟩ : Addr).block := fun _ _ h => h.2
          refine ⟨zs.set j (p.1 ++ [xs], p.2), .inr (.inr ⟨HH.out, by rw [HL.out]; exact HXB.out, by rw [Int.toNat_natCast, HP.out]; have := HFL.out; omega, by rw [Int.toNat_natCast, HP.out]; rfl, by rw [Int.toNat_natCast, HP.out]⟩), ?_, ?_⟩
          · have h4 := ((hR3.far (p := ⟨g, 0, none⟩) HRB.out (hfar 0) (.int .i64 (j : Int))).far (p := ⟨g, 1, none⟩) HRB.out (hfar 1) (.int .i64 ((p.1.length : Nat) : Int))).mono (ok' := ok) (fun k hk _ => hk.1)
            exact h4
          · have hc3 : Chg w w3 ok := (Chg.of_below HA.out ok).trans (Chg.of_below HB3.out (fun _ => False)) (fun _ h => h.elim)
            exact ((hc3.set (.inl (by rw [hab]; exact HO.out.1)) _).set (.inr (Nat.le_of_eq HG.out)) _).set (.inr (Nat.le_of_eq HG.out)) _
      · have hnb2 : ((xn : Int) != b) = true := by rw [bne_iff_ne]; exact hxb
        have HXB := Aside0.mk hxb
        clear hxb
        go_enter Try.func42, Try.ntmps42
        go_wp2
        go_returns
        exact ⟨zs, .inl ⟨.inr (by rw [HL.out]; exact HXB.out), rfl, rfl⟩, HDD.out, Chg.of_below HA.out _⟩
    · have HH := Aside0.mk (show hasB zs.length i = false from hasB_false (fun h => h1 (by rw [HM.out]; exact h.2)))
      have hd2 : decide ((m : Int) ≤ i) = true := decide_eq_true (by omega)
      go_enter Try.func42, Try.ntmps42
      go_wp2
      go_returns
      exact ⟨zs, .inl ⟨.inl HH.out, rfl, rfl⟩, HDD.out, Chg.of_below HA.out _⟩
  · have HH := Aside0.mk (show hasB zs.length i = false from hasB_false (fun h => h0 h.1))
    have hd1 : decide (i < 0) = true := decide_eq_true (by omega)
    go_enter Try.func42, Try.ntmps42
    go_wp2
    go_returns
    exact ⟨zs, .inl ⟨.inl HH.out, rfl, rfl⟩, HDD.out, Chg.of_below HA.out _⟩
end Go.Proofs.Ytmkjglnggkkpeaa.Dv
