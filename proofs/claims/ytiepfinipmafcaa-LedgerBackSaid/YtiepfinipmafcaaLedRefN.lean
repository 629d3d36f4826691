/- New of the document's ledger: printed by wip/genrefnew.py. -/
import Derived.Test.YtiepfinipmafcaaLedRefL
import Derived.BigQuiet
namespace Go.Proofs.Ytiepfinipmafcaa.Led
open Go.RowKit Go.Maps Go.Proofs.YtiepfinipmafcaaW.PrintWords Go.Proofs.YtiepfinipmafcaaW.PrintMore Go.Proofs.Ytiepfinipmafcaa.Base
set_option linter.unusedVariables false
set_option linter.unusedSimpArgs false

/-- One round of the inner loop; one tenant; all. -/
def stepN (t : Ten) (s : List Row × Bool) (r : Row) : List Row × Bool :=
  let s1 := if s.2 = false ∧ t.1 ≤ r.1 then (s.1 ++ [(t.1, t.2.2.1, 0)], true) else s
  if r.1 = t.1 then s1 else (s1.1 ++ [r], s1.2)
def insN (l : List Row) (t : Ten) : List Row :=
  let s := l.foldl (stepN t) ([], false)
  if s.2 = true then s.1 else s.1 ++ [(t.1, t.2.2.1, 0)]
def newL (xs : List Ten) : List Row := xs.foldl insN []
theorem fold_len (t : Ten) : ∀ (l : List Row) (s : List Row × Bool), (l.foldl (stepN t) s).1.length + (if (l.foldl (stepN t) s).2 then 0 else 1) ≤ s.1.length + (if s.2 then 0 else 1) + l.length
  | [], s => Nat.le_refl _
  | r :: l, s => by
    refine Nat.le_trans (fold_len t l (stepN t s r)) ?_
    obtain ⟨s1, s2⟩ := s
    unfold stepN
    by_cases h : s2 = false ∧ t.1 ≤ r.1
    · obtain ⟨rfl, h⟩ := h
      simp only [h, and_self, if_true]
      split <;> simp <;> omega
    · simp only [h, if_false]
      split <;> simp <;> omega
theorem ins_len (l : List Row) (t : Ten) : (insN l t).length ≤ l.length + 1 := by
  have := fold_len t l ([], false)
  unfold insN
  simp only
  split <;> rename_i h
  · simp only [h] at this; simp at this; omega
  · simp only [h] at this; simp at this; rw [List.length_append]; simp; omega
theorem newL_snoc (xs : List Ten) (i : Nat) (h : i < xs.length) (t : Ten) (ht : xs.getD i (0, [], 0, 0, []) = t) : newL (xs.take (i + 1)) = insN (newL (xs.take i)) t := by
  have e1 : xs[i] = t := by rw [← ht, List.getD_eq_getElem?_getD, List.getElem?_eq_getElem h]; rfl
  rw [List.take_succ_eq_append_getElem h, e1]
  unfold newL
  rw [List.foldl_append]
  rfl
theorem newL_len : ∀ (n : Nat) (xs : List Ten), xs.length ≤ n → (newL xs).length ≤ n := by
  intro n xs h
  have : ∀ (xs : List Ten) (l : List Row), (xs.foldl insN l).length ≤ l.length + xs.length := by
    intro xs
    induction xs with
    | nil => intro l; simp
    | cons t xs ih =>
      intro l
      refine Nat.le_trans (ih (insN l t)) ?_
      have := ins_len l t
      simp only [List.length_cons]
      omega
  have := this xs []
  simp at this
  exact Nat.le_trans this h
def Fine (l : List Row) : Prop := ∀ r ∈ l, r.2.2 = 0
theorem fine_step (t : Ten) : ∀ (l : List Row) (s : List Row × Bool), Fine l → Fine s.1 → Fine (l.foldl (stepN t) s).1
  | [], s, _, h => h
  | r :: l, s, hl, h => by
    refine fine_step t l _ (fun x hx => hl x (List.mem_cons_of_mem _ hx)) ?_
    have hr := hl r (List.mem_cons_self ..)
    unfold stepN
    have h1 : Fine (if s.2 = false ∧ t.1 ≤ r.1 then (s.1 ++ [(t.1, t.2.2.1, 0)], true) else s).1 := by
      split
      · intro x hx
        simp only [List.mem_append, List.mem_singleton] at hx
        rcases hx with hx | rfl
        · exact h x hx
        · rfl
      · exact h
    simp only
    split
    · exact h1
    · intro x hx
      rw [List.mem_append, List.mem_singleton] at hx
      rcases hx with hx | rfl
      · exact h1 x hx
      · exact hr
theorem fine_newL (xs : List Ten) : Fine (newL xs) := by
  have : ∀ (xs : List Ten) (l : List Row), Fine l → Fine (xs.foldl insN l) := by
    intro xs
    induction xs with
    | nil => intro l h; exact h
    | cons t xs ih =>
      intro l h
      refine ih _ ?_
      have := fine_step t l ([], false) h (fun x hx => by simp at hx)
      unfold insN
      simp only
      split
      · exact this
      · intro x hx
        rw [List.mem_append, List.mem_singleton] at hx
        rcases hx with hx | rfl
        · exact this x hx
        · rfl
  exact this xs [] (fun x hx => by simp at hx)
theorem goodL_newL (xs : List Ten) : GoodL (newL xs) := fun r hr => by rw [fine_newL xs r hr]; exact Nat.zero_le _

theorem info_row : (Try.prog.info? 62).map (fun i => (i.zero, i.size, i.bytes)) = some (some (.agg #[.int .u32 0, .int .u64 0, .int .u64 0]), 3, 24) := by kernel_rfl
/-- append(v, x) of what leads nowhere, to a list of the call's own above w0. -/
theorem app_scal {α : Type} {P : Program} {ops : Array Oper} {rest : List Oper} {o : Oper} {a : Act} {Q : Exit → Act → World → Prop} (d : Kd α) {w0 W : World} (s x : Operand) (t e : TypeId) (z : Value) (bytes : Nat) (hgd : o.guard = none)
    (ho : o.op = .call { callee := .builtin .append, args := #[s, x], argTypes := #[t, t] })
    (ht : P.underlying t = some (.slice e)) (hinfo : (P.info? e).map (fun i => (i.zero, i.size, i.bytes)) = some (some z, d.sz, bytes)) (hz : z.cells.size = d.sz) (hs0 : 0 < d.sz) (hb0 : 0 < bytes)
    (v : Value) (xs : List α) (p : α) (cs : List Value) (hs : a.eval s = v) (hx : a.eval x = .slice (some ⟨W.heap.size, 0, none⟩) 1 1)
    (HO : Kd.N d e W w0.heap.size (fun k => w0.heap.size ≤ k) v xs) (HC : ∀ W', d.K W' p cs) (HB : Below w0.heap.size w0 W) (hl : (xs.length + 1) * bytes ≤ 140737488355328)
    (h : ∀ v1 w1, Kd.N d e w1 w0.heap.size (fun k => w0.heap.size ≤ k) v1 (xs ++ [p]) → Below w0.heap.size w0 w1 → wpList P ops Q rest (a.put o.dst v1) w1) : wpList P ops Q (o :: rest) a (W.alloc (.cells cs.toArray e)) :=
  Kd.N_append d (w0 := w0) w0.heap.size hgd s x t e z bytes ho ht hinfo hz hs0 hb0 v xs p cs (fun k => w0.heap.size ≤ k) (fun _ => False) hs hx
    (fun W' _ => HC W') (fun k hk => hk.elim) (fun k hk => Nat.le_trans HB.size hk) HO HB HB.size hl (fun v1 w1 h1 h2 h3 _ => h v1 w1 h1 h2)
/-- .. at a step of a region that draws. -/
theorem app_scal_step {α : Type} {P : Program} {ops : Array Oper} {o : Oper} {a : Act} {Q : Exit → Act → World → Prop} {Kc : Act → World → Prop} (d : Kd α) {w0 W : World} (s x : Operand) (t e : TypeId) (z : Value) (bytes : Nat) (hw : Region.wanted o (yielded ops a.tmps) = true)
    (ho : o.op = .call { callee := .builtin .append, args := #[s, x], argTypes := #[t, t] })
    (ht : P.underlying t = some (.slice e)) (hinfo : (P.info? e).map (fun i => (i.zero, i.size, i.bytes)) = some (some z, d.sz, bytes)) (hz : z.cells.size = d.sz) (hs0 : 0 < d.sz) (hb0 : 0 < bytes)
    (v : Value) (xs : List α) (p : α) (cs : List Value) (hs : a.eval s = v) (hx : a.eval x = .slice (some ⟨W.heap.size, 0, none⟩) 1 1)
    (HO : Kd.N d e W w0.heap.size (fun k => w0.heap.size ≤ k) v xs) (HC : ∀ W', d.K W' p cs) (HB : Below w0.heap.size w0 W) (hl : (xs.length + 1) * bytes ≤ 140737488355328)
    (h : ∀ v1 w1, Kd.N d e w1 w0.heap.size (fun k => w0.heap.size ≤ k) v1 (xs ++ [p]) → Below w0.heap.size w0 w1 → Kc (a.put o.dst v1) w1) :
    if Region.wanted o (yielded ops a.tmps) = true then Oper.wp P o a (W.alloc (.cells cs.toArray e)) Kc Q else Kc (a.put o.dst undef) (W.alloc (.cells cs.toArray e)) :=
  Kd.N_append_step d (w0 := w0) w0.heap.size hw s x t e z bytes ho ht hinfo hz hs0 hb0 v xs p cs (fun k => w0.heap.size ≤ k) (fun _ => False) hs hx
    (fun W' _ => HC W') (fun k hk => hk.elim) (fun k hk => Nat.le_trans HB.size hk) HO HB HB.size hl (fun v1 w1 h1 h2 h3 _ => h v1 w1 h1 h2)
theorem RefL.fr {w : World} {xb : Nat} {l : List Row} (h : RefL w xb l) : w.frozen? ⟨xb, 0, none⟩ = false := by
  obtain ⟨b, A, c, h1, h2, h3, h4⟩ := h
  simp [World.frozen?, h3]
theorem three {w w1 : World} (hb : Below w.heap.size w w1) {a1 a2 a3 : Addr} {v1 v2 v3 : Value} (h : w.cell? a1 = some v1 ∧ w.cell? a2 = some v2 ∧ w.cell? a3 = some v3) : w1.cell? a1 = some v1 ∧ w1.cell? a2 = some v2 ∧ w1.cell? a3 = some v3 :=
  ⟨pw_cell_below hb h.1, pw_cell_below hb h.2.1, pw_cell_below hb h.2.2⟩
theorem RefL.stored {w0 w : World} {xb : Nat} {l l' : List Row} {v : Value} (h : RefL w0 xb l) (hb : Below w0.heap.size w0 w) (hn : Kd.N rowK 62 w w0.heap.size (fun k => w0.heap.size ≤ k) v l') :
    RefL (w.setCell ⟨xb, 0, none⟩ v) xb l' := by
  obtain ⟨b, A, c, h1, h2, h3, h4⟩ := h
  obtain ⟨A', c', rfl, h5, _⟩ := Kd.N_reads hn
  have hlt : xb < w0.heap.size := by omega
  have hsz := hb.size
  refine ⟨w0.heap.size, A', c', hlt, by simp [World.setCell]; exact hsz, ?_, Kd.N_far hn (fun k hk => by show k ≠ xb; omega) _⟩
  have := blk_set (w := w) (g := xb) ((hb.block xb hlt).trans h3) 0 (.slice A' l'.length c')
  simpa using this

set_option maxRecDepth 100000 in
set_option maxHeartbeats 4000000 in
theorem refnew_calls (A : Option Addr) (n cap : Nat) (xs : List Ten) (hn : n ≤ 1000000) (w : World) (h : tenK.C w A n xs) :
    Calls Try.prog 12 #[.slice A n cap] w
      fun e w' => ∃ xb, e = .returned (.pointer (some ⟨xb, 0, none⟩)) ∧ RefL w' xb (newL xs) ∧ w.heap.size ≤ xb ∧ Below w.heap.size w w' := by
  have H := Aside0.mk h
  obtain ⟨hlen, hmax⟩ := C_len h
  have HL := Aside0.mk hlen
  clear h hlen
  obtain ⟨xb, hxb⟩ : ∃ xb, w.heap.size = xb := ⟨_, rfl⟩
  have HX := Aside0.mk hxb
  have HI := Aside0.mk (show RefL (w.alloc (.cells #[.slice none 0 0] 60)) xb (newL (xs.take 0)) ∧ Below w.heap.size w (w.alloc (.cells #[.slice none 0 0] 60)) from
    ⟨⟨xb + 1, none, 0, by omega, by simp; omega, by rw [← hxb]; exact blk_here rfl, Kd.N_nil _ _ _ _ _⟩, alloc_below _ _⟩)
  go_enter Try.func12, Try.ntmps12
  go_wp2
  clear hxb
  go_loopg [4, 5, 6, 7] n (fun k v4 v5 v6 v7 wr => ∃ i : Nat, v4 = .int .i64 (i : Int) ∧ i ≤ n ∧ Aside0 (k + i = n) ∧ Aside0 (RefL wr xb (newL (xs.take i)) ∧ Below w.heap.size w wr))
  case atStart => exact ⟨0, rfl, by omega, ⟨rfl⟩, HI⟩
  case round =>
    obtain ⟨i, rfl, hi, HK, HA⟩ := hrel
    by_cases hlt : i < n
    · obtain ⟨t, ht⟩ : ∃ t, xs.getD i (0, [], 0, 0, []) = t := ⟨_, rfl⟩
      obtain ⟨ad, ta, tm, tk, ta', tm', tk', rfl, h1, h2, c0, c1, c2, c3, c4⟩ := ten_at (Kd.C_below H.out HA.out.2) i hlt t ht
      have HS := Aside0.mk (newL_snoc xs i (by rw [HL.out]; exact hlt) t ht)
      have HLen := Aside0.mk (show (newL (xs.take i)).length ≤ i from newL_len i _ (by rw [List.length_take]; omega))
      obtain ⟨l, hl⟩ : ∃ l, newL (xs.take i) = l := ⟨_, rfl⟩
      rw [hl] at HS HLen HA
      clear ht hl c1 c3 c4
      obtain ⟨B, cB, hB, hC⟩ := HA.out.1.at_
      have hle := HLen.out
      have HC := Aside0.mk hC
      obtain ⟨m, hm⟩ : ∃ m, l.length = m := ⟨_, rfl⟩
      rw [hm] at HC hB hle
      have HM := Aside0.mk hm
      have H3 := Aside0.mk (show wr.cell? _ = _ ∧ wr.cell? _ = _ ∧ wr.cell? _ = _ from ⟨hB, c0, c2⟩)
      clear hm hC HLen
      obtain ⟨wo, hwo⟩ : ∃ wo, wo = wr := ⟨_, rfl⟩
      obtain ⟨gk0, hgk0⟩ : ∃ g0, g0 = gk := ⟨_, rfl⟩
      subst hwo hgk0
      have HN0 := Aside0.mk (Kd.N_nil rowK 62 wo wo.heap.size (fun k => wo.heap.size ≤ k))
      go_wp2
      go_loopg [5, 6, 7] m (fun k v5 v6 v7 wi => ∃ (j : Nat) (out : List Row) (d : Bool), v7 = .int .i64 (j : Int) ∧ j ≤ m ∧ v6 = .bool d ∧ out.length ≤ j + (if d then 1 else 0) ∧ Aside0 (k + j = m) ∧ Aside0 ((l.take j).foldl (stepN t) ([], false) = (out, d)) ∧ Aside0 (Kd.N rowK 62 wi wo.heap.size (fun k => wo.heap.size ≤ k) v5 out) ∧ Aside0 (Below wo.heap.size wo wi))
      case atStart => exact ⟨0, [], false, rfl, by omega, rfl, by simp, ⟨rfl⟩, ⟨rfl⟩, ⟨HN0.out⟩, ⟨Below.refl _ _⟩⟩
      case round =>
        obtain ⟨j, out, d, rfl, hj, rfl, hol, HKI, HF, HN, HB⟩ := hrel
        clear hB c0 c2
        obtain ⟨hB, c0, c2⟩ := three HB.out H3.out
        by_cases hlj : j < m
        · obtain ⟨r, hr⟩ : ∃ r, l.getD j (0, 0, 0) = r := ⟨_, rfl⟩
          obtain ⟨bd, rfl, b1, b2, b3, d0, d1, d2⟩ := row_at HC.out j hlj r hr
          have HR3 := Aside0.mk (show wo.cell? _ = _ ∧ wo.cell? _ = _ ∧ wo.cell? _ = _ from ⟨d0, d1, d2⟩)
          clear d0 d1 d2
          obtain ⟨d0, d1, d2⟩ := three HB.out HR3.out
          have HT := Aside0.mk (show (l.take (j + 1)).foldl (stepN t) ([], false) = stepN t (out, d) r from by
            have hj' : j < l.length := by rw [HM.out]; exact hlj
            have e1 : l[j] = r := by rw [← hr, List.getD_eq_getElem?_getD, List.getElem?_eq_getElem hj']; rfl
            rw [List.take_succ_eq_append_getElem hj', List.foldl_append, HF.out, e1]
            rfl)
          clear hr
          cases d with
          | true =>
            simp at hol
            go_wp2
            go_quiet (fail)
            have HB1 := Aside0.mk (pw_below_drewN HB.out nq)
            have HN1 := Aside0.mk (Kd.N_below HN.out (pw_below_drewN (Below.refl _ _) nq))
            generalize wr.drewN nq = w1 at *
            clear hB c0 c2 d0 d1 d2 HB HN
            obtain ⟨hB, c0, c2⟩ := three HB1.out H3.out
            obtain ⟨d0, d1, d2⟩ := three HB1.out HR3.out
            clear nq
            by_cases heq : r.1 = t.1
            · have hq : ((r.1 : Int) == (t.1 : Int)) = true := by rw [heq]; exact beq_self_eq_true _
              have hq2 : ((r.1 : Int) != (t.1 : Int)) = false := by rw [bne_eq_false_iff_eq, heq]
              have HEQ := Aside0.mk heq
              clear heq
              go_wp2
              go_quiet (fail)
              have HB2 := Aside0.mk (pw_below_drewN HB1.out nq)
              have HN2 := Aside0.mk (Kd.N_below HN1.out (pw_below_drewN (Below.refl _ _) nq))
              generalize w1.drewN nq = w2 at *
              clear hB c0 c2 d0 d1 d2 HB1 HN1
              obtain ⟨hB, c0, c2⟩ := three HB2.out H3.out
              obtain ⟨d0, d1, d2⟩ := three HB2.out HR3.out
              clear nq
              go_wp2
              go_roundg (gk - 1)
              case measure => have := HKI.out; omega
              case rel => exact ⟨j + 1, out, true, by congr 1, by omega, rfl, (by first | omega | (simp; done) | (simp; omega)), ⟨by have := HKI.out; omega⟩, ⟨HT.out.trans (by unfold stepN; simp [HEQ.out])⟩, ⟨HN2.out⟩, ⟨HB2.out⟩⟩
            · have hq : ((r.1 : Int) == (t.1 : Int)) = false := by rw [beq_eq_false_iff_ne]; omega
              have hq2 : ((r.1 : Int) != (t.1 : Int)) = true := by rw [bne_iff_ne]; omega
              have HEQ := Aside0.mk heq
              clear heq
              go_wp2
              go_quiet (fail)
              have HB2 := Aside0.mk (pw_below_drewN HB1.out nq)
              have HN2 := Aside0.mk (Kd.N_below HN1.out (pw_below_drewN (Below.refl _ _) nq))
              generalize w1.drewN nq = w2 at *
              clear hB c0 c2 d0 d1 d2 HB1 HN1
              obtain ⟨hB, c0, c2⟩ := three HB2.out H3.out
              obtain ⟨d0, d1, d2⟩ := three HB2.out HR3.out
              clear nq
              go_wp2_with (at_builtin; go_loud (refine app_scal (w0 := wo) rowK (.tmp 71) (.tmp 79) 58 62 _ 24 rfl rfl Try.underlying58 info_row rfl (by decide) (by decide) _ (out) r [.int .u32 (r.1 : Int), .int .u64 (r.2.1 : Int), .int .u64 (r.2.2 : Int)] rfl (by simp [Act.eval]) HN2.out (fun W' => rowK_mk (t := r) b1 b2 b3) HB2.out (by first | omega | (simp; done) | (simp; omega)) ?_); intro v3 w3 hN hb; have HN3 := Aside0.mk hN; have HB3 := Aside0.mk hb; clear hN hb)
              go_roundg (gk - 1)
              case measure => have := HKI.out; omega
              case rel => exact ⟨j + 1, out ++ [r], true, by congr 1, by omega, rfl, (by first | omega | (simp; done) | (simp; omega)), ⟨by have := HKI.out; omega⟩, ⟨HT.out.trans (by unfold stepN; simp [HEQ.out])⟩, ⟨HN3.out⟩, ⟨HB3.out⟩⟩
          | false =>
            simp at hol
            by_cases hge : t.1 ≤ r.1
            · have hge' : ¬ ((r.1 : Int) < (t.1 : Int)) := by omega
              have HGE := Aside0.mk hge
              go_wp2
              go_quiet (fail)
              have HB1 := Aside0.mk (pw_below_drewN HB.out nq)
              have HN1 := Aside0.mk (Kd.N_below HN.out (pw_below_drewN (Below.refl _ _) nq))
              generalize wr.drewN nq = w1 at *
              clear hB c0 c2 d0 d1 d2 HB HN
              obtain ⟨hB, c0, c2⟩ := three HB1.out H3.out
              obtain ⟨d0, d1, d2⟩ := three HB1.out HR3.out
              clear nq
              go_wp2
              have hbd := Aside0.mk (below_drew HB1.out)
              have hnd := Aside0.mk (Kd.N_drew HN1.out)
              go_region_held3 (fun w' => w'.cell? (ad.add (i * 5)) = some (.int .u32 (t.1 : Int)) ∧ w'.cell? ⟨(ad.add (i * 5)).block, (ad.add (i * 5)).off + 2, none⟩ = some (.int .u64 (t.2.2.1 : Int)))
                (first | exact ⟨c0, c2⟩ | exact ⟨pw_cell_below (alloc_below _ _) c0, pw_cell_below (alloc_below _ _) c2⟩ | exact ⟨(three hb3 H3.out).2.1, (three hb3 H3.out).2.2⟩)
                (first | (refine app_scal_step (w0 := wo) rowK (.tmp 43) (.tmp 55) 58 62 _ 24 (by rfl) rfl Try.underlying58 info_row rfl (by decide) (by decide) _ out (t.1, t.2.2.1, 0) [.int .u32 (t.1 : Int), .int .u64 (t.2.2.1 : Int), .int .u64 0] rfl (by simp [Act.eval]) hnd.out (fun W' => rowK_mk (t := (t.1, t.2.2.1, 0)) h1 h2 (by show 0 < 18446744073709551616; omega)) hbd.out (by omega) ?_; intro v3 w3 hn3 hb3))
              have HB3 := Aside0.mk hb3
              have HN3 := Aside0.mk hn3
              clear hb3 hn3 hbd hnd
              clear hB c0 c2 d0 d1 d2 HB1 HN1
              obtain ⟨hB, c0, c2⟩ := three HB3.out H3.out
              obtain ⟨d0, d1, d2⟩ := three HB3.out HR3.out
              clear hge hge'
              by_cases heq : r.1 = t.1
              · have hq : ((r.1 : Int) == (t.1 : Int)) = true := by rw [heq]; exact beq_self_eq_true _
                have hq2 : ((r.1 : Int) != (t.1 : Int)) = false := by rw [bne_eq_false_iff_eq, heq]
                have HEQ := Aside0.mk heq
                clear heq
                go_wp2
                go_quiet (fail)
                have HB4 := Aside0.mk (pw_below_drewN HB3.out nq)
                have HN4 := Aside0.mk (Kd.N_below HN3.out (pw_below_drewN (Below.refl _ _) nq))
                generalize w3.drewN nq = w4 at *
                clear hB c0 c2 d0 d1 d2 HB3 HN3
                obtain ⟨hB, c0, c2⟩ := three HB4.out H3.out
                obtain ⟨d0, d1, d2⟩ := three HB4.out HR3.out
                clear nq
                go_wp2
                go_roundg (gk - 1)
                case measure => have := HKI.out; omega
                case rel => exact ⟨j + 1, out ++ [(t.1, t.2.2.1, 0)], true, by congr 1, by omega, rfl, (by first | omega | (simp; done) | (simp; omega)), ⟨by have := HKI.out; omega⟩, ⟨HT.out.trans (by unfold stepN; simp [HEQ.out, HGE.out])⟩, ⟨HN4.out⟩, ⟨HB4.out⟩⟩
              · have hq : ((r.1 : Int) == (t.1 : Int)) = false := by rw [beq_eq_false_iff_ne]; omega
                have hq2 : ((r.1 : Int) != (t.1 : Int)) = true := by rw [bne_iff_ne]; omega
                have HEQ := Aside0.mk heq
                clear heq
                go_wp2
                go_quiet (fail)
                have HB4 := Aside0.mk (pw_below_drewN HB3.out nq)
                have HN4 := Aside0.mk (Kd.N_below HN3.out (pw_below_drewN (Below.refl _ _) nq))
                generalize w3.drewN nq = w4 at *
                clear hB c0 c2 d0 d1 d2 HB3 HN3
                obtain ⟨hB, c0, c2⟩ := three HB4.out H3.out
                obtain ⟨d0, d1, d2⟩ := three HB4.out HR3.out
                clear nq
                go_wp2_with (at_builtin; go_loud (refine app_scal (w0 := wo) rowK (.tmp 71) (.tmp 79) 58 62 _ 24 rfl rfl Try.underlying58 info_row rfl (by decide) (by decide) _ (out ++ [(t.1, t.2.2.1, 0)]) r [.int .u32 (r.1 : Int), .int .u64 (r.2.1 : Int), .int .u64 (r.2.2 : Int)] rfl (by simp [Act.eval]) HN4.out (fun W' => rowK_mk (t := r) b1 b2 b3) HB4.out (by first | omega | (simp; done) | (simp; omega)) ?_); intro v5 w5 hN hb; have HN5 := Aside0.mk hN; have HB5 := Aside0.mk hb; clear hN hb)
                go_roundg (gk - 1)
                case measure => have := HKI.out; omega
                case rel => exact ⟨j + 1, out ++ [(t.1, t.2.2.1, 0)] ++ [r], true, by congr 1, by omega, rfl, (by first | omega | (simp; done) | (simp; omega)), ⟨by have := HKI.out; omega⟩, ⟨HT.out.trans (by unfold stepN; simp [HEQ.out, HGE.out])⟩, ⟨HN5.out⟩, ⟨HB5.out⟩⟩
            · have hge' : ((r.1 : Int) < (t.1 : Int)) := by omega
              have heq : r.1 ≠ t.1 := by omega
              have HGE := Aside0.mk hge
              have hq : ((r.1 : Int) == (t.1 : Int)) = false := by rw [beq_eq_false_iff_ne]; omega
              have hq2 : ((r.1 : Int) != (t.1 : Int)) = true := by rw [bne_iff_ne]; omega
              have HEQ := Aside0.mk heq
              clear heq
              go_wp2
              go_quiet (fail)
              have HB1 := Aside0.mk (pw_below_drewN HB.out nq)
              have HN1 := Aside0.mk (Kd.N_below HN.out (pw_below_drewN (Below.refl _ _) nq))
              generalize wr.drewN nq = w1 at *
              clear hB c0 c2 d0 d1 d2 HB HN
              obtain ⟨hB, c0, c2⟩ := three HB1.out H3.out
              obtain ⟨d0, d1, d2⟩ := three HB1.out HR3.out
              clear nq
              go_wp2
              go_quiet (fail)
              have HB2 := Aside0.mk (pw_below_drewN HB1.out nq)
              have HN2 := Aside0.mk (Kd.N_below HN1.out (pw_below_drewN (Below.refl _ _) nq))
              generalize w1.drewN nq = w2 at *
              clear hB c0 c2 d0 d1 d2 HB1 HN1
              obtain ⟨hB, c0, c2⟩ := three HB2.out H3.out
              obtain ⟨d0, d1, d2⟩ := three HB2.out HR3.out
              clear nq
              go_wp2_with (at_builtin; go_loud (refine app_scal (w0 := wo) rowK (.tmp 71) (.tmp 79) 58 62 _ 24 rfl rfl Try.underlying58 info_row rfl (by decide) (by decide) _ out r [.int .u32 (r.1 : Int), .int .u64 (r.2.1 : Int), .int .u64 (r.2.2 : Int)] rfl (by simp [Act.eval]) HN2.out (fun W' => rowK_mk (t := r) b1 b2 b3) HB2.out (by omega) ?_); intro v3 w3 hN hb; have HN3 := Aside0.mk hN; have HB3 := Aside0.mk hb; clear hN hb)
              go_roundg (gk - 1)
              case measure => have := HKI.out; omega
              case rel => exact ⟨j + 1, out ++ [r], false, by congr 1, by omega, rfl, (by first | omega | (simp; done) | (simp; omega)), ⟨by have := HKI.out; omega⟩, ⟨HT.out.trans (by unfold stepN; simp [HEQ.out, HGE.out])⟩, ⟨HN3.out⟩, ⟨HB3.out⟩⟩
        · have hjm : j = m := by omega
          have HF' := Aside0.mk (show l.foldl (stepN t) ([], false) = (out, d) from by
            have h := HF.out
            rwa [List.take_of_length_le (by rw [HM.out, hjm]; exact Nat.le_refl _)] at h)
          have hfr := (HA.out.1.below HB.out).fr
          cases d with
          | true =>
            have HI' := Aside0.mk (show newL (xs.take (i + 1)) = out from HS.out.trans (by unfold insN; simp [HF'.out]))
            obtain ⟨A9, n9, c9, rfl, _, _⟩ := N_open HN.out
            go_wp2
            go_roundg (gk0 - 1)
            case measure => have := HK.out; omega
            case rel => exact ⟨i + 1, by congr 1, by omega, ⟨by have := HK.out; omega⟩, ⟨by rw [HI'.out]; exact RefL.stored HA.out.1 HB.out HN.out, Below.setCell (below_then HA.out.2 HA.out.2.size HB.out) (by rw [HX.out]; exact Nat.le_refl _) _⟩⟩
          | false =>
            simp at hol
            have HI' := Aside0.mk (show newL (xs.take (i + 1)) = out ++ [(t.1, t.2.2.1, 0)] from HS.out.trans (by unfold insN; simp [HF'.out]))
            go_wp2
            have hbd := Aside0.mk (below_drew HB.out)
            have hnd := Aside0.mk (Kd.N_drew HN.out)
            go_region_held3 (fun w' => w'.cell? (ad.add (i * 5)) = some (.int .u32 (t.1 : Int)) ∧ w'.cell? ⟨(ad.add (i * 5)).block, (ad.add (i * 5)).off + 2, none⟩ = some (.int .u64 (t.2.2.1 : Int)))
              (first | exact ⟨c0, c2⟩ | exact ⟨pw_cell_below (alloc_below _ _) c0, pw_cell_below (alloc_below _ _) c2⟩ | exact ⟨(three hb3 H3.out).2.1, (three hb3 H3.out).2.2⟩)
              (first | (refine app_scal_step (w0 := wo) rowK (.tmp 83) (.tmp 95) 58 62 _ 24 (by rfl) rfl Try.underlying58 info_row rfl (by decide) (by decide) _ out (t.1, t.2.2.1, 0) [.int .u32 (t.1 : Int), .int .u64 (t.2.2.1 : Int), .int .u64 0] rfl (by simp [Act.eval]) hnd.out (fun W' => rowK_mk (t := (t.1, t.2.2.1, 0)) h1 h2 (by show 0 < 18446744073709551616; omega)) hbd.out (by omega) ?_; intro v3 w3 hn3 hb3))
            have HB3 := Aside0.mk hb3
            have HN3 := Aside0.mk hn3
            clear hb3 hn3 hbd hnd
            have hfr := (HA.out.1.below HB3.out).fr
            obtain ⟨hB, _, _⟩ := three HB3.out H3.out
            obtain ⟨A9, n9, c9, rfl, _, _⟩ := N_open HN3.out
            go_wp2
            go_roundg (gk0 - 1)
            case measure => have := HK.out; omega
            case rel => exact ⟨i + 1, by congr 1, by omega, ⟨by have := HK.out; omega⟩, ⟨by rw [HI'.out]; exact RefL.stored HA.out.1 HB3.out HN3.out, Below.setCell (below_then HA.out.2 HA.out.2.size HB3.out) (by rw [HX.out]; exact Nat.le_refl _) _⟩⟩
    · go_wp2
      go_ret
      have hin : i = n := by omega
      subst hin
      exact ⟨xb, rfl, by rw [List.take_of_length_le (by rw [HL.out]; omega)] at HA; exact HA.out.1, by rw [HX.out]; exact Nat.le_refl _, HA.out.2⟩
end Go.Proofs.Ytiepfinipmafcaa.Led
