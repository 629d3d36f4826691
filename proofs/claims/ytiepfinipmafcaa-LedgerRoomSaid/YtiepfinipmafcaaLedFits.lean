/- ledger.room, ledger.Fits, coamingref15.Fits: what they answer. -/
import Derived.Test.YtiepfinipmafcaaRooms
import Derived.Test.YtiepfinipmafcaaLedLaws
import Derived.Test.YtiepfinipmafcaaWords2
import Derived.Maps.OwnOps
namespace Go.Proofs.Ytiepfinipmafcaa.Led
open Go.RowKit Go.Maps Go.Proofs.YtiepfinipmafcaaW.PrintWords Go.Proofs.YtiepfinipmafcaaW.PrintMore Go.Proofs.Ytiepfinipmafcaa.Base Go.Proofs.Ytiepfinipmafcaa.Shp
set_option linter.unusedVariables false
set_option linter.unusedSimpArgs false
attribute [local go_sem] max2_mx min2_mn max_two min_two

def roomZ (z zb b r : Int) : Int := mn ((z - 3 - r) * (zb / 4)) (zb * rm b)
theorem mul_bd {x y m n : Int} (h0 : 0 ≤ x) (h1 : x ≤ m) (h2 : 0 ≤ y) (h3 : y ≤ n) : 0 ≤ x * y ∧ x * y ≤ m * n :=
  ⟨Int.mul_nonneg h0 h2, Int.mul_le_mul h1 h3 h2 (by omega)⟩
theorem rm_bd {b : Int} : 0 ≤ rm b ∧ rm b ≤ 254 := by
  unfold rm
  split
  · rename_i h; have := pow_range h; omega
  · omega
theorem rt_bd {z zb b r : Int} (h : Rt z zb b r) : (0 ≤ (z - 3 - r) * (zb / 4) ∧ (z - 3 - r) * (zb / 4) ≤ 257024) ∧ (0 ≤ zb * rm b ∧ zb * rm b ≤ 1040384) := by
  obtain ⟨h1, h2, h3, h4, h5, h6, h7⟩ := h
  exact ⟨mul_bd (m := 251) (n := 1024) (by omega) (by omega) (by omega) (by omega), mul_bd (m := 4096) (n := 254) (by omega) (by omega) rm_bd.1 rm_bd.2⟩

theorem ledroom_calls (z zb b r : Int) (h : Rt z zb b r) (w : World) :
    Calls Try.prog 29 #[.agg #[.int .i64 z, .int .i64 zb, .int .i64 b, .int .i64 r]] w fun e w' => e = .returned (.int .u64 (roomZ z zb b r)) ∧ Below w.heap.size w w' := by
  obtain ⟨⟨p1, p2⟩, p3, p4⟩ := rt_bd h
  obtain ⟨h1, h2, h3, h4, h5, h6, h7⟩ := h
  obtain ⟨hb1, hb2⟩ := pow_range h5
  have hA := Aside0.mk (alloc_below w (.cells #[.int .i64 z, .int .i64 zb, .int .i64 b, .int .i64 r] 44))
  obtain ⟨q1, q2⟩ := rm_bd (b := b)
  have ib : IsI b := ⟨by omega, by omega⟩
  have IB := Aside0.mk ib
  clear h5 ib
  have e1 : IntKind.i64.wrap (z - 3) = z - 3 := IntWalk.i64_in _ (by omega)
  have e2 : IntKind.i64.wrap (z - 3 - r) = z - 3 - r := IntWalk.i64_in _ (by omega)
  have e5 : IntKind.i64.wrap (zb.tdiv 4) = zb / 4 := by rw [Int.tdiv_eq_ediv_of_nonneg (by omega)]; exact IntWalk.i64_in _ (by omega)
  have e3 : IntKind.i64.wrap ((z - 3 - r) * (zb / 4)) = (z - 3 - r) * (zb / 4) := IntWalk.i64_in _ (by omega)
  have e4 : IntKind.i64.wrap (zb * rm b) = zb * rm b := IntWalk.i64_in _ (by omega)
  go_enter Try.func29, Try.ntmps29
  go_wp2_with fail
  have c0 : (w.alloc (.cells #[.int .i64 z, .int .i64 zb, .int .i64 b, .int .i64 r] 44)).cell? ⟨w.heap.size, 0, none⟩ = some (.int .i64 z) := by go_simp
  have c1 : (w.alloc (.cells #[.int .i64 z, .int .i64 zb, .int .i64 b, .int .i64 r] 44)).cell? ⟨w.heap.size, 1, none⟩ = some (.int .i64 zb) := by go_simp
  have c2 : (w.alloc (.cells #[.int .i64 z, .int .i64 zb, .int .i64 b, .int .i64 r] 44)).cell? ⟨w.heap.size, 2, none⟩ = some (.int .i64 b) := by go_simp
  have c3 : (w.alloc (.cells #[.int .i64 z, .int .i64 zb, .int .i64 b, .int .i64 r] 44)).cell? ⟨w.heap.size, 3, none⟩ = some (.int .i64 r) := by go_simp
  generalize w.alloc (.cells #[.int .i64 z, .int .i64 zb, .int .i64 b, .int .i64 r] 44) = W at *
  obtain ⟨g, hg⟩ : ∃ g, w.heap.size = g := ⟨_, rfl⟩
  rw [hg] at c0 c1 c2 c3 hA ⊢
  have HG := Aside0.mk hg
  clear hg
  go_quiet ((go_at_call 35; exact Calls.quiet_of_same ((room_calls _ IB.out _).mono fun _ _ h => ⟨h.1, h.2.symm⟩)))
  have e6 : IntKind.u64.wrap (mn ((z - 3 - r) * (zb / 4)) (zb * rm b)) = roomZ z zb b r := by
    rw [IntWalk.u64_in _ (by unfold mn; split <;> omega)]
    rfl
  rw [e6]
  go_wp2
  go_ret
  exact ⟨rfl, by rw [HG.out]; exact pw_below_drewN hA.out _⟩

/-! A map of counts. -/
def Cnt (w : World) (bm n : Nat) (f : Nat → Int) : Prop :=
  ∃ D : DataW Unit, w.ownsMap Try.prog 24 (plainElem Try.prog 3) bm n D ∧ ∀ k, k < 4294967296 → D.atKey (key k) (.lit (.int .i64 0)) = .lit (.int .i64 (f k))
theorem zeroInt (w : World) : (zeroValue 3).run Try.prog w = .ok (.int .i64 0) w := by kernel_rfl
theorem Cnt.made (w : World) : Cnt (w.alloc (.map #[] 0)) w.heap.size 0 (fun _ => 0) := ⟨.map [], World.ownsMap_made _ _ _ _, fun k hk => rfl⟩
theorem Cnt.below {w w1 : World} {bm n : Nat} {f : Nat → Int} (h : Cnt w bm n f) (hb : Below w.heap.size w w1) : Cnt w1 bm n f := by
  obtain ⟨D, ho, hf⟩ := h
  exact ⟨D, ho.kept (grown_of_below hb none) (by simp), hf⟩
theorem Cnt.lt {w : World} {bm n : Nat} {f : Nat → Int} (h : Cnt w bm n f) : bm < w.heap.size := by
  obtain ⟨D, ho, _⟩ := h
  exact ho.lt
def updC (f : Nat → Int) (k : Nat) (x : Int) : Nat → Int := fun j => if j = k then x else f j
section
variable {ops : Array Oper} {rest : List Oper} {o : Oper} {a : Act} {Q : Exit → Act → World → Prop} {w : World} {bm n k : Nat} {f : Nat → Int}
theorem cnt_look (h : Cnt w bm n f) (hk : k < 4294967296) (hg : o.guard = none) (m x : Operand) (hop : o.op = .lookup 65 m x false) (hm : a.eval m = .map (some bm)) (hx : a.eval x = .int .u32 (k : Int)) (c : Int) (hc : f k = c)
    (hK : wpList Try.prog ops Q rest (a.put o.dst (.int .i64 c)) w) : wpList Try.prog ops Q (o :: rest) a w := by
  obtain ⟨D, ho, hf⟩ := h
  obtain ⟨c', hrun, hat, _⟩ := ho.lookup_int law Try.underlying65 Try.underlying3 (zeroInt w) (keyOf_int_mk Try.underlying24 (wf_key hk))
  have e := hf k hk
  unfold key at e
  rw [e, hc] at hat
  simp only [DataW.lit.injEq, Lit.int.injEq, true_and] at hat
  subst hat
  refine wpList_plain hg fun K' hK' => ?_
  unfold Oper.wp
  simp [execOp, hop, hm, hx, hrun, Result.andThen]
  exact hK' _ _ hK
theorem cnt_put (h : Cnt w bm n f) (hn : n < maxLen) (hk : k < 4294967296) (hg : o.guard = none) (m x v : Operand) (hop : o.op = .mapUpdate 65 m x v) (hm : a.eval m = .map (some bm)) (hx : a.eval x = .int .u32 (k : Int)) (y : Int) (hv : a.eval v = .int .i64 y)
    (hy : (Lit.int .i64 y).wf = true) (hK : ∀ w1, Cnt w1 bm (n + 1) (updC f k y) → w.grownBy w1 (some bm) → wpList Try.prog ops Q rest (a.put o.dst undef) w1) : wpList Try.prog ops Q (o :: rest) a w := by
  obtain ⟨D, ho, hf⟩ := h
  refine wpList_mapUpdate_own w hg m x v _ hop 24 3 law Try.underlying65 _ bm n D hm ho hn _ _ _ hx hv (keyOf_int_mk Try.underlying24 (wf_key hk)) _ [] (plainElem_int Try.underlying3 hy) ?_
  intro w1 ho1 hg1
  refine hK w1 ⟨_, ho1, fun j hj => ?_⟩ hg1
  by_cases e : j = k
  · subst e
    rw [show updC f j y j = y by simp [updC]]
    exact Maps.atKey_put_same ho.isMap (isKey_key hk) _ _
  · rw [show updC f k y j = f j by simp [updC, e]]
    exact (Maps.atKey_put_other (key_ne e) _ _).trans (hf j hj)
end

/-- Do quotas fit, one tenant behind the other? -/
def fitsF : Nat → List Nat → List Ten → Bool
  | _, _, [] => true
  | left, seen, t :: l => if t.1 ∈ seen ∨ left < t.2.2.1 then false else fitsF (left - t.2.2.1) (t.1 :: seen) l
def fits (z zb b r : Int) (l : List Ten) : Bool := decide (Rt z zb b r) && decide (l.length ≤ 64) && fitsF (roomZ z zb b r).toNat [] l

theorem ledfits_calls (z zb b r : Int) (hz : IsI z) (hzb : IsI zb) (hb : IsI b) (hr : IsI r) (A : Option Addr) (n cap : Nat) (xs : List Ten) (w : World) (h : tenK.C w A n xs) :
    Calls Try.prog 18 #[.agg #[.int .i64 z, .int .i64 zb, .int .i64 b, .int .i64 r], .slice A n cap] w fun e w' => e = .returned (.bool (fits z zb b r xs)) ∧ Below w.heap.size w w' := by
  have hmm := @run_makeMap Try.prog
  have H := Aside0.mk h
  obtain ⟨hlen, hmax⟩ := C_len h
  have HL := Aside0.mk hlen
  clear h hlen
  have hA := Aside0.mk (alloc_below w (.cells #[.int .i64 z, .int .i64 zb, .int .i64 b, .int .i64 r] 44))
  go_enter Try.func18, Try.ntmps18
  go_wp2_with fail
  refine (right_calls z zb b r hz hzb hb hr _).mono ?_
  rintro e w1 ⟨rfl, hw1⟩
  have HB1 := Aside0.mk (below_then hA.out (by simp) hw1)
  have hc : w1.cell? ⟨w.heap.size, 0, none⟩ = some (.int .i64 z) ∧ w1.cell? ⟨w.heap.size, 1, none⟩ = some (.int .i64 zb) ∧ w1.cell? ⟨w.heap.size, 2, none⟩ = some (.int .i64 b) ∧ w1.cell? ⟨w.heap.size, 3, none⟩ = some (.int .i64 r) :=
    ⟨pw_cell_below hw1 (by go_simp), pw_cell_below hw1 (by go_simp), pw_cell_below hw1 (by go_simp), pw_cell_below hw1 (by go_simp)⟩
  obtain ⟨k0, k1, k2, k3⟩ := hc
  clear hw1
  by_cases hrt : Rt z zb b r
  · rw [decide_eq_true hrt]
    have HRT := Aside0.mk hrt
    clear hrt
    by_cases h64 : n ≤ 64
    · go_wp2_with fail
      refine (ledroom_calls z zb b r HRT.out _).mono ?_
      rintro e w2 ⟨rfl, hw2⟩
      have HB2 := Aside0.mk (below_then HB1.out HB1.out.size hw2)
      clear hw2 k0 k1 k2 k3
      have hroom := rt_bd HRT.out
      obtain ⟨L0, hL0, hL1⟩ : ∃ L0 : Nat, roomZ z zb b r = (L0 : Int) ∧ L0 < 4294967296 := by
        refine ⟨(roomZ z zb b r).toNat, ?_, ?_⟩ <;> (unfold roomZ mn; split <;> omega)
      have hF := Aside0.mk (show fits z zb b r xs = fitsF L0 [] xs from by
        unfold fits
        rw [decide_eq_true HRT.out, decide_eq_true (show xs.length ≤ 64 by rw [HL.out]; exact h64), hL0, Int.toNat_natCast]
        rfl)
      rw [hL0]
      clear hroom hL0
      have HB3 := Aside0.mk (HB2.out.alloc HB2.out.size (.map #[] 0))
      have HC3 := Aside0.mk (Cnt.made w2)
      go_wp2
      go_loopg [5, 22] n (fun k v5 v22 wr => ∃ (i left : Nat) (seen : List Nat) (f : Nat → Int), v5 = .int .u64 (left : Int) ∧ v22 = .int .i64 (i : Int) ∧ i ≤ n ∧ left < 4294967296 ∧
        Aside0 (k + i = n ∧ Cnt wr w2.heap.size i f ∧ (∀ k, f k = if k ∈ seen then 1 else 0) ∧ fitsF left seen (xs.drop i) = fitsF L0 [] xs ∧ Below w.heap.size w wr))
      case atStart => exact ⟨0, L0, [], fun _ => 0, rfl, rfl, by omega, hL1, ⟨rfl, HC3.out, fun k => by simp, rfl, HB3.out⟩⟩
      case round =>
        obtain ⟨i, left, seen, f, rfl, rfl, hi, hleft, HS⟩ := hrel
        by_cases hlt : i < n
        · obtain ⟨t, ht⟩ : ∃ t, xs.getD i (0, [], 0, 0, []) = t := ⟨_, rfl⟩
          obtain ⟨ad, a, m, k, a', m', k', rfl, h1, h2, c0, c1, c2, c3, c4⟩ := ten_at (Kd.C_below H.out HS.out.2.2.2.2) i hlt t ht
          have HT := Aside0.mk (show fitsF left seen (xs.drop i) = if t.1 ∈ seen ∨ left < t.2.2.1 then false else fitsF (left - t.2.2.1) (t.1 :: seen) (xs.drop (i + 1)) from by
            rw [drop_getD xs i (0, [], 0, 0, []) (by rw [HL.out]; exact hlt), ht]; rfl)
          clear ht
          have HC := Aside0.mk (HS.out.2.1.below (alloc_below wr (.cells #[.int .u32 (t.1 : Int), .slice a m k, .int .u64 (t.2.2.1 : Int), .int .u64 (t.2.2.2.1 : Int), .slice a' m' k'] 41)))
          have HB := Aside0.mk (HS.out.2.2.2.2.alloc HS.out.2.2.2.2.size (.cells #[.int .u32 (t.1 : Int), .slice a m k, .int .u64 (t.2.2.1 : Int), .int .u64 (t.2.2.2.1 : Int), .slice a' m' k'] 41))
          have hne : some wr.heap.size ≠ some w2.heap.size := by have := HS.out.2.1.lt; simp; omega
          have D0 := Aside0.mk (show (wr.alloc (.cells #[.int .u32 (t.1 : Int), .slice a m k, .int .u64 (t.2.2.1 : Int), .int .u64 (t.2.2.2.1 : Int), .slice a' m' k'] 41)).cell? ⟨wr.heap.size, 0, none⟩ = some (.int .u32 (t.1 : Int)) by go_simp)
          have D2 := Aside0.mk (show (wr.alloc (.cells #[.int .u32 (t.1 : Int), .slice a m k, .int .u64 (t.2.2.1 : Int), .int .u64 (t.2.2.2.1 : Int), .slice a' m' k'] 41)).cell? ⟨wr.heap.size, 2, none⟩ = some (.int .u64 (t.2.2.1 : Int)) by go_simp)
          have hbm : w.heap.size ≤ w2.heap.size := HB2.out.size
          by_cases hmem : t.1 ∈ seen
          · have hf1 := Aside0.mk (show f t.1 = 1 by rw [HS.out.2.2.1, if_pos hmem])
            have hfalse := Aside0.mk (show fits z zb b r xs = false by rw [hF.out, ← HS.out.2.2.2.1, HT.out, if_pos (.inl hmem)])
            clear hmem
            go_wp2_with (first
              | (at_lookup; refine cnt_look HC.out h1 rfl _ _ rfl rfl rfl 1 hf1.out ?_)
              | (at_mapUpdate; refine cnt_put HC.out (by unfold maxLen; omega) h1 rfl _ _ _ rfl rfl rfl 2 rfl (by decide) ?_; intro w4 hC4 hg4; have HC4 := Aside0.mk hC4; have HB4 := Aside0.mk (HB.out.grown hg4 HB.out.size (fun k hk => by simp at hk; omega)); have d0 := cell_grown hg4 D0.out hne; have d2 := cell_grown hg4 D2.out hne; clear hC4 hg4)
              | (at_lookup; refine cnt_look HC4.out h1 rfl _ _ rfl rfl rfl 2 (by simp [updC]) ?_))
            go_ret
            exact ⟨by rw [hfalse.out]; rfl, HB4.out⟩
          · have hf1 := Aside0.mk (show f t.1 = 0 by rw [HS.out.2.2.1, if_neg hmem])
            by_cases hq : left < t.2.2.1
            · have hfalse := Aside0.mk (show fits z zb b r xs = false by rw [hF.out, ← HS.out.2.2.2.1, HT.out, if_pos (.inr hq)])
              clear hmem
              go_wp2_with (first
              | (at_lookup; refine cnt_look HC.out h1 rfl _ _ rfl rfl rfl 0 hf1.out ?_)
              | (at_mapUpdate; refine cnt_put HC.out (by unfold maxLen; omega) h1 rfl _ _ _ rfl rfl rfl 1 rfl (by decide) ?_; intro w4 hC4 hg4; have HC4 := Aside0.mk hC4; have HB4 := Aside0.mk (HB.out.grown hg4 HB.out.size (fun k hk => by simp at hk; omega)); have d0 := cell_grown hg4 D0.out hne; have d2 := cell_grown hg4 D2.out hne; clear hC4 hg4)
              | (at_lookup; refine cnt_look HC4.out h1 rfl _ _ rfl rfl rfl 1 (by simp [updC]) ?_))
              go_ret
              exact ⟨by rw [hfalse.out]; rfl, HB4.out⟩
            · have hnext := Aside0.mk (show fitsF (left - t.2.2.1) (t.1 :: seen) (xs.drop (i + 1)) = fitsF L0 [] xs by rw [← HS.out.2.2.2.1, HT.out, if_neg (by intro h; rcases h with h | h; exact hmem h; exact hq h)])
              clear hmem
              go_wp2_with (first
              | (at_lookup; refine cnt_look HC.out h1 rfl _ _ rfl rfl rfl 0 hf1.out ?_)
              | (at_mapUpdate; refine cnt_put HC.out (by unfold maxLen; omega) h1 rfl _ _ _ rfl rfl rfl 1 rfl (by decide) ?_; intro w4 hC4 hg4; have HC4 := Aside0.mk hC4; have HB4 := Aside0.mk (HB.out.grown hg4 HB.out.size (fun k hk => by simp at hk; omega)); have d0 := cell_grown hg4 D0.out hne; have d2 := cell_grown hg4 D2.out hne; clear hC4 hg4)
              | (at_lookup; refine cnt_look HC4.out h1 rfl _ _ rfl rfl rfl 1 (by simp [updC]) ?_))
              go_roundg (gk - 1)
              case measure => have := HS.out.1; omega
              case rel => exact ⟨i + 1, left - t.2.2.1, t.1 :: seen, _, by congr 1; omega, by congr 1, by omega, by omega, ⟨by have := HS.out.1; omega, HC4.out, fun k => by
                have := HS.out.2.2.1 k
                by_cases e : k = t.1
                · subst e; simp [updC]
                · simp [updC, e, this], hnext.out, HB4.out⟩⟩
        · have hin : i = n := by omega
          subst hin
          have htrue := Aside0.mk (show fits z zb b r xs = true by
            rw [hF.out, ← HS.out.2.2.2.1, List.drop_of_length_le (by rw [HL.out]; omega)]
            rfl)
          go_wp2
          go_ret
          exact ⟨by rw [htrue.out]; rfl, HS.out.2.2.2.2⟩
    · have hF := Aside0.mk (show fits z zb b r xs = false from by unfold fits; rw [decide_eq_false (show ¬ xs.length ≤ 64 by rw [HL.out]; exact h64)]; simp)
      go_wp2
      go_ret
      exact ⟨by rw [hF.out]; rfl, HB1.out⟩
  · rw [decide_eq_false hrt]
    have hF := Aside0.mk (show fits z zb b r xs = false from by unfold fits; rw [decide_eq_false hrt]; simp)
    clear hrt
    go_wp2
    go_ret
    exact ⟨by rw [hF.out]; rfl, HB1.out⟩
end Go.Proofs.Ytiepfinipmafcaa.Led
