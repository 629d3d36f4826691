/- Append to a device. -/
import Derived.Test.YtmkjglnggkkpeaaDevNew
import Derived.Handy
namespace Go.Proofs.Ytmkjglnggkkpeaa.Dv
open Go.RowKit Go.Proofs.YtmkjglnggkkpeaaW.PrintWords Go.Proofs.YtmkjglnggkkpeaaW.PrintMore Go.Proofs.Ytmkjglnggkkpeaa.Base Go.Proofs.Ytmkjglnggkkpeaa.Shp
set_option linter.unusedVariables false
set_option linter.unusedSimpArgs false

/-- append(v, ys...) to bytes of the device's own. -/
theorem app_dev {ops : Array Oper} {rest : List Oper} {o : Oper} {a : Act} {Q : Exit → Act → World → Prop} {W : World} (base : Nat) (ok : Nat → Prop) (s x : Operand) (hgd : o.guard = none) (ho : o.op = .call { callee := .builtin .append, args := #[s, x], argTypes := #[32, 32] })
    (v : Value) (xs ys : List UInt8) (A : Option Addr) (m c : Nat) (hs : a.eval s = v) (hx : a.eval x = .slice A m c)
    (HO : byte.R 5 W base ok v xs) (hfresh : ∀ k, W.heap.size ≤ k → ok k) (HR : byte.C W A m ys) (hbase : base ≤ W.heap.size) (hl : xs.length + m ≤ 140737488355328)
    (h : ∀ v1 w1, byte.R 5 w1 base ok v1 (xs ++ ys) → W.grownBy w1 v.ownBlock → wpList Try.prog ops Q rest (a.put o.dst v1) w1) : wpList Try.prog ops Q (o :: rest) a W :=
  Kd.R_append_row (w0 := W) _ (0 : UInt8) base hgd s x 32 5 (.int .u8 0) 1 ho Try.underlying32 info_u8 rfl (by decide) v xs ys A m c ok hs hx hfresh HO HR (Below.refl _ _) hbase (by omega)
    (fun v1 w1 h1 h2 h3 _ => h v1 w1 h1 h3)

def addrV (z b : Int) (e : Int) : Ending := .returned (.tuple #[.agg #[.int .i64 z, .int .i64 b], .int .u16 e])
/-- What Append answers, and the parts behind it. -/
def AppR (zb b : Int) (ps : List Prt) (i : Int) (xs : List UInt8) (e : Ending) (ps' : List Prt) : Prop :=
  ((hasB ps.length i = false ∨ (xs.length : Int) ≠ b) ∧ e = addrV 0 0 100 ∧ ps' = ps) ∨
  (hasB ps.length i = true ∧ (xs.length : Int) = b ∧ zb ≤ ((ps.getD i.toNat ([], 0)).1.length : Int) / b ∧ e = addrV 0 0 101 ∧ ps' = ps) ∨
  (hasB ps.length i = true ∧ (xs.length : Int) = b ∧ ((ps.getD i.toNat ([], 0)).1.length : Int) / b < zb ∧ e = addrV i (((ps.getD i.toNat ([], 0)).1.length : Int) / b) 0 ∧ ps' = ps.set i.toNat ((ps.getD i.toNat ([], 0)).1 ++ xs, (ps.getD i.toNat ([], 0)).2))

theorem not_addr : ∀ q, q ∈ 73 :: partK.E → q ≠ 40 := by decide
/-- The result's cells. -/
theorem res_cells {w : World} {g : Nat} {x y : Int} (h : w.heap[g]? = some (.cells #[.int .i64 x, .int .i64 y] 40 (0, 0))) :
    w.cell? ⟨g, 0, none⟩ = some (.int .i64 x) ∧ w.cell? ⟨g, 1, none⟩ = some (.int .i64 y) ∧ w.frozen? ⟨g, 0, none⟩ = false ∧ w.frozen? ⟨g, 1, none⟩ = false :=
  ⟨by simp [World.cell?, h], by simp [World.cell?, h], by simp [World.frozen?, h], by simp [World.frozen?, h]⟩
theorem Dev.res {w : World} {xb base : Nat} {ok : Nat → Prop} {z zb b r : Int} {ps : List Prt} {v : Value} (h : Dev w xb base ok z zb b r ps v) {g : Nat} {cells : Array Value} (hb : w.heap[g]? = some (.cells cells 40 (0, 0))) (hx : xb ≠ g) (u u' : Value) :
    Dev ((w.setCell ⟨g, 0, none⟩ u).setCell ⟨g, 1, none⟩ u') xb base ok z zb b r ps v :=
  (h.set hb not_addr hx 0 u).set (blk_set hb 0 u) not_addr hx 1 u'
set_option maxHeartbeats 4000000 in
theorem append_calls (xb base : Nat) (ok : Nat → Prop) (z zb b r : Int) (hrt : Rt z zb b r) (ps : List Prt) (v : Value) (i : Int) (hi : IsI i) (A : Option Addr) (n cap : Nat) (xs : List UInt8) (w : World) (h : Dev w xb base ok z zb b r ps v)
    (hok : ∀ k, w.heap.size ≤ k → ok k) (hC : byte.C w A n xs) (hsz : ∀ p ∈ ps, p.1.length ≤ 100000000) :
    Calls Try.prog 16 #[.pointer (some ⟨xb, 0, none⟩), .int .i64 i, .slice A n cap] w
      fun e w' => ∃ ps', AppR zb b ps i xs e ps' ∧ Dev w' xb base ok z zb b r ps' v ∧ Chg w w' ok := by
  obtain ⟨hlen, hmax⟩ := C_len hC
  have HL := Aside0.mk hlen
  have HC := Aside0.mk hC
  have hxg : xb ≠ w.heap.size := by have := (Array.getElem?_eq_some_iff.1 h.blk).1; omega
  have hA := alloc_below w (.cells #[.int .i64 0, .int .i64 0] 40)
  have HD := Aside0.mk (h.below hA)
  have HA := Aside0.mk hA
  have HOK := Aside0.mk hok
  have HSZ := Aside0.mk hsz
  obtain ⟨hb1, hb2⟩ := pow_rng hrt.2.2.2.2.1
  have HRT := Aside0.mk hrt
  obtain ⟨k0, k1, k2, k3, k4⟩ := HD.out.cells
  obtain ⟨hi1, hi2⟩ := hi
  clear hlen hC hA h hok hsz hrt k0 k3
  by_cases hh : 0 ≤ i ∧ i < (ps.length : Int)
  · have HH := Aside0.mk (hasB_true hh.1 hh.2)
    by_cases hnb : (n : Int) = b
    · have hnb2 : ((n : Int) != b) = false := by rw [bne_eq_false_iff_eq]; exact hnb
      have hnb3 : ((n : Int) == b) = true := by rw [beq_iff_eq]; exact hnb
      obtain ⟨j, rfl⟩ : ∃ j : Nat, i = (j : Int) := ⟨i.toNat, by omega⟩
      obtain ⟨p, hp⟩ : ∃ p, ps.getD j ([], 0) = p := ⟨_, rfl⟩
      obtain ⟨ad, cp, B, k, oki, rfl, c0, c1, hk, hI, hB, -, -, -, -, -, -, -, -, -⟩ := HD.out.part (by omega) hp
      have hpm : p.1.length ≤ 100000000 := HSZ.out p (by rw [← hp, List.getD_eq_getElem?_getD, List.getElem?_eq_getElem (by omega)]; exact List.getElem_mem _)
      have HP := Aside0.mk hp
      obtain ⟨m, hm⟩ : ∃ m, ps.length = m := ⟨_, rfl⟩
      have HM := Aside0.mk hm
      obtain ⟨hh0, hh1⟩ := hh
      rw [hm] at hh1 k4
      have hmm : m ≤ 9223372036854775807 := by
        obtain ⟨_, _, _, _, e2, _, _, e3⟩ := HD.out.form
        omega
      clear hp hm hB hI
      go_enter Try.func16, Try.ntmps16
      go_wp2_with fail
      refine (has_calls xb base ok z zb b r ps _ (j : Int) ⟨by omega, by omega⟩ _ HD.out).mono ?_
      rintro e w2 ⟨rfl, rfl⟩
      rw [HH.out]
      go_wp2_with fail
      refine (count_calls xb base ok z zb b r (by omega) (by omega) ps _ B p.1.length k (by omega) p.2 _ HD.out).mono ?_
      rintro e w3 ⟨rfl, hw3⟩
      have HD3 := Aside0.mk (HD.out.below hw3)
      have HC3 := Aside0.mk (Kd.C_below HC.out (below_go HA.out hw3))
      have HG := Aside0.mk (show w3.heap[w.heap.size]? = some (.cells #[.int .i64 0, .int .i64 0] 40 (0, 0)) from (hw3.block _ (by simp)).trans (blk_here rfl))
      have HB3 := Aside0.mk (below_go HA.out hw3)
      have HXG := Aside0.mk (show xb ≠ w.heap.size from hxg)
      have HCH := Aside0.mk (show Chg w w3 ok from Chg.of_below HB3.out _)
      have HFR := Aside0.mk (show ∀ k, w3.heap.size ≤ k → ok k from fun k hk => HOK.out k (Nat.le_trans HB3.out.size hk))
      have HGE := Aside0.mk (show w.heap.size ≤ w.heap.size from Nat.le_refl _)
      clear k1 k2 k4 c0 c1 hw3 HC HA HD hxg
      obtain ⟨g, hg⟩ : ∃ g, w.heap.size = g := ⟨_, rfl⟩
      rw [hg] at HG HXG ⊢
      have HGG := Aside0.mk hg
      clear hg HGE
      obtain ⟨-, k1, k2, -, k4⟩ := HD3.out.cells
      obtain ⟨g0, g1, f0, f1⟩ := res_cells HG.out
      obtain ⟨q, hq⟩ : ∃ q, (p.1.length : Int) / b = q := ⟨_, rfl⟩
      have HQ := Aside0.mk hq
      rw [hq]
      clear hq
      by_cases hcnt : zb ≤ q
      · go_wp2
        refine bodyPost_ret (by simp [results, Try.results16, go_sem, *]; rfl) rfl ?_
        refine ⟨ps, .inr (.inl ⟨HH.out, by rw [HL.out]; exact hnb, ?_, rfl, rfl⟩), HD3.out.res HG.out HXG.out _ _, (HCH.out.set (.inr (Nat.le_of_eq HGG.out)) _).set (.inr (Nat.le_of_eq HGG.out)) _⟩
        rw [Int.toNat_natCast, HP.out, HQ.out]; exact hcnt
      · obtain ⟨ad', cp', B', k', oki, hv, c0, c1, hk', hI', hB', hf0, hf1, hokg, hgx, hgl, hR, hoki, happ, -⟩ := HD3.out.part (by rw [HM.out]; omega) HP.out
        obtain ⟨rfl, rfl⟩ : ad = ad' ∧ cp = cp' := by simp only [Value.slice.injEq, Option.some.injEq] at hv; exact ⟨hv.1, hv.2.2⟩
        have HR := Aside0.mk hR
        have HAP := Aside0.mk happ
        have HOKI := Aside0.mk hoki
        have HBS := Aside0.mk (show base ≤ w3.heap.size from Nat.le_trans (Kd.S_base HD3.out.row ad.block (by obtain ⟨g', hg'⟩ := Kd.R_head (Kd.S_R HD3.out.row); rw [hg']; rfl)) (Nat.le_of_lt hgl))
        have HGL := Aside0.mk (Array.getElem?_eq_some_iff.1 HG.out).1
        have HNO := Aside0.mk (show some g ≠ (Value.slice B' p.1.length k').ownBlock from by
          intro e
          obtain ⟨cells, hc⟩ := Kd.R_typed hR g e.symm
          rw [HG.out] at hc
          simp at hc)
        have hga : ad.block ≠ g := by
          intro e
          obtain ⟨g', hg'⟩ := Kd.R_head (Kd.S_R HD3.out.row)
          obtain ⟨cells, hc⟩ := Kd.S_typed HD3.out.row ad.block (by rw [hg']; rfl)
          rw [e, HG.out] at hc
          simp at hc
        have hn0 : ad.add (j * 2) ≠ ⟨g, 0, none⟩ := fun e => hga (by have := congrArg Addr.block e; simpa [add_block] using this)
        have hn1 : ad.add (j * 2) ≠ ⟨g, 1, none⟩ := fun e => hga (by have := congrArg Addr.block e; simpa [add_block] using this)
        have hn2 := hn0.symm
        have hn3 := hn1.symm
        have HGA := Aside0.mk hga
        clear hv hB' hf0 hf1 hR hoki happ hga
        go_wp2_with (at_builtin; go_loud (refine app_dev base (fun k => oki k ∨ w3.heap.size ≤ k) (.tmp 48) (.tmp 49) rfl rfl _ p.1 xs A n cap rfl rfl (Kd.R_mono HR.out (fun k hk => .inl hk)) (fun k hk => .inr hk) HC3.out HBS.out (by omega) ?_); go_loud (intro v4 w4 hR4 hg4; obtain ⟨A4, c4, rfl, _, _⟩ := Kd.R_reads hR4; obtain ⟨hS4, hgr4, fr4, cl4⟩ := HAP.out w4 _ _ hg4 hR4 HFR.out; simp only [List.length_append] at hS4 hgr4; have HS4 := Aside0.mk hS4; have HGR4 := Aside0.mk hgr4; have HG4 := Aside0.mk hg4; have HRS := Aside0.mk (show w4.heap[g]? = some (.cells #[.int .i64 0, .int .i64 0] 40 (0, 0)) from (hg4.block g HGL.out HNO.out).trans HG.out); obtain ⟨q0, q1, q2, q3⟩ := res_cells HRS.out; clear hS4 hgr4 hg4 hR4))
        refine bodyPost_ret (by simp [results, Try.results16, go_sem, *]; rfl) rfl ?_
        have hab : (ad.add (j * 2)).block = ad.block := add_block _ _
        have hxl := (Array.getElem?_eq_some_iff.1 HD3.out.blk).1
        have hxo : some xb ≠ (Value.slice B' p.1.length k').ownBlock := by
          intro e
          obtain ⟨cells, hc⟩ := Kd.R_typed HR.out xb e.symm
          rw [HD3.out.blk] at hc
          simp at hc
        have dev5 : Dev (w4.setCell (ad.add (j * 2)) (.slice A4 (p.1.length + xs.length) c4)) xb base ok z zb b r (ps.set j (p.1 ++ xs, p.2)) (.slice (some ad) ps.length cp) :=
          ⟨blk_far ((HG4.out.block xb hxl hxo).trans HD3.out.blk) (by rw [hab]; exact hgx.symm) _, HS4.out⟩
        refine ⟨ps.set j (p.1 ++ xs, p.2), .inr (.inr ⟨HH.out, by rw [HL.out]; exact hnb, ?_, ?_, ?_⟩), dev5.res (blk_far HRS.out (by rw [hab]; exact HGA.out.symm) _) HXG.out _ _, ?_⟩
        · rw [Int.toNat_natCast, HP.out, HQ.out]; omega
        · rw [Int.toNat_natCast, HP.out, HQ.out]; rfl
        · rw [Int.toNat_natCast, HP.out]
        · exact (((HCH.out.grown HG4.out (fun k hk => .inl (HOKI.out k (HR.out.1 k hk)).1)).set (.inl (by rw [hab]; exact hokg)) _).set (.inr (Nat.le_of_eq HGG.out)) _).set (.inr (Nat.le_of_eq HGG.out)) _
    · have hnb2 : ((n : Int) != b) = true := by rw [bne_iff_ne]; exact hnb
      have hnb3 : ((n : Int) == b) = false := by rw [beq_eq_false_iff_ne]; exact hnb
      have HNB := Aside0.mk hnb
      clear hnb hh
      go_enter Try.func16, Try.ntmps16
      go_wp2_with fail
      refine (has_calls xb base ok z zb b r ps v i ⟨hi1, hi2⟩ _ HD.out).mono ?_
      rintro e w2 ⟨rfl, rfl⟩
      rw [HH.out]
      go_wp2
      go_returns
      exact ⟨ps, .inl ⟨.inr (by rw [HL.out]; exact HNB.out), rfl, rfl⟩, HD.out, Chg.of_below HA.out _⟩
  · have HH := Aside0.mk (hasB_false hh)
    clear hh
    go_enter Try.func16, Try.ntmps16
    go_wp2_with fail
    refine (has_calls xb base ok z zb b r ps v i ⟨hi1, hi2⟩ _ HD.out).mono ?_
    rintro e w2 ⟨rfl, rfl⟩
    rw [HH.out]
    go_wp2
    go_returns
    exact ⟨ps, .inl ⟨.inl HH.out, rfl, rfl⟩, HD.out, Chg.of_below HA.out _⟩
end Go.Proofs.Ytmkjglnggkkpeaa.Dv
