/- Crash of the document's device. -/
import Derived.Test.YtmkjglnggkkpeaaRefApp
import Derived.Deep.DeepCutAuto
namespace Go.Proofs.Ytmkjglnggkkpeaa.Dv
open Go.RowKit Go.Proofs.YtmkjglnggkkpeaaW.PrintWords Go.Proofs.YtmkjglnggkkpeaaW.PrintMore Go.Proofs.Ytmkjglnggkkpeaa.Base Go.Proofs.Ytmkjglnggkkpeaa.Shp
set_option linter.unusedVariables false
set_option linter.unusedSimpArgs false
attribute [local go_sem] max2_mx min2_mn max_two min_two
/-- What stays of block k. -/
def rstep (b : Nat) (du keep torn : Int) (k : Nat) (x : List UInt8) : List (List UInt8) :=
  if (k : Int) - du < 0 ∨ (k : Int) - du < keep then [x] else if (k : Int) - du = mx keep 0 ∧ 0 < torn then [front b (mn (b : Int) torn).toNat x] else []
/-- What stays of the first k blocks. -/
def rstay (b : Nat) (du keep torn : Int) : Nat → List (List UInt8) → List (List UInt8)
  | 0, _ => []
  | k + 1, xs => rstay b du keep torn k xs ++ rstep b du keep torn k (xs.getD k [])
theorem rstep_len (b : Nat) (du keep torn : Int) (k : Nat) (x : List UInt8) : (rstep b du keep torn k x).length ≤ 1 := by
  unfold rstep
  split
  · exact Nat.le_refl 1
  · split
    · exact Nat.le_refl 1
    · exact Nat.zero_le 1
theorem loss_new (w : World) (k t : Int) : (w.alloc (.cells #[.int .i64 k, .int .i64 t] 67)).cell? ⟨w.heap.size, 0, none⟩ = some (.int .i64 k) ∧ (w.alloc (.cells #[.int .i64 k, .int .i64 t] 67)).cell? ⟨w.heap.size, 1, none⟩ = some (.int .i64 t) := ⟨by go_simp, by go_simp⟩
theorem rstay_len (b : Nat) (du keep torn : Int) (k : Nat) (xs : List (List UInt8)) : (rstay b du keep torn k xs).length ≤ k := by
  induction k with
  | zero => simp [rstay]
  | succ k ih => rw [rstay, List.length_append]; have := rstep_len b du keep torn k (xs.getD k []); omega
def rcrashF (b : Nat) (ls : List (Int × Int)) (i : Nat) (p : Zn) : Zn :=
  (rstay b p.2 (ls.getD i (0, 0)).1 (ls.getD i (0, 0)).2 p.1.length p.1, (((rstay b p.2 (ls.getD i (0, 0)).1 (ls.getD i (0, 0)).2 p.1.length p.1).length : Nat) : Int))
/-- Zones' blocks are of b bytes, not too many; durable ones are there. -/
def RFit (b : Nat) (zs : List Zn) : Prop := ∀ p ∈ zs, 0 ≤ p.2 ∧ p.2 ≤ ((p.1.length : Nat) : Int) ∧ p.1.length ≤ 5000 ∧ ∀ x ∈ p.1, x.length = b
theorem RFit.get {b : Nat} {zs : List Zn} (h : RFit b zs) {i : Nat} (hi : i < zs.length) {p : Zn} (hp : zs.getD i ([], 0) = p) : 0 ≤ p.2 ∧ p.2 ≤ ((p.1.length : Nat) : Int) ∧ p.1.length ≤ 5000 ∧ ∀ x ∈ p.1, x.length = b :=
  h p (by rw [← hp, List.getD_eq_getElem?_getD, List.getElem?_eq_getElem hi]; exact List.getElem_mem _)
theorem blk_of {w : World} {ok : Nat → Prop} {B : Option Addr} {n : Nat} {xs : List (List UInt8)} (h : Kd.F bytesK w ok B n xs) {i : Nat} (hi : i < n) {x : List UInt8} (hx : xs.getD i [] = x) :
    ∃ pb A0 k0, B = some pb ∧ w.cell? (pb.add i) = some (.slice A0 x.length k0) ∧ x.length ≤ k0 ∧ byte.C w A0 x.length x ∧ Kd.FK bytesK w ok x [.slice A0 x.length k0] := by
  obtain ⟨pb, c, rfl, hl, hF, hcc, -⟩ := Kd.F_get h [] (i : Int) (by omega) (by omega)
  rw [Int.toNat_natCast, hx] at hF
  rw [Int.toNat_natCast] at hcc
  obtain ⟨A0, k0, rfl, hk, hB⟩ := Kd.FK_slice_open hF
  refine ⟨pb, A0, k0, rfl, ?_, hk, Kd.F_now hB, hF⟩
  have := hcc 0 _ rfl
  rwa [show i * bytesK.sz + 0 = i from by show i * 1 + 0 = i; omega] at this
/-- What stays, so far, as a row. -/
structure StM (wc wq : World) (ok0 : Nat → Prop) (v : Value) (xs : List (List UInt8)) (S : Nat → Prop) : Prop where
  row : Kd.N bytesK 32 wq wc.heap.size S v xs
  foot : ∀ j, S j → (ok0 j ∧ j < wc.heap.size) ∨ (wc.heap.size ≤ j ∧ j < wq.heap.size)
  bel : Below wc.heap.size wc wq
theorem StM.below {wc wq w1 : World} {ok0 : Nat → Prop} {v : Value} {xs : List (List UInt8)} {S : Nat → Prop} (h : StM wc wq ok0 v xs S) (hb : Below wq.heap.size wq w1) : StM wc w1 ok0 v xs S :=
  ⟨Kd.N_below h.row hb, fun j hj => (h.foot j hj).imp id (fun h2 => ⟨h2.1, Nat.lt_of_lt_of_le h2.2 hb.size⟩), h.bel.trans (hb.mono h.bel.size)⟩
theorem StM.add {wc wq w1 : World} {ok0 : Nat → Prop} {v v1 : Value} {xs ys : List (List UInt8)} {S O : Nat → Prop} (h : StM wc wq ok0 v xs S) (hN : Kd.N bytesK 32 w1 wc.heap.size (fun k => S k ∨ O k ∨ wq.heap.size ≤ k) v1 ys) (hg : wq.grownBy w1 v.ownBlock)
    (hO : ∀ j, O j → (ok0 j ∧ j < wc.heap.size) ∨ (wc.heap.size ≤ j ∧ j < wq.heap.size)) : StM wc w1 ok0 v1 ys (fun k => (S k ∨ O k ∨ wq.heap.size ≤ k) ∧ k < w1.heap.size) := by
  refine ⟨Kd.N_bound hN, fun j hj => ?_, h.bel.grown hg h.bel.size (fun k hk => Kd.N_base h.row k hk)⟩
  have hsz := hg.size
  have hsz2 := h.bel.size
  rcases hj.1 with h1 | h1 | h1
  · exact (h.foot j h1).imp id (fun h2 => ⟨h2.1, hj.2⟩)
  · exact (hO j h1).imp id (fun h2 => ⟨h2.1, hj.2⟩)
  · exact .inr ⟨by omega, hj.2⟩
set_option maxRecDepth 100000 in
set_option maxHeartbeats 4000000 in
theorem rcrash_calls (rb base : Nat) (ok : Nat → Prop) (z zb r : Int) (bn : Nat) (hb1 : 0 < bn) (hb2 : bn ≤ 4096) (zs : List Zn) (hfit : RFit bn zs) (v : Value) (A : Option Addr) (nl kl : Nat) (ls : List (Int × Int)) (w : World) (h : RDv w rb base ok z zb bn r zs v) (hok : ∀ k, w.heap.size ≤ k → ok k) (hCk : ∀ w1, Chg w w1 ok → lossK.C w1 A nl ls) :
    Calls Try.prog 40 #[.pointer (some ⟨rb, 0, none⟩), .slice A nl kl] w fun e w' => e = .returned (.tuple #[]) ∧ RDv w' rb base ok z zb bn r (zs.mapIdx (rcrashF bn ls)) v ∧ Chg w w' ok := by
  have HD := Aside0.mk h
  obtain ⟨A0, m, cp, rfl, hm, hmc, hmm⟩ := h.form
  obtain ⟨hnl, hnm⟩ := C_len (hCk w (Chg.refl _ _))
  have HNL := Aside0.mk hnl
  have HM := Aside0.mk hm
  have HCK := Aside0.mk hCk
  have HOK := Aside0.mk hok
  have HFIT := Aside0.mk hfit
  clear h hm hok hCk hfit hnl
  go_enter Try.func40, Try.ntmps40
  go_wp2
  go_loopg [4, 5, 6, 7, 8, 9, 10, 11, 12] m (fun g v4 v5 v6 v7 v8 v9 v10 v11 v12 wr => ∃ i : Nat, v4 = .int .i64 (i : Int) ∧ i ≤ m ∧ Aside0 (g + i = m) ∧ Aside0 (RDv wr rb base ok z zb bn r (zupto (rcrashF bn ls) i zs) (.slice A0 m cp) ∧ Chg w wr ok))
  case atStart => exact ⟨0, rfl, by omega, ⟨rfl⟩, ⟨by rw [zupto_zero]; exact HD.out, Chg.refl _ _⟩⟩
  case round =>
    obtain ⟨i, rfl, hi, HK, HS⟩ := hrel
    obtain ⟨g1, rfl⟩ : ∃ g1 : Nat, g1 = gk := ⟨_, rfl⟩
    obtain ⟨wo, rfl⟩ : ∃ wo : World, wo = wr := ⟨_, rfl⟩
    have HD1 := Aside0.mk HS.out.1
    obtain ⟨-, -, -, -, k4⟩ := HD1.out.cells
    by_cases hlt : i < m
    · obtain ⟨p, hp⟩ : ∃ p, zs.getD i ([], 0) = p := ⟨_, rfl⟩
      obtain ⟨hft1, hft2, hft3, hft4⟩ := HFIT.out.get (by rw [← HM.out]; exact hlt) hp
      have HFT4 := Aside0.mk hft4
      have HP := Aside0.mk hp
      have HLC := Aside0.mk (HCK.out wo HS.out.2)
      obtain ⟨keep, hkeep⟩ : ∃ keep, (ls.getD i (0, 0)).1 = keep := ⟨_, rfl⟩
      obtain ⟨torn, htorn⟩ : ∃ torn, (ls.getD i (0, 0)).2 = torn := ⟨_, rfl⟩
      obtain ⟨W, hW⟩ : ∃ W, wo.alloc (.cells #[.int .i64 keep, .int .i64 torn] 67) = W := ⟨_, rfl⟩
      have hBW : Below wo.heap.size wo W := by rw [← hW]; exact alloc_below _ _
      obtain ⟨ad, cp', B, k, hv, c0, c1, hk, hI, hF, f0, f1, hoa, hax, hal, -, -, hput⟩ := (HD1.out.below hBW).zone (j := i) (by rw [zupto_len, ← HM.out]; exact hlt) ((zupto_getD _ _).trans hp)
      obtain ⟨rfl, rfl⟩ : A0 = some ad ∧ cp = cp' := by simp only [Value.slice.injEq] at hv; exact ⟨hv.1, hv.2.2⟩
      have x0 : W.cell? ⟨wo.heap.size, 0, none⟩ = some (.int .i64 keep) := hW ▸ (loss_new wo keep torn).1
      have x1 : W.cell? ⟨wo.heap.size, 1, none⟩ = some (.int .i64 torn) := hW ▸ (loss_new wo keep torn).2
      have k2 := (HD1.out.below hBW).cells.2.2.1
      have k4' := (HD1.out.below hBW).cells.2.2.2.2
      have HCELL := Aside0.mk (And.intro c0 (And.intro c1 (And.intro x0 (And.intro x1 (And.intro k2 (And.intro k4' (And.intro f0 f1)))))))
      have HF := Aside0.mk hF
      have HPUT := Aside0.mk hput
      have HAD := Aside0.mk (And.intro hoa (And.intro hax hal))
      have HBW := Aside0.mk hBW
      have HWW := Aside0.mk hW
      clear hp hft4 hv hI hF hput hoa hax hal hBW x0 x1 k2 k4' c0 c1 f0 f1 hW
      have HKE := Aside0.mk hkeep
      have HTO := Aside0.mk htorn
      have HIK : Aside0 (IsI keep ∧ IsI torn) := ⟨by
        by_cases hil : i < nl
        · obtain ⟨la, -, -, -, hkp, htn⟩ := loss_at HLC.out i hil
          rw [hkeep] at hkp
          rw [htorn] at htn
          exact ⟨hkp, htn⟩
        · rw [← hkeep, ← htorn, List.getD_eq_getElem?_getD, List.getElem?_eq_none (by rw [HNL.out]; omega)]
          exact ⟨⟨by simp, by simp⟩, ⟨by simp, by simp⟩⟩⟩
      clear hkeep htorn
      go_upto_if 26 with fail
      go_cut [] (fun wx => Aside0 (wx = W))
      case first =>
        by_cases hil : i < nl
        · obtain ⟨la, rfl, l0, l1, hkp, htn⟩ := loss_at HLC.out i hil
          rw [HKE.out] at l0
          rw [HTO.out] at l1
          have l0 := pw_cell_below (alloc_below wo (.cells #[.int .i64 0, .int .i64 0] 67)) l0
          have l1 := pw_cell_below (alloc_below wo (.cells #[.int .i64 0, .int .i64 0] 67)) l1
          clear hkp htn
          go_wp2
          go_meet
          exact HWW
        · obtain rfl : keep = 0 := by rw [← HKE.out, List.getD_eq_getElem?_getD, List.getElem?_eq_none (by rw [HNL.out]; omega)]; rfl
          obtain rfl : torn = 0 := by rw [← HTO.out, List.getD_eq_getElem?_getD, List.getElem?_eq_none (by rw [HNL.out]; omega)]; rfl
          go_wp2
          go_meet
          exact HWW
      case rest =>
        obtain rfl := hcut.out
        obtain ⟨gx, hgx⟩ : ∃ gx, wo.heap.size = gx := ⟨_, rfl⟩
        rw [hgx] at HCELL ⊢
        have HGX := Aside0.mk hgx
        clear hgx k4
        obtain ⟨c0, c1, x0, x1, k2, k4, f0, f1⟩ := HCELL.out
        have hplen : p.1.length ≤ 9223372036854775807 := by omega
        have HFB := Aside0.mk (show Kd.F bytesK wc (fun j => ok j ∧ j ≠ ad.block ∧ j < wc.heap.size) B p.1.length p.1 from Kd.F_mono (Kd.F_bound HF.out) (fun j hj => ⟨hj.1.1, hj.1.2, hj.2⟩))
        go_wp2_with fail
        clear c0 c1 x0 x1 k2 k4 f0 f1
        go_loopg [6, 8, 9, 10, 11, 12] p.1.length (fun g v6 v8 v9 v10 v11 v12 wq => ∃ q : Nat, v8 = .int .i64 (q : Int) ∧ q ≤ p.1.length ∧ Aside0 (g + q = p.1.length) ∧ Aside0 (∃ S, StM wc wq (fun j => ok j ∧ j ≠ ad.block) v6 (rstay bn p.2 keep torn q p.1) S))
        case atStart => exact ⟨0, rfl, by omega, ⟨rfl⟩, ⟨fun _ => False, Kd.N_nil _ _ _ _ _, fun _ h => h.elim, Below.refl _ _⟩⟩
        case round =>
          obtain ⟨q, rfl, hq, HQ, HSQ⟩ := hrel
          obtain ⟨g2, rfl⟩ : ∃ g2 : Nat, g2 = gk := ⟨_, rfl⟩
          obtain ⟨wq, rfl⟩ : ∃ wq : World, wq = wr := ⟨_, rfl⟩
          obtain ⟨S, hst⟩ := HSQ.out
          have HST := Aside0.mk hst
          obtain ⟨As, ns, cs, rfl, -, hCs⟩ := N_open hst.row
          have hns : ns ≤ 5000 := by rw [← (C_len hCs).1]; exact Nat.le_trans (rstay_len _ _ _ _ _ _) (by omega)
          have HNS := Aside0.mk (show (rstay bn p.2 keep torn q p.1).length ≤ 5000 from Nat.le_trans (rstay_len _ _ _ _ _ _) (by omega))
          have hb := hst.bel
          have c0 := pw_cell_below hb HCELL.out.1
          have c1 := pw_cell_below hb HCELL.out.2.1
          have x0 := pw_cell_below hb HCELL.out.2.2.1
          have x1 := pw_cell_below hb HCELL.out.2.2.2.1
          have k2 := pw_cell_below hb HCELL.out.2.2.2.2.1
          have k4 := pw_cell_below hb HCELL.out.2.2.2.2.2.1
          have f0 := pw_frozen_below (p := ad.add (i * 2)) hb (by show (ad.add (i * 2)).block < _; rw [add_block]; exact HAD.out.2.2) HCELL.out.2.2.2.2.2.2.1
          have f1 := pw_frozen_below (p := ⟨(ad.add (i * 2)).block, (ad.add (i * 2)).off + 1, none⟩) hb (by show (ad.add (i * 2)).block < _; rw [add_block]; exact HAD.out.2.2) HCELL.out.2.2.2.2.2.2.2
          clear hst hCs hb
          by_cases hql : q < p.1.length
          · obtain ⟨x, hx⟩ : ∃ x, p.1.getD q [] = x := ⟨_, rfl⟩
            have HXB := Aside0.mk (HFT4.out x (by rw [← hx, List.getD_eq_getElem?_getD, List.getElem?_eq_getElem hql]; exact List.getElem_mem _))
            have hxl : x.length ≤ 4096 := by rw [HXB.out]; exact hb2
            obtain ⟨pb, A0, k0, rfl, e0, hk0, hC0, hFK0⟩ := blk_of (Kd.F_below (Kd.F_mono HFB.out (fun j hj => hj)) HST.out.bel) hql hx
            have HX := Aside0.mk hx
            have HC0 := Aside0.mk hC0
            have HFK := Aside0.mk hFK0
            obtain ⟨t, ht⟩ : ∃ t : Int, (q : Int) - p.2 = t := ⟨_, rfl⟩
            have HT := Aside0.mk ht
            obtain ⟨⟨kp1, kp2⟩, ⟨tn1, tn2⟩⟩ := HIK.out
            clear hx hC0 hFK0 f0 f1
            by_cases c : t < 0 ∨ t < keep
            · have HCC := Aside0.mk c
              by_cases ct : t < 0
              · have hd1 : decide (t < 0) = true := decide_eq_true ct
                clear c ct
                go_wp2_with (at_builtin; (refine app_blk wc.heap.size S (fun j => ok j ∧ j ≠ ad.block ∧ j < wc.heap.size) (.tmp 74) (.tmp 76) rfl rfl _ (rstay bn p.2 keep torn q p.1) x A0 x.length k0 HFK.out (fun j hj e => (by have h1 := Kd.N_base HST.out.row j e.symm; have h2 := hj.2.2; omega)) rfl (by simp [Act.eval]) HST.out.row HST.out.bel.size (by have := HNS.out; omega) ?_; intro v9 w9 hN9 hg9))
                have HST9 := Aside0.mk (HST.out.add hN9 hg9 (fun j hj => .inl ⟨⟨hj.1, hj.2.1⟩, hj.2.2⟩))
                clear hN9 hg9 c0 c1 x0 x1 k2 k4 e0
                go_roundg (g2 - 1)
                case measure => have := HQ.out; omega
                case rel =>
                  have h9 := HST9.out
                  rw [show rstay bn p.2 keep torn q p.1 ++ [x] = rstay bn p.2 keep torn (q + 1) p.1 by rw [rstay, HX.out, rstep, if_pos (by rw [HT.out]; exact HCC.out)]] at h9
                  exact ⟨q + 1, by congr 1, by omega, ⟨by have := HQ.out; omega⟩, Aside0.mk ⟨_, h9⟩⟩
              · have hd1 : decide (t < 0) = false := decide_eq_false ct
                have hd2 : decide (t < keep) = true := decide_eq_true (c.resolve_left ct)
                clear c ct
                go_wp2_with (at_builtin; (refine app_blk wc.heap.size S (fun j => ok j ∧ j ≠ ad.block ∧ j < wc.heap.size) (.tmp 74) (.tmp 76) rfl rfl _ (rstay bn p.2 keep torn q p.1) x A0 x.length k0 HFK.out (fun j hj e => (by have h1 := Kd.N_base HST.out.row j e.symm; have h2 := hj.2.2; omega)) rfl (by simp [Act.eval]) HST.out.row HST.out.bel.size (by have := HNS.out; omega) ?_; intro v9 w9 hN9 hg9))
                have HST9 := Aside0.mk (HST.out.add hN9 hg9 (fun j hj => .inl ⟨⟨hj.1, hj.2.1⟩, hj.2.2⟩))
                clear hN9 hg9 c0 c1 x0 x1 k2 k4 e0
                go_roundg (g2 - 1)
                case measure => have := HQ.out; omega
                case rel =>
                  have h9 := HST9.out
                  rw [show rstay bn p.2 keep torn q p.1 ++ [x] = rstay bn p.2 keep torn (q + 1) p.1 by rw [rstay, HX.out, rstep, if_pos (by rw [HT.out]; exact HCC.out)]] at h9
                  exact ⟨q + 1, by congr 1, by omega, ⟨by have := HQ.out; omega⟩, Aside0.mk ⟨_, h9⟩⟩
            · have HCC := Aside0.mk c
              have hd1 : decide (t < 0) = false := decide_eq_false (fun h => c (.inl h))
              have hd2 : decide (t < keep) = false := decide_eq_false (fun h => c (.inr h))
              clear c
              by_cases hmx : t = mx keep 0
              · have hd3 : (t == mx keep 0) = true := by rw [beq_iff_eq]; exact hmx
                have HMX := Aside0.mk hmx
                clear hmx
                by_cases htn : 0 < torn
                · have hd4 : decide (0 < torn) = true := decide_eq_true htn
                  have HTP := Aside0.mk htn
                  clear htn
                  go_wp2_with (at_make; (refine Kd.R_make byte (w0 := wq) wq.heap.size 5 rfl rfl 32 (.tmp 92) (.tmp 92) rfl (bn : Int) rfl rfl Try.underlying32 (.int .u8 0) 1 info_u8 rfl (by decide) (by decide) (0 : UInt8) (ok := anyB) (okp := fun _ => False) rfl (fun _ h => h.elim) trivial (by omega) (by simp; omega) (Below.refl _ _) (Nat.le_refl _) ?_); intro v11 w11 hR hB _ _; rw [Int.toNat_natCast] at hR; have HO11 := Aside0.mk (show Own w11 wq.heap.size v11 (front bn 0 x) from hR); have HB11 := Aside0.mk hB; clear hR hB)
                  obtain ⟨A11, n11, c11, rfl, hc11, hC11⟩ := Own.reads HO11.out
                  obtain rfl : bn = n11 := by rw [← (C_len hC11).1, front_len (Nat.zero_le _) (Nat.zero_le _)]
                  have X1 := Aside0.mk x1
                  have K2 := Aside0.mk k2
                  clear hC11 x1 k2 x0 e0 c0 c1 k4 ht hd1 hd2 hd3 hd4
                  go_loopg [12] bn (fun g v12 wz => ∃ j : Nat, v12 = .int .i64 (j : Int) ∧ j ≤ bn ∧ (j : Int) ≤ torn ∧ Aside0 (g + j = bn) ∧ Aside0 (Own wz wq.heap.size (.slice A11 bn c11) (front bn j x) ∧ Below wq.heap.size wq wz))
                  case atStart => exact ⟨0, rfl, by omega, by have := HTP.out; omega, ⟨rfl⟩, ⟨HO11.out, HB11.out⟩⟩
                  case round =>
                    obtain ⟨j, rfl, hj, hjt, HJ, HSJ⟩ := hrel
                    obtain ⟨g3, rfl⟩ : ∃ g3 : Nat, g3 = gk := ⟨_, rfl⟩
                    obtain ⟨wz, rfl⟩ : ∃ wz : World, wz = wr := ⟨_, rfl⟩
                    have x1 := pw_cell_below HSJ.out.2 X1.out
                    have k2 := pw_cell_below HSJ.out.2 K2.out
                    by_cases hgo : j < bn ∧ (j : Int) < torn
                    · obtain ⟨hjb, hjtt⟩ := hgo
                      obtain ⟨g4, n4, cap4, he, hnn, hg4, hcell, hfr, hstr⟩ := HSJ.out.1.store j (by rw [front_len hj (by rw [HXB.out]; exact hj)]; exact hjb) (x.getD j 0)
                      simp only [Value.slice.injEq] at he
                      obtain ⟨rfl, rfl, rfl⟩ := he
                      obtain ⟨xa, rfl, hxc⟩ := byte_at (Kd.C_below HC0.out HSJ.out.2) j (by rw [HXB.out]; exact hjb)
                      have HSTR := Aside0.mk (show Own _ wq.heap.size (.slice (some ⟨g4, 0, none⟩) bn c11) (front bn (j + 1) x) from by rw [← front_set hjb (by rw [HXB.out]; exact hjb)]; exact hstr)
                      have HBB := Aside0.mk (Below.setCell HSJ.out.2 (p := ⟨g4, j, none⟩) hg4 (.int .u8 ((x.getD j 0).toNat : Int)))
                      have hd5 : decide (j < bn) = true := decide_eq_true hjb
                      have hd6 : decide ((j : Int) < torn) = true := decide_eq_true hjtt
                      have hjx : j < x.length := by rw [HXB.out]; exact hjb
                      obtain ⟨y, hy⟩ : ∃ y, x.getD j 0 = y := ⟨_, rfl⟩
                      obtain ⟨y2, hy2⟩ : ∃ y2, ((front bn j x).getD j 0) = y2 := ⟨_, rfl⟩
                      rw [hy] at HSTR HBB hxc
                      rw [hy2] at hcell
                      clear hstr hnn hy hy2
                      go_wp2
                      go_roundg (g3 - 1)
                      case measure => have := HJ.out; omega
                      case rel => exact ⟨j + 1, by congr 1, by omega, by omega, ⟨by have := HJ.out; omega⟩, ⟨HSTR.out, HBB.out⟩⟩
                    · have HEJ := Aside0.mk (show (mn (bn : Int) torn).toNat = j by unfold mn; split <;> omega)
                      have HWZ := Aside0.mk (HST.out.below HSJ.out.2)
                      have hOF := own_FK HSJ.out.1
                      have HOF := Aside0.mk hOF
                      have HOW := Aside0.mk (show ∀ k, some k = (Value.slice A11 bn c11).ownBlock → wq.heap.size ≤ k ∧ k < wz.heap.size from fun k hk => ⟨Kd.R_base HSJ.out.1 k hk.symm, own_lt HSJ.out.1 k hk.symm⟩)
                      clear hOF
                      have hsel : j < bn → decide ((j : Int) < torn) = false := fun h => decide_eq_false (fun h2 => hgo ⟨h, h2⟩)
                      by_cases hjb : j < bn
                      · have hd5 : decide (j < bn) = true := decide_eq_true hjb
                        have hd6 : decide ((j : Int) < torn) = false := hsel hjb
                        clear hsel hgo
                        go_wp2_with (at_builtin; (refine app_blk wc.heap.size S (fun k => some k = (Value.slice A11 bn c11).ownBlock) (.tmp 116) (.tmp 118) rfl rfl _ (rstay bn p.2 keep torn q p.1) (front bn j x) A11 bn c11 HOF.out (fun k hk e => (by have h1 := Kd.N_lt HST.out.row k e.symm; have h2 := (HOW.out k hk).1; omega)) rfl (by simp [Act.eval]) HWZ.out.row HWZ.out.bel.size (by have := HNS.out; omega) ?_; intro v9 w9 hN9 hg9))
                        have HST9 := Aside0.mk (HWZ.out.add hN9 hg9 (fun k hk => .inr ⟨Nat.le_trans HST.out.bel.size (HOW.out k hk).1, (HOW.out k hk).2⟩))
                        clear hN9 hg9 x1 k2
                        go_roundg (g2 - 1)
                        case measure => have := HQ.out; omega
                        case rel =>
                          have h9 := HST9.out
                          rw [show rstay bn p.2 keep torn q p.1 ++ [front bn j x] = rstay bn p.2 keep torn (q + 1) p.1 by rw [rstay, HX.out, rstep, if_neg (by rw [HT.out]; exact HCC.out), if_pos (by rw [HT.out]; exact ⟨HMX.out, HTP.out⟩), HEJ.out]] at h9
                          exact ⟨q + 1, by congr 1, by omega, ⟨by have := HQ.out; omega⟩, Aside0.mk ⟨_, h9⟩⟩
                      · have hd5 : decide (j < bn) = false := decide_eq_false hjb
                        clear hsel hgo
                        go_wp2_with (at_builtin; (refine app_blk wc.heap.size S (fun k => some k = (Value.slice A11 bn c11).ownBlock) (.tmp 116) (.tmp 118) rfl rfl _ (rstay bn p.2 keep torn q p.1) (front bn j x) A11 bn c11 HOF.out (fun k hk e => (by have h1 := Kd.N_lt HST.out.row k e.symm; have h2 := (HOW.out k hk).1; omega)) rfl (by simp [Act.eval]) HWZ.out.row HWZ.out.bel.size (by have := HNS.out; omega) ?_; intro v9 w9 hN9 hg9))
                        have HST9 := Aside0.mk (HWZ.out.add hN9 hg9 (fun k hk => .inr ⟨Nat.le_trans HST.out.bel.size (HOW.out k hk).1, (HOW.out k hk).2⟩))
                        clear hN9 hg9 x1 k2
                        go_roundg (g2 - 1)
                        case measure => have := HQ.out; omega
                        case rel =>
                          have h9 := HST9.out
                          rw [show rstay bn p.2 keep torn q p.1 ++ [front bn j x] = rstay bn p.2 keep torn (q + 1) p.1 by rw [rstay, HX.out, rstep, if_neg (by rw [HT.out]; exact HCC.out), if_pos (by rw [HT.out]; exact ⟨HMX.out, HTP.out⟩), HEJ.out]] at h9
                          exact ⟨q + 1, by congr 1, by omega, ⟨by have := HQ.out; omega⟩, Aside0.mk ⟨_, h9⟩⟩
                · have hd4 : decide (0 < torn) = false := decide_eq_false htn
                  have HNO := Aside0.mk (show ¬ (t = mx keep 0 ∧ 0 < torn) from fun h => htn h.2)
                  clear htn
                  go_wp2
                  go_roundg (g2 - 1)
                  case measure => have := HQ.out; omega
                  case rel =>
                    refine ⟨q + 1, by congr 1, by omega, ⟨by have := HQ.out; omega⟩, Aside0.mk ⟨S, ?_⟩⟩
                    have h9 := HST.out
                    rw [show rstay bn p.2 keep torn q p.1 = rstay bn p.2 keep torn (q + 1) p.1 by rw [rstay, HX.out, rstep, if_neg (by rw [HT.out]; exact HCC.out), if_neg (by rw [HT.out]; exact HNO.out), List.append_nil]] at h9
                    exact h9
              · have hd3 : (t == mx keep 0) = false := by rw [beq_eq_false_iff_ne]; exact hmx
                have HNO := Aside0.mk (show ¬ (t = mx keep 0 ∧ 0 < torn) from fun h => hmx h.1)
                clear hmx
                go_wp2
                go_roundg (g2 - 1)
                case measure => have := HQ.out; omega
                case rel =>
                  refine ⟨q + 1, by congr 1, by omega, ⟨by have := HQ.out; omega⟩, Aside0.mk ⟨S, ?_⟩⟩
                  have h9 := HST.out
                  rw [show rstay bn p.2 keep torn q p.1 = rstay bn p.2 keep torn (q + 1) p.1 by rw [rstay, HX.out, rstep, if_neg (by rw [HT.out]; exact HCC.out), if_neg (by rw [HT.out]; exact HNO.out), List.append_nil]] at h9
                  exact h9
          · obtain rfl : q = p.1.length := by omega
            have hn1 : ad.add (i * 2) ≠ ⟨(ad.add (i * 2)).block, (ad.add (i * 2)).off + 1, none⟩ := fun e => by have := congrArg Addr.off e; simp at this
            have hn2 := hn1.symm
            go_wp2
            clear c0 c1 x0 x1 k2 k4 f0 f1 hn1 hn2
            go_roundg (g1 - 1)
            case measure => have := HK.out; omega
            case rel =>
              have hab : (ad.add (i * 2)).block = ad.block := add_block _ _
              obtain ⟨hn, hc, -⟩ := Kd.N_reads' HST.out.row
              subst hn
              have hsz := HS.out.2.kept.1
              have hsz2 := HBW.out.size
              have hal := HAD.out.2.2
              have hnl := HNS.out
              refine ⟨i + 1, by congr 1, by omega, ⟨by have := HK.out; omega⟩, ⟨?_, (((HS.out.2.below HBW.out).below HST.out.bel).set (.inl (by rw [hab]; exact HAD.out.1)) _).set (.inl (by show ok (ad.add (i * 2)).block; rw [hab]; exact HAD.out.1)) _⟩⟩
              have := HPUT.out wq As cs (rstay bn p.2 keep torn p.1.length p.1) (((rstay bn p.2 keep torn p.1.length p.1).length : Nat) : Int) S HST.out.bel ⟨by omega, by omega⟩ (Kd.N_F HST.out.row) hc (fun j hj => (HST.out.foot j hj).elim (fun h1 => h1.1) (fun h1 => ⟨HOK.out j (by omega), by omega⟩))
              rw [show ((rstay bn p.2 keep torn p.1.length p.1, (((rstay bn p.2 keep torn p.1.length p.1).length : Nat) : Int)) : Zn) = rcrashF bn ls i (zs.getD i ([], 0)) by rw [HP.out]; unfold rcrashF; rw [HKE.out, HTO.out], zupto_set _ (by rw [← HM.out]; exact hlt)] at this
              exact this
    · obtain rfl : i = m := by omega
      go_wp2
      go_returns
      exact ⟨rfl, by rw [← zupto_all, ← HM.out]; exact HS.out.1, HS.out.2⟩
end Go.Proofs.Ytmkjglnggkkpeaa.Dv
