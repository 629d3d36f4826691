/- does: a call, on both. -/
import Derived.Test.YtmkjglnggkkpeaaTwo
import Derived.Test.YtmkjglnggkkpeaaBox
namespace Go.Proofs.Ytmkjglnggkkpeaa.Dv
open Go.RowKit Go.Proofs.YtmkjglnggkkpeaaW.PrintWords Go.Proofs.YtmkjglnggkkpeaaW.PrintMore Go.Proofs.Ytmkjglnggkkpeaa.Base Go.Proofs.Ytmkjglnggkkpeaa.Shp
set_option linter.unusedVariables false
set_option linter.unusedSimpArgs false
theorem flip_u8 : ∀ n : Fin 256, bits .xor .u8 ((n.1 : Nat) : Int) 255 = ((255 - n.1 : Nat) : Int) := by decide +kernel
theorem flip_byte (x : UInt8) : ∃ c : UInt8, bits .xor .u8 (x.toNat : Int) 255 = (c.toNat : Int) := by
  refine ⟨UInt8.ofNat (255 - x.toNat), ?_⟩
  rw [flip_u8 ⟨x.toNat, x.toNat_lt⟩]
  have : (UInt8.ofNat (255 - x.toNat)).toNat = 255 - x.toNat := by
    rw [UInt8.toNat_ofNat']
    have := x.toNat_lt
    omega
  rw [this]
theorem Two.chgS {w w1 : World} {xb rb B : Nat} {z zb b r : Int} {ps : List Prt} {zs : List Zn} {v vr : Value} {D R S : Nat → Prop} (h : Two w xb rb B z zb b r ps zs v vr D R) (hc : Chg w w1 S) (hx : ¬ S xb) (hr : ¬ S rb) (hd : ∀ k, D k → ¬ S k) (hrr : ∀ k, R k → ¬ S k) : Two w1 xb rb B z zb b r ps zs v vr D R :=
  ⟨h.dev.chg hc hx hd, h.ref.chg hc hr hrr, fun k hk => ⟨(h.dl k hk).1, Nat.lt_of_lt_of_le (h.dl k hk).2 hc.kept.1⟩, fun k hk => ⟨(h.rl k hk).1, Nat.lt_of_lt_of_le (h.rl k hk).2 hc.kept.1⟩, h.dr, h.xr, h.drb, h.rxb, h.bx⟩
theorem own_kept {w w1 : World} {base : Nat} {v : Value} {xs : List UInt8} {S : Nat → Prop} (h : Go.Proofs.Ytmkjglnggkkpeaa.Base.Own w base v xs) (hc : Chg w w1 S) (hS : ∀ k, base ≤ k → k < w.heap.size → ¬ S k) : Go.Proofs.Ytmkjglnggkkpeaa.Base.Own w1 base v xs :=
  Kd.R_mono (Kd.R_kept (Kd.R_bound h) hc.kept (fun j hj => hS j hj.2.1 hj.2.2.1)) (fun k _ => trivial)
theorem app_det {b zb : Nat} (hb : 0 < b) {zs : List Zn} (h : ZInv b zb zs) (i : Int) (xs : List UInt8) : ∃ (x y er : Int) (zs' : List Zn), (0 ≤ er ∧ er ≤ 200) ∧ ZInv b zb zs' ∧ zs'.length = zs.length ∧
    (∀ e ps', AppR (zb : Int) (b : Int) (zs.map flat) i xs e ps' → e = addrV x y er ∧ ps' = zs'.map flat) ∧ (∀ e z', RAppR (zb : Int) (b : Int) zs i xs e z' → e = raddrV x y er ∧ z' = zs') := by
  have tot : ∃ e z', RAppR (zb : Int) (b : Int) zs i xs e z' ∧ ∀ e2 z2, RAppR (zb : Int) (b : Int) zs i xs e2 z2 → e2 = e ∧ z2 = z' := by
    by_cases h1 : hasB zs.length i = true
    · by_cases h2 : (xs.length : Int) = (b : Int)
      · by_cases h3 : (zb : Int) ≤ (((zs.getD i.toNat ([], 0)).1.length : Nat) : Int)
        · refine ⟨_, _, .inr (.inl ⟨h1, h2, h3, rfl, rfl⟩), ?_⟩
          rintro e2 z2 (⟨a1, a2, a3⟩ | ⟨a1, a4, a5, a2, a3⟩ | ⟨a1, a4, a5, a2, a3⟩)
          · rcases a1 with a1 | a1
            · rw [h1] at a1; cases a1
            · exact absurd h2 a1
          · exact ⟨a2, a3⟩
          · omega
        · refine ⟨_, _, .inr (.inr ⟨h1, h2, by omega, rfl, rfl⟩), ?_⟩
          rintro e2 z2 (⟨a1, a2, a3⟩ | ⟨a1, a4, a5, a2, a3⟩ | ⟨a1, a4, a5, a2, a3⟩)
          · rcases a1 with a1 | a1
            · rw [h1] at a1; cases a1
            · exact absurd h2 a1
          · omega
          · exact ⟨a2, a3⟩
      · refine ⟨_, _, .inl ⟨.inr h2, rfl, rfl⟩, ?_⟩
        rintro e2 z2 (⟨a1, a2, a3⟩ | ⟨a1, a4, a5, a2, a3⟩ | ⟨a1, a4, a5, a2, a3⟩)
        · exact ⟨a2, a3⟩
        · exact absurd a4 h2
        · exact absurd a4 h2
    · have h1 : hasB zs.length i = false := by simpa using h1
      refine ⟨_, _, .inl ⟨.inl h1, rfl, rfl⟩, ?_⟩
      rintro e2 z2 (⟨a1, a2, a3⟩ | ⟨a1, a4, a5, a2, a3⟩ | ⟨a1, a4, a5, a2, a3⟩)
      · exact ⟨a2, a3⟩
      · rw [h1] at a1; cases a1
      · rw [h1] at a1; cases a1
  obtain ⟨e0, z0, hR, hd⟩ := tot
  have tot2 : ∃ e p', AppR (zb : Int) (b : Int) (zs.map flat) i xs e p' := by
    by_cases h1 : hasB (zs.map flat).length i = true
    · by_cases h2 : (xs.length : Int) = (b : Int)
      · by_cases h3 : (zb : Int) ≤ ((((zs.map flat).getD i.toNat ([], 0)).1.length : Nat) : Int) / (b : Int)
        · exact ⟨_, _, .inr (.inl ⟨h1, h2, h3, rfl, rfl⟩)⟩
        · exact ⟨_, _, .inr (.inr ⟨h1, h2, by omega, rfl, rfl⟩)⟩
      · exact ⟨_, _, .inl ⟨.inr h2, rfl, rfl⟩⟩
    · exact ⟨_, _, .inl ⟨.inl (by simpa using h1), rfl, rfl⟩⟩
  obtain ⟨e1, p1, hA⟩ := tot2
  obtain ⟨x, y, er, her, -, h2, -, h4, h5⟩ := app_agree hb h hA hR
  refine ⟨x, y, er, z0, her, h4, h5, fun e ps' hh => ?_, fun e z' hh => ?_⟩
  · obtain ⟨x', y', er', -, k1, k2, k3, -, -⟩ := app_agree hb h hh hR
    rw [h2] at k2
    unfold raddrV at k2
    simp only [Ending.returned.injEq, Value.tuple.injEq, Array.mk.injEq, List.cons.injEq, Value.agg.injEq, Value.int.injEq, true_and, and_true] at k2
    obtain ⟨⟨rfl, rfl⟩, rfl⟩ := k2
    exact ⟨k1, k3⟩
  · obtain ⟨k1, k2⟩ := hd e z' hh
    exact ⟨k1.trans h2, k2⟩
/-- What a call leaves. -/
def Both (w w' : World) (xb rb B zn zbn bn : Nat) (r : Int) (v vr : Value) : Prop := ∃ zs D R, Two w' xb rb B zn zbn bn r (zs.map flat) zs v vr D R ∧ ZInv bn zbn zs ∧ zs.length = zn ∧ Below B w w'
/-- A call in its box. -/
def OpBox (W : World) (p : Nat) (o : OpT) (F : Option Addr) (cf : Nat) (L : Option Addr) (cl : Nat) : Prop := W.heap[p]? = some (.cells #[.int .u8 o.1, .int .i64 o.2.1, .int .i64 o.2.2.1, .slice F o.2.2.2.1.length cf, .slice L o.2.2.2.2.length cl] 35 (0, 0))
section
variable {W w1 : World} {p : Nat} {o : OpT} {F L : Option Addr} {cf cl : Nat}
theorem OpBox.lt (h : OpBox W p o F cf L cl) : p < W.heap.size := (Array.getElem?_eq_some_iff.1 h).1
theorem OpBox.below (h : OpBox W p o F cf L cl) (hb : Below W.heap.size W w1) : OpBox w1 p o F cf L cl := (hb.block p h.lt).trans h
theorem OpBox.chg (h : OpBox W p o F cf L cl) {S : Nat → Prop} (hc : Chg W w1 S) (hp : ¬ S p) : OpBox w1 p o F cf L cl := (hc.kept.2 p h.lt hp).trans h
theorem OpBox.cells (h : OpBox W p o F cf L cl) : W.cell? ⟨p, 0, none⟩ = some (.int .u8 o.1) ∧ W.cell? ⟨p, 1, none⟩ = some (.int .i64 o.2.1) ∧ W.cell? ⟨p, 2, none⟩ = some (.int .i64 o.2.2.1) ∧ W.cell? ⟨p, 3, none⟩ = some (.slice F o.2.2.2.1.length cf) ∧ W.cell? ⟨p, 4, none⟩ = some (.slice L o.2.2.2.2.length cl) := by
  have h : W.heap[p]? = _ := h
  exact ⟨by simp [World.cell?, h], by simp [World.cell?, h], by simp [World.cell?, h], by simp [World.cell?, h], by simp [World.cell?, h]⟩
end
def resE (n : Nat) (i : Int) : Int := if hasB n i = true then 0 else 100
def resZ (zs : List Zn) (i : Int) : List Zn := if hasB zs.length i = true then zs.set i.toNat ([], 0) else zs
theorem resZ_len (zs : List Zn) (i : Int) : (resZ zs i).length = zs.length := by unfold resZ; split <;> simp
theorem resZ_inv {b zb : Nat} {zs : List Zn} (h : ZInv b zb zs) (i : Int) : ZInv b zb (resZ zs i) := by
  unfold resZ
  split
  · exact h.set _ ⟨⟨by simp, by simp⟩, by simp, by simp⟩
  · exact h
theorem dreset_calls (xb base : Nat) (ok : Nat → Prop) (z zb b r : Int) (zs : List Zn) (v : Value) (i : Int) (hi : IsI i) (w : World) (h : Dev w xb base ok z zb b r (zs.map flat) v) :
    Calls Try.prog 14 #[.pointer (some ⟨xb, 0, none⟩), .int .i64 i] w fun e w' => e = .returned (.int .u16 (resE zs.length i)) ∧ Dev w' xb base ok z zb b r ((resZ zs i).map flat) v ∧ Chg w w' ok := by
  refine (reset_calls xb base ok z zb b r _ v i hi w h).mono ?_
  rintro e w1 ⟨ps', ⟨a1, a2, a3⟩ | ⟨a1, a2, a3⟩, h2, h3⟩
  · rw [hasB_map] at a1
    unfold resE resZ
    rw [if_neg (by rw [a1]; simp), if_neg (by rw [a1]; simp)]
    exact ⟨a2, by rw [← a3]; exact h2, h3⟩
  · rw [hasB_map] at a1
    unfold resE resZ
    rw [if_pos a1, if_pos a1, flat_reset]
    exact ⟨a2, by rw [← a3]; exact h2, h3⟩
theorem rrreset_calls (rb base : Nat) (ok : Nat → Prop) (z zb b r : Int) (zs : List Zn) (v : Value) (i : Int) (hi : IsI i) (w : World) (h : RDv w rb base ok z zb b r zs v) :
    Calls Try.prog 39 #[.pointer (some ⟨rb, 0, none⟩), .int .i64 i] w fun e w' => e = .returned (.int .i64 (resE zs.length i)) ∧ RDv w' rb base ok z zb b r (resZ zs i) v ∧ Chg w w' ok := by
  refine (rreset_calls rb base ok z zb b r _ v i hi w h).mono ?_
  rintro e w1 ⟨ps', ⟨a1, a2, a3⟩ | ⟨a1, a2, a3⟩, h2, h3⟩
  · unfold resE resZ
    rw [if_neg (by rw [a1]; simp), if_neg (by rw [a1]; simp)]
    exact ⟨a2, by rw [← a3]; exact h2, h3⟩
  · unfold resE resZ
    rw [if_pos a1, if_pos a1]
    exact ⟨a2, by rw [← a3]; exact h2, h3⟩
theorem inv_small {b zb : Nat} {zs : List Zn} (hb : b ≤ 4096) (hz : zb ≤ 4096) (h : ZInv b zb zs) : (∀ p ∈ zs.map flat, p.1.length ≤ 100000000) ∧ (∀ p ∈ zs, ∀ x ∈ p.1, x.length ≤ 100000000) ∧ (∀ p ∈ zs, p.1.length ≤ 5000) ∧ (∀ p ∈ zs, p.1.length ≤ 5000 ∧ ∀ x ∈ p.1, x.length ≤ 100000000) ∧ Whole b 4096 (zs.map flat) := by
  have h1 : ∀ p ∈ zs, ∀ x ∈ p.1, x.length ≤ 100000000 := fun p hp x hx => by have := (h p hp).2.2 x hx; omega
  have h2 : ∀ p ∈ zs, p.1.length ≤ 5000 := fun p hp => by have := (h p hp).2.1; omega
  have h3 : Whole b 4096 (zs.map flat) := fun q hq => by
    obtain ⟨p, hp, rfl⟩ := List.mem_map.1 hq
    exact ⟨p.1.length, by have := (h p hp).2.1; omega, flat_len (h p hp).2.2⟩
  exact ⟨h3.small hb (Nat.le_refl _), h1, h2, fun p hp => ⟨h2 p hp, h1 p hp⟩, h3⟩
set_option maxRecDepth 100000 in
set_option maxHeartbeats 4000000 in
theorem does_calls (w0 : World) (F : Option Addr) (cf : Nat) (L : Option Addr) (cl : Nat) (o : OpT) (hk : 0 ≤ o.1 ∧ o.1 < 256) (hzi : IsI o.2.1) (hni : IsI o.2.2.1) (hF : byte.C w0 F o.2.2.2.1.length o.2.2.2.1) (hL : lossK.C w0 L o.2.2.2.2.length o.2.2.2.2) (hfl : o.2.2.2.1.length ≤ 200)
    (xb rb B zn zbn bn : Nat) (r : Int) (hrt : Rt zn zbn bn r) (hz2 : zn ≤ 256) (hzb2 : zbn ≤ 4096) (hb1 : 64 ≤ bn) (hb2 : bn ≤ 4096) (v vr : Value) (zs : List Zn) (D R : Nat → Prop) (w : World) (hB : w0.heap.size ≤ B) (hw0 : Below w0.heap.size w0 w)
    (h : Two w xb rb B zn zbn bn r (zs.map flat) zs v vr D R) (hzi2 : ZInv bn zbn zs) (hlz : zs.length = zn) :
    Calls Try.prog 20 #[.pointer (some ⟨xb, 0, none⟩), .pointer (some ⟨rb, 0, none⟩), .agg #[.int .i64 (zn : Int), .int .i64 (zbn : Int), .int .i64 (bn : Int), .int .i64 r], .agg #[.int .u8 o.1, .int .i64 o.2.1, .int .i64 o.2.2.1, .slice F o.2.2.2.1.length cf, .slice L o.2.2.2.2.length cl]] w
      fun e w' => e = .returned (.bool true) ∧ Both w w' xb rb B zn zbn bn r v vr := by
  obtain ⟨hk1, hk2⟩ := hk
  have htm : o.1.tmod 8 = o.1 % 8 := Int.tmod_eq_emod_of_nonneg hk1
  have HZI := Aside0.mk hzi
  have HNI := Aside0.mk hni
  have HF := Aside0.mk hF
  have HLC := Aside0.mk hL
  have HRT := Aside0.mk hrt
  have HW0 := Aside0.mk hw0
  have HT0 := Aside0.mk h
  have HINV := Aside0.mk hzi2
  have HLZ := Aside0.mk hlz
  have HBB := Aside0.mk h.base
  have HA := Aside0.mk (((Below.refl w.heap.size w).alloc (Nat.le_refl _) (.cells #[.int .i64 (zn : Int), .int .i64 (zbn : Int), .int .i64 (bn : Int), .int .i64 r] 23)).alloc (by simp) (.cells #[.int .u8 o.1, .int .i64 o.2.1, .int .i64 o.2.2.1, .slice F o.2.2.2.1.length cf, .slice L o.2.2.2.2.length cl] 35))
  have HS := Aside0.mk ((Box.new w zn zbn bn r).below (alloc_below (w.alloc (.cells #[.int .i64 (zn : Int), .int .i64 (zbn : Int), .int .i64 (bn : Int), .int .i64 r] 23)) (.cells #[.int .u8 o.1, .int .i64 o.2.1, .int .i64 o.2.2.1, .slice F o.2.2.2.1.length cf, .slice L o.2.2.2.2.length cl] 35)))
  have HOB := Aside0.mk (show OpBox ((w.alloc (.cells #[.int .i64 (zn : Int), .int .i64 (zbn : Int), .int .i64 (bn : Int), .int .i64 r] 23)).alloc (.cells #[.int .u8 o.1, .int .i64 o.2.1, .int .i64 o.2.2.1, .slice F o.2.2.2.1.length cf, .slice L o.2.2.2.2.length cl] 35)) (w.heap.size + 1) o F cf L cl from by
    exact blk_here (by simp))
  have HOC := Aside0.mk HOB.out.cells
  have HT := Aside0.mk (HT0.out.below HA.out)
  clear hzi hni hF hL hrt hw0 h hzi2 hlz
  have HSM := Aside0.mk (inv_small hb2 hzb2 HINV.out)
  by_cases h4 : o.1 % 8 = 4
  · have hb4 : (o.1 % 8 == 4) = true := by rw [beq_iff_eq]; exact h4
    clear h4
    go_enter Try.func20, Try.ntmps20
    go_wp2_with fail
    obtain ⟨W, hW⟩ : ∃ W, ((w.alloc (.cells #[.int .i64 (zn : Int), .int .i64 (zbn : Int), .int .i64 (bn : Int), .int .i64 r] 23)).alloc (.cells #[.int .u8 o.1, .int .i64 o.2.1, .int .i64 o.2.2.1, .slice F o.2.2.2.1.length cf, .slice L o.2.2.2.2.length cl] 35)) = W := ⟨_, rfl⟩
    obtain ⟨g, hg⟩ : ∃ g, w.heap.size = g := ⟨_, rfl⟩
    rw [hW] at HA HS HOB HOC HT ⊢
    rw [hg] at HS HOB HOC ⊢
    have HG := Aside0.mk hg
    have HBW := Aside0.mk (HA.out.mono HBB.out)
    have HWW := Aside0.mk (HW0.out.trans (HA.out.mono HW0.out.size))
    obtain ⟨c0, c1, c2, c3, c4⟩ := HOC.out
    clear hW hg
    refine (read_calls xb B D zn zbn bn r HRT.out _ v o.2.1 o.2.2.1 HZI.out HNI.out _ HT.out.dev HSM.out.1).mono ?_
    rintro e w1 ⟨⟨u, er, bs, rfl, hR1, hO1⟩, hw1⟩
    obtain ⟨A1, n1, k1, rfl, -, hC1⟩ := hO1.reads
    have HT1 := Aside0.mk (HT.out.below hw1)
    have HC1 := Aside0.mk hC1
    have HR1 := Aside0.mk hR1
    have HB1 := Aside0.mk hw1
    obtain ⟨c0, c1, c2, c3, c4⟩ := (HOB.out.below hw1).cells
    clear hC1 hR1 hO1 hw1
    go_wp2_with fail
    refine (rread_calls rb B R zn zbn bn r zs vr o.2.1 o.2.2.1 HZI.out HNI.out _ HT1.out.ref HSM.out.2.1).mono ?_
    rintro e w2 ⟨⟨u2, er2, bs2, rfl, hR2, hO2⟩, hw2⟩
    obtain ⟨A2, n2, k2, rfl, -, hC2⟩ := hO2.reads
    obtain ⟨rfl, rfl, he0, he1⟩ := read_agree (by omega) HINV.out HR1.out hR2
    have HT2 := Aside0.mk (HT1.out.below hw2)
    have HC2 := Aside0.mk hC2
    have HC1 := Aside0.mk (Kd.C_below HC1.out hw2)
    have HB2 := Aside0.mk (below_go HB1.out hw2)
    clear hC2 hR2 hO2 hw2 c0 c1 c2 c3 c4
    go_wp2_with fail
    refine (same_calls A1 A2 n1 n2 k1 k2 bs bs _ HC1.out HC2.out).mono ?_
    rintro e w3 ⟨rfl, rfl⟩
    rw [decide_eq_true rfl]
    go_wp2
    go_ret
    exact ⟨rfl, zs, D, R, HT2.out, HINV.out, HLZ.out, HBW.out.trans (HB2.out.mono HT.out.base)⟩
  · have hb4 : (o.1 % 8 == 4) = false := by rw [beq_eq_false_iff_ne]; exact h4
    by_cases h5 : o.1 % 8 = 5
    · have hb5 : (o.1 % 8 == 5) = true := by rw [beq_iff_eq]; exact h5
      clear h4 h5
      go_enter Try.func20, Try.ntmps20
      go_wp2_with fail
      obtain ⟨W, hW⟩ : ∃ W, ((w.alloc (.cells #[.int .i64 (zn : Int), .int .i64 (zbn : Int), .int .i64 (bn : Int), .int .i64 r] 23)).alloc (.cells #[.int .u8 o.1, .int .i64 o.2.1, .int .i64 o.2.2.1, .slice F o.2.2.2.1.length cf, .slice L o.2.2.2.2.length cl] 35)) = W := ⟨_, rfl⟩
      obtain ⟨g, hg⟩ : ∃ g, w.heap.size = g := ⟨_, rfl⟩
      rw [hW] at HA HS HOB HOC HT ⊢
      rw [hg] at HS HOB HOC ⊢
      have HG := Aside0.mk hg
      have HBW := Aside0.mk (HA.out.mono HBB.out)
      have HWW := Aside0.mk (HW0.out.trans (HA.out.mono HW0.out.size))
      obtain ⟨c0, c1, c2, c3, c4⟩ := HOC.out
      clear hW hg
      refine (flush_calls xb B _ zn zbn bn r (by omega) (by omega) _ v _ HT.out.devs).mono ?_
      rintro e w1 ⟨rfl, hD1, hC1⟩
      have HT1 := Aside0.mk (HT.out.devop hD1 hC1)
      have HB1 := Aside0.mk (HT.out.devB hC1)
      clear hD1 hC1 c0 c1 c2 c3 c4
      go_wp2_with fail
      refine (rflush_calls rb B _ zn zbn bn r zs vr _ HT1.out.refs).mono ?_
      rintro e w2 ⟨rfl, hR2, hC2⟩
      have HT2 := Aside0.mk (HT1.out.refop hR2 hC2)
      have HB2 := Aside0.mk (HT1.out.refB hC2)
      clear hR2 hC2
      go_wp2
      go_ret
      have h9 := HT2.out
      rw [← flat_flush (by omega) HINV.out] at h9
      exact ⟨rfl, _, _, _, h9, inv_flush HINV.out, by rw [List.length_mapIdx]; exact HLZ.out, (HBW.out.trans HB1.out).trans HB2.out⟩
    · have hb5 : (o.1 % 8 == 5) = false := by rw [beq_eq_false_iff_ne]; exact h5
      by_cases h6 : o.1 % 8 = 6
      · have hb6 : (o.1 % 8 == 6) = true := by rw [beq_iff_eq]; exact h6
        clear h4 h5 h6
        go_enter Try.func20, Try.ntmps20
        go_wp2_with fail
        obtain ⟨W, hW⟩ : ∃ W, ((w.alloc (.cells #[.int .i64 (zn : Int), .int .i64 (zbn : Int), .int .i64 (bn : Int), .int .i64 r] 23)).alloc (.cells #[.int .u8 o.1, .int .i64 o.2.1, .int .i64 o.2.2.1, .slice F o.2.2.2.1.length cf, .slice L o.2.2.2.2.length cl] 35)) = W := ⟨_, rfl⟩
        obtain ⟨g, hg⟩ : ∃ g, w.heap.size = g := ⟨_, rfl⟩
        rw [hW] at HA HS HOB HOC HT ⊢
        rw [hg] at HS HOB HOC ⊢
        have HG := Aside0.mk hg
        have HBW := Aside0.mk (HA.out.mono HBB.out)
        have HWW := Aside0.mk (HW0.out.trans (HA.out.mono HW0.out.size))
        obtain ⟨c0, c1, c2, c3, c4⟩ := HOC.out
        clear hW hg
        have HTD := Aside0.mk (HT.out.below (below_drew (Below.refl _ _)))
        have HPD := Aside0.mk (HOB.out.below (below_drew (Below.refl _ _)))
        obtain ⟨er, her⟩ : ∃ er, resE zs.length o.2.1 = er := ⟨_, rfl⟩
        have her1 : 0 ≤ er ∧ er ≤ 200 := by rw [← her]; unfold resE; split <;> omega
        obtain ⟨he0, he1⟩ := her1
        have hwr : IntKind.i64.wrap er = er := IntWalk.i64_in _ (by omega)
        have HER := Aside0.mk her
        have HGP := Aside0.mk (show ∀ k, D k ∨ R k → k ≠ g + 1 from fun k hk e => by
          have h1 := HT0.out.dl k
          have h2 := HT0.out.rl k
          have h3 := HG.out
          rcases hk with hk | hk
          · have := (h1 hk).2; omega
          · have := (h2 hk).2; omega)
        clear her c0 c2 c3 c4
        go_region_held3 (fun w' => w'.cell? ⟨g + 1, 1, none⟩ = some (.int .i64 o.2.1))
          (first | exact c1 | exact c8 | exact c9)
          (first
            | (go_at_call 14; (with_reducible refine (dreset_calls xb B _ zn zbn bn r zs v o.2.1 HZI.out _ HTR.out.devs).mono ?_); rintro e w9 ⟨rfl, hD9, hC9⟩; have c9 := ((HPR.out.chg hC9 (fun hs => hs.elim (fun h1 => HGP.out _ (.inl h1) rfl) (fun h1 => by have := HPR.out.lt; omega))).cells).2.1; have HTE := Aside0.mk (HTR.out.devop hD9 hC9); have HBE := Aside0.mk (HBR.out.trans (HTR.out.devB hC9)); (rw [HER.out]); clear hD9 hC9)
            | (go_at_call 14; (with_reducible refine (dreset_calls xb B _ zn zbn bn r zs v o.2.1 HZI.out _ HTD.out.devs).mono ?_); rintro e w8 ⟨rfl, hD8, hC8⟩; have HPR := Aside0.mk (HPD.out.chg hC8 (fun hs => hs.elim (fun h1 => HGP.out _ (.inl h1) rfl) (fun h1 => by have := HPD.out.lt; omega))); have c8 := (HPR.out.cells).2.1; have HTR := Aside0.mk (HTD.out.devop hD8 hC8); have HBR := Aside0.mk (HTD.out.devB hC8); (rw [HER.out]); clear hD8 hC8)
            | (go_at_call 39; (with_reducible refine (rrreset_calls rb B _ zn zbn bn r zs vr o.2.1 HZI.out _ HTR.out.refs).mono ?_); rintro e w9 ⟨rfl, hD9, hC9⟩; have c9 := ((HPR.out.chg hC9 (fun hs => hs.elim (fun h1 => HGP.out _ (.inr h1) rfl) (fun h1 => by have := HPR.out.lt; omega))).cells).2.1; have HTE := Aside0.mk (HTR.out.refop hD9 hC9); have HBE := Aside0.mk (HBR.out.trans (HTR.out.refB hC9)); (rw [HER.out]); clear hD9 hC9)
            | (go_at_call 39; (with_reducible refine (rrreset_calls rb B _ zn zbn bn r zs vr o.2.1 HZI.out _ HTD.out.refs).mono ?_); rintro e w8 ⟨rfl, hD8, hC8⟩; have HPR := Aside0.mk (HPD.out.chg hC8 (fun hs => hs.elim (fun h1 => HGP.out _ (.inr h1) rfl) (fun h1 => by have := HPD.out.lt; omega))); have c8 := (HPR.out.cells).2.1; have HTR := Aside0.mk (HTD.out.refop hD8 hC8); have HBR := Aside0.mk (HTD.out.refB hC8); (rw [HER.out]); clear hD8 hC8))
        all_goals
          go_wp2
          go_ret
          exact ⟨rfl, _, _, _, HTE.out, resZ_inv HINV.out _, by rw [resZ_len]; exact HLZ.out, (HBW.out.trans ((below_drew (Below.refl _ _)).mono HT.out.base)).trans HBE.out⟩
      · have hb6 : (o.1 % 8 == 6) = false := by rw [beq_eq_false_iff_ne]; exact h6
        by_cases h7 : o.1 % 8 = 7
        · have hb7 : (o.1 % 8 == 7) = true := by rw [beq_iff_eq]; exact h7
          clear h4 h5 h6 h7
          have hlsl := (C_len HLC.out).2
          go_enter Try.func20, Try.ntmps20
          go_wp2_with fail
          obtain ⟨W, hW⟩ : ∃ W, ((w.alloc (.cells #[.int .i64 (zn : Int), .int .i64 (zbn : Int), .int .i64 (bn : Int), .int .i64 r] 23)).alloc (.cells #[.int .u8 o.1, .int .i64 o.2.1, .int .i64 o.2.2.1, .slice F o.2.2.2.1.length cf, .slice L o.2.2.2.2.length cl] 35)) = W := ⟨_, rfl⟩
          obtain ⟨g, hg⟩ : ∃ g, w.heap.size = g := ⟨_, rfl⟩
          rw [hW] at HA HS HOB HOC HT ⊢
          rw [hg] at HS HOB HOC ⊢
          have HG := Aside0.mk hg
          have HBW := Aside0.mk (HA.out.mono HBB.out)
          have HWW := Aside0.mk (HW0.out.trans (HA.out.mono HW0.out.size))
          obtain ⟨c0, c1, c2, c3, c4⟩ := HOC.out
          clear hW hg
          refine (crash_calls xb B _ zn zbn r bn (by omega) hb2 _ (HINV.out.fit (by omega) hb2 hzb2) v L _ cl o.2.2.2.2 _ HT.out.devs (fun k hk => .inr hk) (fun w1 hc => Kd.C_below HLC.out (HWW.out.trans ((HT.out.devB hc).mono hB)))).mono ?_
          rintro e w1 ⟨rfl, hD1, hC1⟩
          have HT1 := Aside0.mk (HT.out.devop hD1 hC1)
          have HB1 := Aside0.mk (HT.out.devB hC1)
          have HP1 := Aside0.mk (HOB.out.chg hC1 (fun hs => hs.elim (fun h1 => by have := (HT0.out.dl _ h1).2; have := HG.out; omega) (fun h1 => by have := HOB.out.lt; omega)))
          obtain ⟨c0, c1, c2, c3, c4⟩ := HP1.out.cells
          clear hD1 hC1
          go_wp2_with fail
          refine (rcrash_calls rb B _ zn zbn r bn (by omega) hb2 zs (HINV.out.rfit hzb2) vr L _ cl o.2.2.2.2 _ HT1.out.refs (fun k hk => .inr hk) (fun w2 hc => Kd.C_below HLC.out ((HWW.out.trans (HB1.out.mono hB)).trans ((HT1.out.refB hc).mono hB)))).mono ?_
          rintro e w2 ⟨rfl, hR2, hC2⟩
          have HT2 := Aside0.mk (HT1.out.refop hR2 hC2)
          have HB2 := Aside0.mk (HT1.out.refB hC2)
          clear hR2 hC2 c0 c1 c2 c3 c4
          go_wp2
          go_ret
          have h9 := HT2.out
          rw [← flat_crash (by omega) HINV.out] at h9
          exact ⟨rfl, _, _, _, h9, inv_crash HINV.out, by rw [List.length_mapIdx]; exact HLZ.out, (HBW.out.trans HB1.out).trans HB2.out⟩
        · have hb7 : (o.1 % 8 == 7) = false := by rw [beq_eq_false_iff_ne]; exact h7
          clear h4 h5 h6 h7
          go_enter Try.func20, Try.ntmps20
          go_upto_if 28 with fail
          obtain ⟨W, hW⟩ : ∃ W, ((w.alloc (.cells #[.int .i64 (zn : Int), .int .i64 (zbn : Int), .int .i64 (bn : Int), .int .i64 r] 23)).alloc (.cells #[.int .u8 o.1, .int .i64 o.2.1, .int .i64 o.2.2.1, .slice F o.2.2.2.1.length cf, .slice L o.2.2.2.2.length cl] 35)) = W := ⟨_, rfl⟩
          obtain ⟨g, hg⟩ : ∃ g, w.heap.size = g := ⟨_, rfl⟩
          rw [hW] at HA HS HOB HOC HT ⊢
          rw [hg] at HS HOB HOC ⊢
          have HG := Aside0.mk hg
          have HBW := Aside0.mk (HA.out.mono HBB.out)
          have HWW := Aside0.mk (HW0.out.trans (HA.out.mono HW0.out.size))
          obtain ⟨c0, c1, c2, c3, c4⟩ := HOC.out
          clear hW hg
          obtain ⟨d0, d1, d2, d3⟩ := HS.out
          have HDW := Aside0.mk (show (∀ k, D k → k < W.heap.size) ∧ (∀ k, R k → k < W.heap.size) from ⟨fun k hk => by have h1 := (HT0.out.dl k hk).2; have h2 := HA.out.size; have h3 := HG.out; omega, fun k hk => by have h1 := (HT0.out.rl k hk).2; have h2 := HA.out.size; have h3 := HG.out; omega⟩)
          go_cut [13] (fun v13 wx => ∃ A n c xs, v13 = .slice A n c ∧ Aside0 (Below W.heap.size W wx) ∧ Aside0 (∀ w1, Chg wx w1 (fun k => D k ∨ wx.heap.size ≤ k) → byte.C w1 A n xs) ∧ n ≤ 5000)
          case first =>
            by_cases h3 : o.1 % 8 < 3
            · rw [decide_eq_true h3]
              clear h3
              go_wp2_with fail
              refine (block_calls (bn : Int) (by omega) (by omega) F o.2.2.2.1.length cf _ _ (Kd.C_below HF.out HWW.out)).mono ?_
              rintro e w4 ⟨v4, rfl, hO4, hw4⟩
              obtain ⟨xs, hxs⟩ : ∃ xs, front ((bn : Int)).toNat (min ((bn : Int)).toNat o.2.2.2.1.length) o.2.2.2.1 = xs := ⟨_, rfl⟩
              have HXL := Aside0.mk (show xs.length = bn by rw [← hxs, front_len (Nat.min_le_left _ _) (Nat.min_le_right _ _)]; exact Int.toNat_natCast bn)
              rw [hxs] at hO4
              obtain ⟨A4, n4, k4, rfl, hc4, hC4⟩ := hO4.reads
              obtain rfl : bn = n4 := by rw [← (C_len hC4).1, HXL.out]
              have HO4 := Aside0.mk hO4
              have HB4 := Aside0.mk hw4
              clear hO4 hC4 hw4 hxs
              go_wp2
              go_meet
              refine ⟨A4, bn, k4, xs, rfl, HB4, ⟨fun w1 hc => ?_⟩, by omega⟩
              have h9 := own_kept HO4.out hc (fun k h1 h2 hs => hs.elim (fun h3 => by have := HDW.out.1 k h3; omega) (fun h3 => by omega))
              have h10 := (Kd.R_reads' h9).2.2
              rw [HXL.out] at h10
              exact h10
            · rw [decide_eq_false h3]
              clear h3
              go_wp2
              go_meet
              refine ⟨F, _, cf, o.2.2.2.1, rfl, ⟨Below.refl _ _⟩, ⟨fun w1 hc => ?_⟩, by omega⟩
              refine Kd.C_below HF.out (HWW.out.trans (hc.to_below (B := w0.heap.size) HWW.out.size (fun k hk => hk.elim (fun h1 => Nat.le_trans hB (HT0.out.dl k h1).1) (fun h1 => Nat.le_trans HWW.out.size h1))))
          case rest =>
            obtain ⟨A, n, c, xs, rfl, HBX, HXS, hn5⟩ := hcut
            rename World => wx
            have HT5 := Aside0.mk (HT.out.below HBX.out)
            have HP5 := Aside0.mk (HOB.out.below HBX.out)
            have HWX := Aside0.mk HBX.out.size
            obtain ⟨x, y, er, zs', her, hinv', hlz', hA, hRA⟩ := app_det (show 0 < bn by omega) HINV.out o.2.1 xs
            obtain ⟨he0, he1⟩ := her
            have HINV2 := Aside0.mk hinv'
            have HLZ2 := Aside0.mk hlz'
            have HAD := Aside0.mk hA
            have HRAD := Aside0.mk hRA
            clear hinv' hlz' hA hRA c0 c1 c2 c3 c4 d0 d1 d2 d3
            have HCX := Aside0.mk (HXS.out wx (Chg.refl _ _))
            go_wp2_with fail
            refine (lentb_calls A n c xs (by omega) _ HCX.out).mono ?_
            rintro e w5 ⟨v5, rfl, hO5, hw5⟩
            obtain ⟨A5, n5, k5, rfl, hk5, hC5⟩ := hO5.reads
            obtain rfl : n = n5 := by rw [← (C_len hC5).1, (C_len HCX.out).1]
            have HXL := Aside0.mk (C_len hC5).1
            have HO5 := Aside0.mk hO5
            have HC5 := Aside0.mk hC5
            have HB5 := Aside0.mk hw5
            have HT6 := Aside0.mk (HT5.out.below hw5)
            have HP6 := Aside0.mk (HP5.out.below hw5)
            have HS5 := Aside0.mk hw5.size
            obtain ⟨c0, c1, c2, c3, c4⟩ := HP6.out.cells
            clear hO5 hC5 hw5
            go_wp2_with fail
            refine (append_calls xb B _ zn zbn bn r HRT.out _ v o.2.1 HZI.out A5 n k5 xs _ HT6.out.devs (fun k hk => .inr hk) HC5.out HSM.out.1).mono ?_
            rintro e w6 ⟨ps', hR6, hD6, hC6⟩
            obtain ⟨rfl, rfl⟩ := HAD.out e ps' hR6
            have hHP := HP6.out.chg hC6 (fun hs => hs.elim (fun h1 => by have h2 := (HT0.out.dl _ h1).2; have h3 := HG.out; omega) (fun h1 => by have := HP6.out.lt; omega))
            have HT7 := Aside0.mk ((HT6.out.devop hD6 hC6).below (alloc_below w6 (.cells #[.int .i64 x, .int .i64 y] 40)))
            have HP7 := Aside0.mk (hHP.below (alloc_below w6 (.cells #[.int .i64 x, .int .i64 y] 40)))
            have HC7 := Aside0.mk (hC6.below (alloc_below w6 (.cells #[.int .i64 x, .int .i64 y] 40)))
            have HBX7 := Aside0.mk (show (w6.alloc (.cells #[.int .i64 x, .int .i64 y] 40)).heap[w6.heap.size]? = some (.cells #[.int .i64 x, .int .i64 y] 40 (0, 0)) from blk_here rfl)
            have HS6 := Aside0.mk (show w5.heap.size ≤ w6.heap.size from hC6.kept.1)
            have HS7 := Aside0.mk (show (w6.alloc (.cells #[.int .i64 x, .int .i64 y] 40)).heap.size = w6.heap.size + 1 by simp)
            clear hR6 hD6 hC6 hHP c0 c1 c2 c3 c4
            unfold addrV
            obtain ⟨c0, c1, c2, c3, c4⟩ := HP7.out.cells
            go_wp2_with fail
            obtain ⟨V, hV⟩ : ∃ V, w6.alloc (.cells #[.int .i64 x, .int .i64 y] 40) = V := ⟨_, rfl⟩
            obtain ⟨gx, hgx⟩ : ∃ gx, w6.heap.size = gx := ⟨_, rfl⟩
            rw [hV] at HT7 HP7 HC7 HBX7 HS7 c0 c1 c2 c3 c4 ⊢
            rw [hgx] at HT7 HBX7 HS6 HS7 ⊢
            clear hV hgx
            have HC1 := Aside0.mk (HXS.out V ((Chg.of_below HB5.out _).trans HC7.out (fun j hj => hj.elim (fun h1 => .inl (.inl h1)) (fun h1 => .inr (Nat.le_trans HS5.out h1)))))
            refine (rappend_calls rb B _ zn zbn bn r zs vr o.2.1 HZI.out A n c xs (by omega) _ HT7.out.refs (fun k hk => .inr hk) HC1.out HSM.out.2.2.1).mono ?_
            rintro e w7 ⟨zs2, hR7, hD7, hC7⟩
            obtain ⟨rfl, rfl⟩ := HRAD.out e zs2 hR7
            have HRR := Aside0.mk (show ∀ k, (R k ∨ V.heap.size ≤ k) → k < V.heap.size → k < wx.heap.size from fun k hk hl => hk.elim (fun h1 => by have := HDW.out.2 k h1; have := HWX.out; omega) (fun h1 => by omega))
            have HO8 := Aside0.mk (own_kept (own_kept HO5.out HC7.out (fun k h1 h2 hs => hs.elim (fun h3 => by have := HDW.out.1 k h3; have := HWX.out; omega) (fun h3 => by omega))) hC7 (fun k h1 h2 hs => by have := HRR.out k hs h2; omega))
            have hgw : wx.heap.size ≤ gx := Nat.le_trans HS5.out HS6.out
            have HBX8 := Aside0.mk (show w7.heap[gx]? = some (.cells #[.int .i64 x, .int .i64 y] 40 (0, 0)) from blk_kept HBX7.out hC7.kept (fun hs => by have := HRR.out gx hs (by have := HS7.out; omega); omega))
            have HT8 := Aside0.mk ((HT7.out.refop hD7 hC7).below (alloc_below w7 (.cells #[.int .i64 x, .int .i64 y] 40)))
            have HO9 := Aside0.mk (HO8.out.below (alloc_below w7 (.cells #[.int .i64 x, .int .i64 y] 40)))
            have HBX9 := Aside0.mk (show (w7.alloc (.cells #[.int .i64 x, .int .i64 y] 40)).heap[gx]? = some (.cells #[.int .i64 x, .int .i64 y] 40 (0, 0)) from ((alloc_below w7 _).block gx (Array.getElem?_eq_some_iff.1 HBX8.out).1).trans HBX8.out)
            have HBY9 := Aside0.mk (show (w7.alloc (.cells #[.int .i64 x, .int .i64 y] 40)).heap[w7.heap.size]? = some (.cells #[.int .i64 x, .int .i64 y] 40 (0, 0)) from blk_here rfl)
            have HS8 := Aside0.mk (show V.heap.size ≤ w7.heap.size from hC7.kept.1)
            have HB9 := Aside0.mk (show Below B w (w7.alloc (.cells #[.int .i64 x, .int .i64 y] 40)) from by
              have h1 := HBX.out.mono HT.out.base
              have h2 := HB5.out.mono HT5.out.base
              have h3 := HT6.out.devB HC7.out
              have h4 := HT7.out.refB hC7
              exact ((((HBW.out.trans h1).trans h2).trans h3).trans h4).trans ((alloc_below w7 _).mono (by have := HT7.out.base; have := HS8.out; omega)))
            clear hR7 hD7 hC7 c0 c1 c2 c3 c4
            unfold raddrV
            go_wp2_with fail
            obtain ⟨V2, hV⟩ : ∃ V2, w7.alloc (.cells #[.int .i64 x, .int .i64 y] 40) = V2 := ⟨_, rfl⟩
            obtain ⟨gy, hgy⟩ : ∃ gy, w7.heap.size = gy := ⟨_, rfl⟩
            rw [hV] at HT8 HO9 HBX9 HBY9 HB9 ⊢
            rw [hgy] at HT8 HBY9 HS8 ⊢
            clear hV hgy
            have hgv : wx.heap.size ≤ gy := by have h1 := HS7.out; have h2 := HS8.out; omega
            have HOW := Aside0.mk (show ∀ k, some k = (Value.slice A5 n k5).ownBlock → wx.heap.size ≤ k ∧ k < w5.heap.size from fun k hk => ⟨Kd.R_base HO5.out k hk.symm, own_lt HO5.out k hk.symm⟩)
            go_loopg [19] n (fun gk2 v19 wr => ∃ i : Nat, v19 = .int .i64 (i : Int) ∧ i ≤ n ∧ Aside0 (gk2 + i = n) ∧ Aside0 (∃ ys, Go.Proofs.Ytmkjglnggkkpeaa.Base.Own wr wx.heap.size (.slice A5 n k5) ys ∧ ys.length = n ∧ Chg V2 wr (fun k => some k = (Value.slice A5 n k5).ownBlock)))
            case atStart => exact ⟨0, rfl, by omega, ⟨rfl⟩, ⟨xs, HO9.out, HXL.out, Chg.refl _ _⟩⟩
            case round =>
              obtain ⟨i, rfl, hi, HK, HSS⟩ := hrel
              rename World => wr
              obtain ⟨ys, hOy, hly, hCy⟩ := HSS.out
              have HLY := Aside0.mk hly
              have HCY := Aside0.mk hCy
              have HOY := Aside0.mk hOy
              clear hOy hly hCy
              by_cases hlt : i < n
              · obtain ⟨y0, hy0⟩ : ∃ y0, ys.getD i 0 = y0 := ⟨_, rfl⟩
                obtain ⟨fc, hfc⟩ := flip_byte y0
                obtain ⟨go, n2, cap2, he, hnn, hg5, hcell, hfr, hst⟩ := HOY.out.store i (by rw [HLY.out]; exact hlt) fc
                rw [hy0] at hcell
                simp only [Value.slice.injEq] at he
                obtain ⟨rfl, rfl, rfl⟩ := he
                have HST := Aside0.mk hst
                have hlt' : (i : Int) < (n : Int) := by omega
                have hd9 : decide ((i : Int) < (n : Int)) = true := decide_eq_true hlt'
                clear hst hnn hy0
                go_wp2
                go_roundg (gk - 1)
                case measure => have := HK.out; omega
                case rel => exact ⟨i + 1, by congr 1, by omega, ⟨by have := HK.out; omega⟩, ⟨_, HST.out, by rw [List.length_set]; exact HLY.out, HCY.out.set (p := ⟨go, i, none⟩) (.inl rfl) _⟩⟩
              · obtain rfl : i = n := by omega
                have hd9 : decide ((i : Int) < (i : Int)) = false := decide_eq_false (by omega)
                have hbx := blk_kept HBX9.out HCY.out.kept (fun hs => by have h1 := (HOW.out gx hs).2; have h2 := HS6.out; omega)
                have hby := blk_kept HBY9.out HCY.out.kept (fun hs => by have h1 := (HOW.out gy hs).2; have h2 := HS6.out; have h3 := HS7.out; have h4 := HS8.out; omega)
                have HT9 := Aside0.mk (HT8.out.chgS HCY.out (fun hs => by have h1 := (HOW.out xb hs).1; have h2 := HT.out.xlt.1; have := HWX.out; omega) (fun hs => by have h1 := (HOW.out rb hs).1; have h2 := HT.out.xlt.2; have := HWX.out; omega)
                  (fun k hk hs => by
                    obtain ⟨h1, h2⟩ := HOW.out k hs
                    rcases hk.1 with h3 | h3
                    · have := HDW.out.1 k h3; have := HWX.out; omega
                    · omega)
                  (fun k hk hs => by
                    obtain ⟨h1, h2⟩ := HOW.out k hs
                    rcases hk.1 with h3 | h3
                    · have := HDW.out.2 k h3; have := HWX.out; omega
                    · have := HS6.out; have := HS7.out; omega))
                have HBR := Aside0.mk (HB9.out.trans (HCY.out.to_below HT8.out.base (fun k hk => Nat.le_trans (Nat.le_trans HT.out.base HWX.out) (HOW.out k hk).1)))
                obtain ⟨q0, q1, -, -⟩ := res_cells hbx
                obtain ⟨r0, r1, -, -⟩ := res_cells hby
                clear hbx hby
                go_wp2
                go_ret
                exact ⟨rfl, _, _, _, HT9.out, HINV2.out, HLZ2.out.trans HLZ.out, HBR.out⟩
end Go.Proofs.Ytmkjglnggkkpeaa.Dv
