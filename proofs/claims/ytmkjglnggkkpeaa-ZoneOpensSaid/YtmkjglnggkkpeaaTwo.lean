/- The device and the document's, side by side: what is told of one is told of the other. -/
import Derived.Test.YtmkjglnggkkpeaaRefLent
namespace Go.Proofs.Ytmkjglnggkkpeaa.Dv
open Go.RowKit Go.Shelf Go.Proofs.YtmkjglnggkkpeaaW.PrintWords Go.Proofs.YtmkjglnggkkpeaaW.PrintMore Go.Proofs.Ytmkjglnggkkpeaa.Base Go.Proofs.Ytmkjglnggkkpeaa.Shp
set_option linter.unusedVariables false
set_option linter.unusedSimpArgs false
theorem partZ_flat {b zb : Nat} (hb : 0 < b) {zs : List Zn} (h : ZInv b zb zs) : (zs.map flat).map (partZ b) = zs := by
  rw [List.map_map]
  refine (List.map_congr_left (g := id) fun p hp => ?_).trans (List.map_id _)
  obtain ⟨_, _, h4⟩ := h p hp
  show (pieces b ((flat p).1.length / b) (flat p).1, (flat p).2) = p
  rw [flat_count hb h4]
  refine Prod.ext ?_ rfl
  refine List.ext_getElem (by simp [pieces]) fun i h1 h2 => ?_
  have h3 := flat_get (xs := p.1) (k := i) h2 h4
  rw [List.getD_eq_getElem?_getD, List.getElem?_eq_getElem h2] at h3
  show (pieces b p.1.length p.1.flatten)[i]'_ = p.1[i]
  simp only [pieces, List.getElem_map, piece, List.getElem_finRange, Fin.cast_mk]
  exact h3
theorem hasB_map {zs : List Zn} (i : Int) : hasB (zs.map flat).length i = hasB zs.length i := by rw [List.length_map]
section
variable {b zb : Nat} {zs zs' : List Zn} {ps' : List Prt}
theorem hasB_lt {n : Nat} {i : Int} (h : hasB n i = true) : 0 ≤ i ∧ i.toNat < n := by
  unfold hasB at h
  simp at h
  omega
theorem at_agree (hb : 0 < b) (h : ZInv b zb zs) {i : Int} {e e' : Ending} (h1 : AtR (b : Int) (zs.map flat) i e) (h2 : RAtR zs i e') : e = e' := by
  rcases h1 with ⟨a1, a2⟩ | ⟨a1, a2⟩ <;> rcases h2 with ⟨b1, b2⟩ | ⟨b1, b2⟩
  · rw [a2, b2]
  · rw [hasB_map, b1] at a1; cases a1
  · rw [hasB_map, b1] at a1; cases a1
  · obtain ⟨hi0, hi⟩ := hasB_lt b1
    rw [a2, b2, map_getD, flat_countI hb (h.get hi).2.2]
    rfl
theorem reset_agree (h : ZInv b zb zs) {i : Int} {e e' : Ending} (h1 : ResR (zs.map flat) i e ps') (h2 : RResR zs i e' zs') : ∃ er : Int, (0 ≤ er ∧ er ≤ 200) ∧ e = .returned (.int .u16 er) ∧ e' = .returned (.int .i64 er) ∧ ps' = zs'.map flat ∧ ZInv b zb zs' ∧ zs'.length = zs.length := by
  rcases h1 with ⟨a1, a2, a3⟩ | ⟨a1, a2, a3⟩ <;> rcases h2 with ⟨b1, b2, b3⟩ | ⟨b1, b2, b3⟩
  · exact ⟨100, by omega, a2, b2, by rw [a3, b3], by rw [b3]; exact h, by rw [b3]⟩
  · rw [hasB_map, b1] at a1; cases a1
  · rw [hasB_map, b1] at a1; cases a1
  · exact ⟨0, by omega, a2, b2, by rw [a3, b3, flat_reset], by rw [b3]; exact h.set _ ⟨⟨by simp, by simp⟩, by simp, by simp⟩, by rw [b3, List.length_set]⟩
theorem read_agree (hb : 0 < b) (h : ZInv b zb zs) {zi bi er er' : Int} {bs bs' : List UInt8} (h1 : ReadR (b : Int) (zs.map flat) zi bi er bs) (h2 : RReadR zs zi bi er' bs') : er = er' ∧ bs = bs' ∧ 0 ≤ er ∧ er ≤ 200 := by
  rcases h1 with ⟨a1, a2, a3⟩ | ⟨a1, a2, a3, a4⟩ | ⟨a1, a2, a3, a4⟩ <;> rcases h2 with ⟨b1, b2, b3⟩ | ⟨b1, b2, b3, b4⟩ | ⟨b1, b2, b3, b4⟩
  · exact ⟨by rw [a2, b2], by rw [a3, b3], by omega, by omega⟩
  · rw [hasB_map, b1] at a1; cases a1
  · rw [hasB_map, b1] at a1; cases a1
  · rw [hasB_map, b1] at a1; cases a1
  · exact ⟨by rw [a3, b3], by rw [a4, b4], by omega, by omega⟩
  · rw [map_getD, flat_countI hb (h.get (hasB_lt b1).2).2.2] at a2
    exact absurd b2 a2
  · rw [hasB_map, b1] at a1; cases a1
  · rw [map_getD, flat_countI hb (h.get (hasB_lt b1).2).2.2] at a2
    exact absurd a2 b2
  · obtain ⟨c1, c2⟩ := b2
    refine ⟨by rw [a3, b3], ?_, by omega, by omega⟩
    rw [a4, b4, map_getD]
    obtain ⟨q, rfl⟩ : ∃ q : Nat, bi = (q : Int) := ⟨bi.toNat, by omega⟩
    have := flat_get (xs := (zs.getD zi.toNat ([], 0)).1) (k := q) (by omega) (h.get (hasB_lt b1).2).2.2
    rw [show ((q : Int) * (b : Int)).toNat = q * b from by rw [← Int.natCast_mul, Int.toNat_natCast], Int.toNat_natCast, Int.toNat_natCast]
    exact this
theorem app_agree (hb : 0 < b) (h : ZInv b zb zs) {i : Int} {xs : List UInt8} {e e' : Ending} (h1 : AppR (zb : Int) (b : Int) (zs.map flat) i xs e ps') (h2 : RAppR (zb : Int) (b : Int) zs i xs e' zs') :
    ∃ x y er : Int, (0 ≤ er ∧ er ≤ 200) ∧ e = addrV x y er ∧ e' = raddrV x y er ∧ ps' = zs'.map flat ∧ ZInv b zb zs' ∧ zs'.length = zs.length := by
  have key : hasB zs.length i = true → (((zs.map flat).getD i.toNat ([], 0)).1.length : Int) / (b : Int) = (((zs.getD i.toNat ([], 0)).1.length : Nat) : Int) := fun hh => by
    rw [map_getD, flat_countI hb (h.get (hasB_lt hh).2).2.2]
  rcases h1 with ⟨a1, a2, a3⟩ | ⟨a1, a4, a5, a2, a3⟩ | ⟨a1, a4, a5, a2, a3⟩ <;> rcases h2 with ⟨b1, b2, b3⟩ | ⟨b1, b4, b5, b2, b3⟩ | ⟨b1, b4, b5, b2, b3⟩
  · exact ⟨0, 0, 100, by omega, a2, b2, by rw [a3, b3], by rw [b3]; exact h, by rw [b3]⟩
  · rw [hasB_map, b1] at a1; rcases a1 with a1 | a1
    · cases a1
    · exact absurd b4 a1
  · rw [hasB_map, b1] at a1; rcases a1 with a1 | a1
    · cases a1
    · exact absurd b4 a1
  · rw [hasB_map] at a1; rw [a1] at b1; rcases b1 with b1 | b1
    · cases b1
    · exact absurd a4 b1
  · exact ⟨0, 0, 101, by omega, a2, b2, by rw [a3, b3], by rw [b3]; exact h, by rw [b3]⟩
  · rw [key b1] at a5; omega
  · rw [hasB_map] at a1; rw [a1] at b1; rcases b1 with b1 | b1
    · cases b1
    · exact absurd a4 b1
  · rw [key b1] at a5; omega
  · refine ⟨_, _, 0, by omega, a2, by rw [key b1]; exact b2, ?_, ?_, by rw [b3, List.length_set]⟩
    · rw [a3, b3, flat_app, map_getD]
    · rw [b3]
      obtain ⟨h5, h6, h7⟩ := h.get (hasB_lt b1).2
      refine h.set _ ⟨⟨h5.1, ?_⟩, ?_, ?_⟩
      · simp only [List.length_append, List.length_singleton]
        omega
      · simp only [List.length_append, List.length_singleton]
        omega
      · intro y hy
        rcases List.mem_append.1 hy with hy | hy
        · exact h7 y hy
        · rw [List.mem_singleton.1 hy]; omega
end
/-- Both devices. -/
structure Two (w : World) (xb rb B : Nat) (z zb b r : Int) (ps : List Prt) (zs : List Zn) (v vr : Value) (D R : Nat → Prop) : Prop where
  dev : Dev w xb B D z zb b r ps v
  ref : RDv w rb B R z zb b r zs vr
  dl : ∀ k, D k → B ≤ k ∧ k < w.heap.size
  rl : ∀ k, R k → B ≤ k ∧ k < w.heap.size
  dr : ∀ k, D k → ¬ R k
  xr : xb ≠ rb
  drb : ¬ D rb
  rxb : ¬ R xb
  bx : B ≤ xb ∧ B ≤ rb
section
variable {w w1 : World} {xb rb B : Nat} {z zb b r : Int} {ps ps' : List Prt} {zs zs' : List Zn} {v vr : Value} {D R : Nat → Prop}
theorem Two.xlt (h : Two w xb rb B z zb b r ps zs v vr D R) : xb < w.heap.size ∧ rb < w.heap.size := ⟨(Array.getElem?_eq_some_iff.1 h.dev.blk).1, (Array.getElem?_eq_some_iff.1 h.ref.blk).1⟩
theorem Two.base (h : Two w xb rb B z zb b r ps zs v vr D R) : B ≤ w.heap.size := by have := h.xlt; have := h.bx; omega
theorem Two.below (h : Two w xb rb B z zb b r ps zs v vr D R) (hb : Below w.heap.size w w1) : Two w1 xb rb B z zb b r ps zs v vr D R :=
  ⟨h.dev.below hb, h.ref.below hb, fun k hk => ⟨(h.dl k hk).1, Nat.lt_of_lt_of_le (h.dl k hk).2 hb.size⟩, fun k hk => ⟨(h.rl k hk).1, Nat.lt_of_lt_of_le (h.rl k hk).2 hb.size⟩, h.dr, h.xr, h.drb, h.rxb, h.bx⟩
theorem Two.chg (h : Two w xb rb B z zb b r ps zs v vr D R) (hc : Chg w w1 (fun k => w.heap.size ≤ k)) : Two w1 xb rb B z zb b r ps zs v vr D R := by
  have := h.xlt
  exact ⟨h.dev.chg hc (by omega) (fun k hk hs => by have := (h.dl k hk).2; omega), h.ref.chg hc (by omega) (fun k hk hs => by have := (h.rl k hk).2; omega), fun k hk => ⟨(h.dl k hk).1, Nat.lt_of_lt_of_le (h.dl k hk).2 hc.kept.1⟩, fun k hk => ⟨(h.rl k hk).1, Nat.lt_of_lt_of_le (h.rl k hk).2 hc.kept.1⟩, h.dr, h.xr, h.drb, h.rxb, h.bx⟩
theorem Two.devs (h : Two w xb rb B z zb b r ps zs v vr D R) : Dev w xb B (fun k => D k ∨ w.heap.size ≤ k) z zb b r ps v := h.dev.tight (fun k h _ _ => .inl h)
theorem Two.refs (h : Two w xb rb B z zb b r ps zs v vr D R) : RDv w rb B (fun k => R k ∨ w.heap.size ≤ k) z zb b r zs vr := h.ref.mono (fun k h _ => .inl h)
theorem Two.devop (h : Two w xb rb B z zb b r ps zs v vr D R) (hD : Dev w1 xb B (fun k => D k ∨ w.heap.size ≤ k) z zb b r ps' v) (hc : Chg w w1 (fun k => D k ∨ w.heap.size ≤ k)) :
    Two w1 xb rb B z zb b r ps' zs v vr (fun k => (D k ∨ w.heap.size ≤ k) ∧ B ≤ k ∧ k < w1.heap.size) R := by
  have hsz := hc.kept.1
  obtain ⟨hx, hr⟩ := h.xlt
  refine ⟨hD.tight (fun k hk h1 h2 => ⟨hk, h1, h2⟩), h.ref.chg hc (fun hs => hs.elim h.drb (fun h1 => by omega)) (fun k hk hs => hs.elim (fun h1 => h.dr k h1 hk) (fun h1 => by have := (h.rl k hk).2; omega)), fun k hk => hk.2, fun k hk => ⟨(h.rl k hk).1, by have := (h.rl k hk).2; omega⟩,
    fun k hk hr => hk.1.elim (fun h1 => h.dr k h1 hr) (fun h1 => by have := (h.rl k hr).2; omega), h.xr, fun hs => hs.1.elim h.drb (fun h1 => by omega), h.rxb, h.bx⟩
theorem Two.refop (h : Two w xb rb B z zb b r ps zs v vr D R) (hR : RDv w1 rb B (fun k => R k ∨ w.heap.size ≤ k) z zb b r zs' vr) (hc : Chg w w1 (fun k => R k ∨ w.heap.size ≤ k)) :
    Two w1 xb rb B z zb b r ps zs' v vr D (fun k => (R k ∨ w.heap.size ≤ k) ∧ B ≤ k ∧ k < w1.heap.size) := by
  have hsz := hc.kept.1
  obtain ⟨hx, hr⟩ := h.xlt
  have hbase : ∀ k, (R k ∨ w.heap.size ≤ k) → B ≤ k := fun k hk => hk.elim (fun h1 => (h.rl k h1).1) (fun h1 => Nat.le_trans h.base h1)
  refine ⟨h.dev.chg hc (fun hs => hs.elim h.rxb (fun h1 => by omega)) (fun k hk hs => hs.elim (fun h1 => h.dr k hk h1) (fun h1 => by have := (h.dl k hk).2; omega)), hR.mono (fun k hk hlt => ⟨hk, hbase k hk, hlt⟩), fun k hk => ⟨(h.dl k hk).1, by have := (h.dl k hk).2; omega⟩, fun k hk => hk.2,
    fun k hk hr => hr.1.elim (fun h1 => h.dr k hk h1) (fun h1 => by have := (h.dl k hk).2; omega), h.xr, h.drb, fun hs => hs.1.elim h.rxb (fun h1 => by omega), h.bx⟩
theorem Two.devB (h : Two w xb rb B z zb b r ps zs v vr D R) (hc : Chg w w1 (fun k => D k ∨ w.heap.size ≤ k)) : Below B w w1 :=
  hc.to_below h.base (fun k hk => hk.elim (fun h1 => (h.dl k h1).1) (fun h1 => Nat.le_trans h.base h1))
theorem Two.refB (h : Two w xb rb B z zb b r ps zs v vr D R) (hc : Chg w w1 (fun k => R k ∨ w.heap.size ≤ k)) : Below B w w1 :=
  hc.to_below h.base (fun k hk => hk.elim (fun h1 => (h.rl k h1).1) (fun h1 => Nat.le_trans h.base h1))
end
set_option maxHeartbeats 1000000 in
theorem rzones_calls (rb base : Nat) (ok : Nat → Prop) (z zb b r : Int) (zs : List Zn) (v : Value) (hn : zs.length ≤ 1000) (hxs : ∀ p ∈ zs, p.1.length ≤ 5000 ∧ ∀ x ∈ p.1, x.length ≤ 100000000) (w : World) (h : RDv w rb base ok z zb b r zs v) :
    Calls Try.prog 25 #[.pointer (some ⟨rb, 0, none⟩)] w fun e w' => ∃ v', e = .returned v' ∧ Kd.N zoneK 55 w' w.heap.size (fun k => w.heap.size ≤ k ∧ k < w'.heap.size) v' zs ∧ Below w.heap.size w w' := by
  obtain ⟨-, -, -, -, k4⟩ := h.cells
  obtain ⟨A, c, rfl, hc, hC⟩ := Kd.N_reads h.row
  have HC := Aside0.mk hC
  clear h hC
  go_enter Try.func25, Try.ntmps25
  go_wp2_with fail
  refine (lentz_calls A _ c zs hn hxs _ HC.out).mono ?_
  rintro e w2 ⟨v2, rfl, hN, hb⟩
  have HN := Aside0.mk hN
  have HB := Aside0.mk hb
  clear hN hb
  go_wp2
  go_ret
  exact ⟨_, rfl, HN.out, HB.out⟩
set_option maxHeartbeats 1000000 in
theorem shape_calls (xb base : Nat) (ok : Nat → Prop) (z zb b r : Int) (ps : List Prt) (v : Value) (w : World) (h : Dev w xb base ok z zb b r ps v) :
    Calls Try.prog 27 #[.pointer (some ⟨xb, 0, none⟩)] w fun e w' => e = .returned (.agg #[.int .i64 z, .int .i64 zb, .int .i64 b, .int .i64 r]) ∧ Below w.heap.size w w' := by
  obtain ⟨k0, k1, k2, k3, -⟩ := h.cells
  have hx : xb ≠ w.heap.size := by have := (Array.getElem?_eq_some_iff.1 h.blk).1; omega
  have k0 := pw_cell_below (alloc_below w (.cells #[.int .i64 0, .int .i64 0, .int .i64 0, .int .i64 0] 23)) k0
  have k1 := pw_cell_below (alloc_below w (.cells #[.int .i64 0, .int .i64 0, .int .i64 0, .int .i64 0] 23)) k1
  have k2 := pw_cell_below (alloc_below w (.cells #[.int .i64 0, .int .i64 0, .int .i64 0, .int .i64 0] 23)) k2
  have k3 := pw_cell_below (alloc_below w (.cells #[.int .i64 0, .int .i64 0, .int .i64 0, .int .i64 0] 23)) k3
  have HA := Aside0.mk (alloc_below w (.cells #[.int .i64 z, .int .i64 zb, .int .i64 b, .int .i64 r] 23))
  clear h
  go_enter Try.func27, Try.ntmps27
  go_wp2
  refine bodyPost_ret (by simp [results, Try.results27, go_sem, *]; rfl) rfl ?_
  exact ⟨rfl, HA.out⟩
end Go.Proofs.Ytmkjglnggkkpeaa.Dv
