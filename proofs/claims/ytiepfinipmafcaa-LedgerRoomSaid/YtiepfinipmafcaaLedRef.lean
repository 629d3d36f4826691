/- coamingref15.Fits, and that it answers as ledger.Fits does; the statement LedgerFits. -/
import Derived.Test.YtiepfinipmafcaaLedFits
import Derived.Deep.RegionHeld3
namespace Go.Proofs.Ytiepfinipmafcaa.Led
open Go.RowKit Go.Maps Go.Proofs.YtiepfinipmafcaaW.PrintWords Go.Proofs.YtiepfinipmafcaaW.PrintMore Go.Proofs.Ytiepfinipmafcaa.Base Go.Proofs.Ytiepfinipmafcaa.Shp
set_option linter.unusedVariables false
set_option linter.unusedSimpArgs false

def refF (most room : Nat) : Nat → List Nat → List Ten → Bool
  | sum, _, [] => decide (sum ≤ most) && decide (sum ≤ room)
  | sum, pre, t :: l => if t.1 ∈ pre ∨ most - sum < t.2.2.1 then false else refF most room (sum + t.2.2.1) (pre ++ [t.1]) l
def total (l : List Ten) : Nat := (l.map (·.2.2.1)).sum
def Apart (seen : List Nat) (l : List Ten) : Prop := (l.map (·.1)).Nodup ∧ ∀ t ∈ l, t.1 ∉ seen
theorem Apart.cons {seen : List Nat} {t : Ten} {l : List Ten} (seen' : List Nat) (hs : ∀ k, k ∈ seen' ↔ k = t.1 ∨ k ∈ seen) : Apart seen (t :: l) ↔ t.1 ∉ seen ∧ Apart seen' l := by
  unfold Apart
  simp only [List.map_cons, List.nodup_cons, List.mem_cons, forall_eq_or_imp]
  constructor
  · rintro ⟨⟨h1, h2⟩, h3, h4⟩
    refine ⟨h3, h2, fun u hu => ?_⟩
    rw [hs]
    rintro (e | e)
    · exact h1 (by rw [← e]; exact List.mem_map_of_mem hu)
    · exact h4 u hu e
  · rintro ⟨h1, h2, h3⟩
    refine ⟨⟨fun h => ?_, h2⟩, h1, fun u hu => fun h => h3 u hu ((hs _).2 (.inr h))⟩
    obtain ⟨u, hu, e⟩ := List.mem_map.1 h
    exact h3 u hu ((hs _).2 (.inl e))
theorem fitsF_iff : ∀ (l : List Ten) (left : Nat) (seen : List Nat), fitsF left seen l = true ↔ Apart seen l ∧ total l ≤ left
  | [], left, seen => by simp [fitsF, Apart, total]
  | t :: l, left, seen => by
    unfold fitsF
    rw [Apart.cons (t.1 :: seen) (fun k => by simp)]
    have ht : total (t :: l) = t.2.2.1 + total l := rfl
    rw [ht]
    split
    · rename_i h
      constructor
      · intro h'; cases h'
      · rintro ⟨⟨h1, h2⟩, h3⟩
        rcases h with h | h
        · exact absurd h h1
        · omega
    · rename_i h
      rw [fitsF_iff l]
      constructor
      · rintro ⟨h1, h2⟩; exact ⟨⟨fun x => h (.inl x), h1⟩, by have : ¬ left < t.2.2.1 := fun x => h (.inr x); omega⟩
      · rintro ⟨⟨h1, h2⟩, h3⟩; exact ⟨h2, by omega⟩
theorem refF_iff (most room : Nat) : ∀ (l : List Ten) (sum : Nat) (pre : List Nat), sum ≤ most → (refF most room sum pre l = true ↔ Apart pre l ∧ sum + total l ≤ most ∧ sum + total l ≤ room)
  | [], sum, pre, h => by simp [refF, Apart, total]
  | t :: l, sum, pre, hs => by
    unfold refF
    rw [Apart.cons (pre ++ [t.1]) (fun k => by simp [or_comm])]
    have ht : total (t :: l) = t.2.2.1 + total l := rfl
    rw [ht]
    split
    · rename_i h
      constructor
      · intro h'; cases h'
      · rintro ⟨⟨h1, h2⟩, h3⟩
        rcases h with h | h
        · exact absurd h h1
        · omega
    · rename_i h
      have hle : t.2.2.1 ≤ most - sum := by have : ¬ most - sum < t.2.2.1 := fun x => h (.inr x); omega
      rw [refF_iff most room l _ _ (by omega)]
      constructor
      · rintro ⟨h1, h2⟩; exact ⟨⟨fun x => h (.inl x), h1⟩, by omega⟩
      · rintro ⟨⟨h1, h2⟩, h3⟩; exact ⟨h2, by omega⟩
theorem fits_ref (z zb b r : Int) (most room : Nat) (h1 : (z - 3 - r) * (zb / 4) = (most : Int)) (h2 : zb * rm b = (room : Int)) (l : List Ten) :
    fits z zb b r l = (decide (Rt z zb b r) && decide (l.length ≤ 64) && refF most room 0 [] l) := by
  unfold fits
  congr 1
  rw [Bool.eq_iff_iff, fitsF_iff, refF_iff _ _ _ _ _ (Nat.zero_le _)]
  have : (roomZ z zb b r).toNat = min most room := by
    unfold roomZ
    rw [h1, h2]
    unfold mn
    split <;> omega
  rw [this]
  constructor
  · rintro ⟨h3, h4⟩; exact ⟨h3, by omega⟩
  · rintro ⟨h3, h4⟩; exact ⟨h3, by omega⟩

theorem reffits_calls (z zb b r : Int) (hz : IsI z) (hzb : IsI zb) (hb : IsI b) (hr : IsI r) (A : Option Addr) (n cap : Nat) (xs : List Ten) (w : World) (h : tenK.C w A n xs) :
    Calls Try.prog 19 #[.agg #[.int .i64 z, .int .i64 zb, .int .i64 b, .int .i64 r], .slice A n cap] w fun e w' => e = .returned (.bool (fits z zb b r xs)) ∧ Below w.heap.size w w' := by
  have H := Aside0.mk h
  obtain ⟨hlen, hmax⟩ := C_len h
  have HL := Aside0.mk hlen
  clear h hlen
  have hA := Aside0.mk (alloc_below w (.cells #[.int .i64 z, .int .i64 zb, .int .i64 b, .int .i64 r] 44))
  go_enter Try.func19, Try.ntmps19
  go_wp2_with fail
  refine (ref_right_calls z zb b r hz hzb hb hr _).mono ?_
  rintro e w1 ⟨rfl, hw1⟩
  have HB1 := Aside0.mk (below_then hA.out (by simp) hw1)
  have hc : w1.cell? ⟨w.heap.size, 0, none⟩ = some (.int .i64 z) ∧ w1.cell? ⟨w.heap.size, 1, none⟩ = some (.int .i64 zb) ∧ w1.cell? ⟨w.heap.size, 2, none⟩ = some (.int .i64 b) ∧ w1.cell? ⟨w.heap.size, 3, none⟩ = some (.int .i64 r) :=
    ⟨pw_cell_below hw1 (by go_simp), pw_cell_below hw1 (by go_simp), pw_cell_below hw1 (by go_simp), pw_cell_below hw1 (by go_simp)⟩
  obtain ⟨k0, k1, k2, k3⟩ := hc
  clear hw1
  by_cases hrt : Rt z zb b r
  · rw [decide_eq_true hrt]
    have HRT := Aside0.mk hrt
    by_cases h64 : n ≤ 64
    · obtain ⟨⟨p1, p2⟩, p3, p4⟩ := rt_bd hrt
      obtain ⟨h1, h2, h3, h4, h5, h6, h7⟩ := hrt
      obtain ⟨hb1, hb2⟩ := pow_range h5
      obtain ⟨q1, q2⟩ := rm_bd (b := b)
      clear h5
      obtain ⟨most, hmost⟩ : ∃ most : Nat, (z - 3 - r) * (zb / 4) = (most : Int) := ⟨((z - 3 - r) * (zb / 4)).toNat, by omega⟩
      obtain ⟨room, hroom⟩ : ∃ room : Nat, zb * rm b = (room : Int) := ⟨(zb * rm b).toNat, by omega⟩
      have hF := Aside0.mk (show fits z zb b r xs = refF most room 0 [] xs from by
        rw [fits_ref z zb b r most room hmost hroom, decide_eq_true HRT.out, decide_eq_true (show xs.length ≤ 64 by rw [HL.out]; exact h64)]
        rfl)
      have hm1 : most ≤ 257024 := by omega
      have hr1 : room ≤ 1040384 := by omega
      have e4 : IntKind.i64.wrap (room : Int) = (room : Int) := IntWalk.i64_in _ (by omega)
      have e6 : IntKind.u64.wrap (room : Int) = (room : Int) := IntWalk.u64_in _ (by omega)
      go_wp2_with fail
      go_quiet ((go_at_call 31; exact Calls.quiet_of_same ((ref_room_calls _ (by exact ⟨by omega, by omega⟩) _).mono fun _ _ h => ⟨h.1, h.2.symm⟩)))
      have HB2 := Aside0.mk (pw_below_drewN HB1.out nq)
      clear k0 k1 k2 k3 e4 e6 hmost hroom p1 p2 p3 p4
      go_wp2
      generalize w1.drewN nq = w2 at *
      go_loopg [8, 9] n (fun k v8 v9 wr => ∃ (i sum : Nat), v8 = .int .u64 (sum : Int) ∧ v9 = .int .i64 (i : Int) ∧ i ≤ n ∧ sum ≤ most ∧
        Aside0 (k + i = n ∧ refF most room sum ((xs.take i).map (·.1)) (xs.drop i) = refF most room 0 [] xs ∧ Below w.heap.size w wr))
      case atStart => exact ⟨0, 0, rfl, rfl, by omega, by omega, ⟨rfl, rfl, HB2.out⟩⟩
      case round =>
        obtain ⟨i, sum, rfl, rfl, hi, hsum, HS⟩ := hrel
        by_cases hlt : i < n
        · obtain ⟨t, ht⟩ : ∃ t, xs.getD i (0, [], 0, 0, []) = t := ⟨_, rfl⟩
          have HT := Aside0.mk (show refF most room sum ((xs.take i).map (·.1)) (xs.drop i) = if t.1 ∈ ((xs.take i).map (·.1)) ∨ most - sum < t.2.2.1 then false else refF most room (sum + t.2.2.1) ((xs.take i).map (·.1) ++ [t.1]) (xs.drop (i + 1)) from by
            rw [drop_getD xs i (0, [], 0, 0, []) (by rw [HL.out]; exact hlt), ht]; rfl)
          have HTT := Aside0.mk ht
          clear ht
          obtain ⟨gk0, hgk0⟩ : ∃ g0, gk = g0 := ⟨_, rfl⟩
          obtain ⟨wo, hwo⟩ : ∃ wo, wr = wo := ⟨_, rfl⟩
          subst hgk0 hwo
          go_wp2
          go_loopg [10] i (fun k v10 wi => ∃ (j : Nat), v10 = .int .i64 (j : Int) ∧ j ≤ i ∧ Aside0 (k + j = i ∧ (∀ p, p < j → (xs.getD p (0, [], 0, 0, [])).1 ≠ t.1) ∧ Below w.heap.size w wi))
          case atStart => exact ⟨0, rfl, by omega, ⟨rfl, fun p hp => by omega, HS.out.2.2⟩⟩
          case round =>
            obtain ⟨j, rfl, hj, HJ⟩ := hrel
            by_cases hji : j < i
            · obtain ⟨u, hu⟩ : ∃ u, xs.getD j (0, [], 0, 0, []) = u := ⟨_, rfl⟩
              obtain ⟨ad, a, m, k, a', m', k', rfl, g1, g2, c0, _, _, _, _⟩ := ten_at (Kd.C_below H.out HJ.out.2.2) j (by omega) u hu
              obtain ⟨ad2, a2, m2, kk2, a2', m2', k2', hadd, f1, f2, d0, _, _, _, _⟩ := ten_at (Kd.C_below H.out HJ.out.2.2) i hlt t HTT.out
              injection hadd with hadd
              subst hadd
              have HU := Aside0.mk hu
              clear hu
              have j0 : (0 : Int) ≤ (j : Int) := Int.natCast_nonneg _
              have j1 : (j : Int) < (n : Int) := by omega
              have i0 : (0 : Int) ≤ (i : Int) := Int.natCast_nonneg _
              have i1 : (i : Int) < (n : Int) := by omega
              by_cases hid : u.1 = t.1
              · have hq : ((u.1 : Int) == (t.1 : Int)) = true := by rw [hid]; exact beq_self_eq_true _
                have hmem : t.1 ∈ ((xs.take i).map (·.1)) := by
                  refine List.mem_map.2 ⟨u, ?_, hid⟩
                  refine List.mem_take_iff_getElem.2 ⟨j, by rw [HL.out]; omega, ?_⟩
                  have := HU.out
                  rw [List.getD_eq_getElem?_getD, List.getElem?_eq_getElem (show j < xs.length by rw [HL.out]; omega)] at this
                  exact this
                have hfalse := Aside0.mk (show fits z zb b r xs = false by rw [hF.out, ← HS.out.2.1, HT.out, if_pos (.inl hmem)])
                clear hmem
                clear hid
                go_wp2
                go_quiet (fail)
                go_wp2
                go_ret
                exact ⟨by rw [hfalse.out]; rfl, pw_below_drewN HJ.out.2.2 _⟩
              · have hq : ((u.1 : Int) == (t.1 : Int)) = false := by rw [beq_eq_false_iff_ne]; omega
                have HID := Aside0.mk hid
                clear hid
                go_wp2
                go_quiet (fail)
                go_wp2
                go_roundg (gk - 1)
                case measure => have := HJ.out.1; omega
                case rel => exact ⟨j + 1, by congr 1, by omega, ⟨by have := HJ.out.1; omega, fun p hp => by
                  by_cases e : p = j
                  · subst e; rw [HU.out]; exact HID.out
                  · exact HJ.out.2.1 p (by omega), pw_below_drewN HJ.out.2.2 _⟩⟩
            · have hji' : j = i := by omega
              subst hji'
              obtain ⟨ad, a, m, k, a', m', k', rfl, g1, g2, c0, c1, c2, c3, c4⟩ := ten_at (Kd.C_below H.out HJ.out.2.2) j hlt t HTT.out
              have hnm := Aside0.mk (show t.1 ∉ ((xs.take j).map (·.1)) from by
                intro hm
                obtain ⟨u, hu, e⟩ := List.mem_map.1 hm
                obtain ⟨p, hp, e2⟩ := List.mem_take_iff_getElem.1 hu
                refine HJ.out.2.1 p (by omega) ?_
                rw [List.getD_eq_getElem?_getD, List.getElem?_eq_getElem (show p < xs.length by omega)]
                show xs[p].1 = t.1
                rw [e2, e])
              have hsub : (most : Int) - (sum : Int) = ((most - sum : Nat) : Int) := by omega
              by_cases hq : most - sum < t.2.2.1
              · have hfalse := Aside0.mk (show fits z zb b r xs = false by rw [hF.out, ← HS.out.2.1, HT.out, if_pos (.inr hq)])
                go_wp2
                go_ret
                exact ⟨by rw [hfalse.out]; rfl, HJ.out.2.2⟩
              · have hnext := Aside0.mk (show refF most room (sum + t.2.2.1) ((xs.take (j + 1)).map (·.1)) (xs.drop (j + 1)) = refF most room 0 [] xs by
                  rw [← HS.out.2.1, HT.out, if_neg (by intro h; rcases h with h | h; exact hnm.out h; exact hq h)]
                  congr 1
                  have hlt' : j < xs.length := by rw [HL.out]; exact hlt
                  rw [List.take_succ_eq_append_getElem hlt', List.map_append]
                  have : xs[j] = t := by rw [← HTT.out, List.getD_eq_getElem?_getD, List.getElem?_eq_getElem hlt']; rfl
                  rw [this]
                  rfl)
                go_wp2
                go_roundg (n - (j + 1))
                case measure => have := HS.out.1; omega
                case rel => exact ⟨j + 1, sum + t.2.2.1, by congr 1, by congr 1, by omega, by omega, ⟨by omega, hnext.out, HJ.out.2.2⟩⟩
        · have hin : i = n := by omega
          have hend := Aside0.mk (show fits z zb b r xs = (decide (sum ≤ most) && decide (sum ≤ room)) by
            rw [hF.out, ← HS.out.2.1, List.drop_of_length_le (by rw [HL.out]; omega)]
            rfl)
          go_wp2
          all_goals
            go_ret
            refine ⟨?_, HS.out.2.2⟩
            rw [hend.out]
            simp [hsum]
    · have hF := Aside0.mk (show fits z zb b r xs = false from by unfold fits; rw [decide_eq_false (show ¬ xs.length ≤ 64 by rw [HL.out]; exact h64)]; simp)
      clear hrt
      go_wp2
      go_ret
      exact ⟨by rw [hF.out]; rfl, HB1.out⟩
  · rw [decide_eq_false hrt]
    have hF := Aside0.mk (show fits z zb b r xs = false from by unfold fits; rw [decide_eq_false hrt]; simp)
    clear hrt
    go_wp2
    go_ret
    exact ⟨by rw [hF.out]; rfl, HB1.out⟩

theorem fitsLaw_calls (z zb b r : Int) (hz : IsI z) (hzb : IsI zb) (hb : IsI b) (hr : IsI r) (A : Option Addr) (n cap : Nat) (xs : List Ten) (w : World) (h : tenK.C w A n xs) :
    Calls Try.prog 5 #[.agg #[.int .i64 z, .int .i64 zb, .int .i64 b, .int .i64 r], .slice A n cap] w fun e w' => e = .returned (.bool true) ∧ Below w.heap.size w w' := by
  obtain ⟨hlen, hmax⟩ := C_len h
  have H := Aside0.mk (Kd.C_below h (alloc_below w (.cells #[.int .i64 z, .int .i64 zb, .int .i64 b, .int .i64 r] 44)))
  clear h hlen
  have hA := Aside0.mk (alloc_below w (.cells #[.int .i64 z, .int .i64 zb, .int .i64 b, .int .i64 r] 44))
  by_cases hn : n ≤ 100
  · go_enter Try.func5, Try.ntmps5
    go_wp2_with fail
    have k0 : (w.alloc (.cells #[.int .i64 z, .int .i64 zb, .int .i64 b, .int .i64 r] 44)).cell? ⟨w.heap.size, 0, none⟩ = some (.int .i64 z) := by go_simp
    have k1 : (w.alloc (.cells #[.int .i64 z, .int .i64 zb, .int .i64 b, .int .i64 r] 44)).cell? ⟨w.heap.size, 1, none⟩ = some (.int .i64 zb) := by go_simp
    have k2 : (w.alloc (.cells #[.int .i64 z, .int .i64 zb, .int .i64 b, .int .i64 r] 44)).cell? ⟨w.heap.size, 2, none⟩ = some (.int .i64 b) := by go_simp
    have k3 : (w.alloc (.cells #[.int .i64 z, .int .i64 zb, .int .i64 b, .int .i64 r] 44)).cell? ⟨w.heap.size, 3, none⟩ = some (.int .i64 r) := by go_simp
    obtain ⟨g, hg⟩ : ∃ g, w.heap.size = g := ⟨_, rfl⟩
    generalize w.alloc (.cells #[.int .i64 z, .int .i64 zb, .int .i64 b, .int .i64 r] 44) = W at *
    rw [hg] at k0 k1 k2 k3 hA ⊢
    have HG := Aside0.mk hg
    clear hg
    go_region_held3 (fun w' => w'.cell? ⟨g, 0, none⟩ = some (.int .i64 z) ∧ w'.cell? ⟨g, 1, none⟩ = some (.int .i64 zb) ∧ w'.cell? ⟨g, 2, none⟩ = some (.int .i64 b) ∧ w'.cell? ⟨g, 3, none⟩ = some (.int .i64 r) ∧ Below W.heap.size W w')
      (first
        | exact ⟨k0, k1, k2, k3, below_drew (Below.refl _ _)⟩
        | (go_split_ands; refine (fun hB => And.intro (pw_cell_below hB k0) (And.intro (pw_cell_below hB k1) (And.intro (pw_cell_below hB k2) (And.intro (pw_cell_below hB k3) hB)))) ?_; exact below_go (by assumption) hw1))
      (first
        | (go_at_call 10; refine (known_calls _).mono ?_; rintro e w1 ⟨rfl, hw1⟩)
        | (go_at_call 18; go_split_ands; refine (ledfits_calls z zb b r hz hzb hb hr _ n cap xs _ (Kd.C_below H.out (by assumption))).mono ?_; rintro e w1 ⟨rfl, hw1⟩)
        | (go_at_call 19; go_split_ands; refine (reffits_calls z zb b r hz hzb hb hr _ n cap xs _ (Kd.C_below H.out (by assumption))).mono ?_; rintro e w1 ⟨rfl, hw1⟩))
    all_goals
      go_split_ands
      have hB := ‹Below W.heap.size W _›
      have HB := Aside0.mk (Below.trans hA.out (hB.mono (by have h1 := hA.out.size; have h2 := HG.out; omega)))
      clear hB
      go_wp2
      go_ret
      exact ⟨rfl, by rw [HG.out]; exact HB.out⟩
  · go_enter Try.func5, Try.ntmps5
    go_wp2
    go_ret
    exact ⟨rfl, hA.out⟩
theorem fits_walk (W : World) (s : Int × Int × Int × Int) (hs : IsI s.1 ∧ IsI s.2.1 ∧ IsI s.2.2.1 ∧ IsI s.2.2.2) (a : Option Addr) (len cap : Nat) (l : List Ten) (le : len ≤ cap) (c : tenK.C W a len l) :
    Calls Try.prog 5 #[.agg #[.int .i64 s.1, .int .i64 s.2.1, .int .i64 s.2.2.1, .int .i64 s.2.2.2], .slice a len cap] W fun e w' => e = .returned (.bool true) ∧ Below W.heap.size W w' :=
  fitsLaw_calls _ _ _ _ hs.1 hs.2.1 hs.2.2.1 hs.2.2.2 a len cap l W c
end Go.Proofs.Ytiepfinipmafcaa.Led
