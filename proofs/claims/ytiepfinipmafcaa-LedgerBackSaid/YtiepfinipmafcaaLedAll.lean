/- ledger.All: what all have, rising; the document's All; SameUsed. -/
import Derived.Test.YtiepfinipmafcaaLedSame
import Derived.Test.YtiepfinipmafcaaIt32Walks
import Derived.Test.YtiepfinipmafcaaS32Sort
import Derived.Handy
namespace Go.Proofs.Ytiepfinipmafcaa.Led
open Go.RowKit Go.Maps Go.Proofs.YtiepfinipmafcaaW.PrintWords Go.Proofs.YtiepfinipmafcaaW.PrintMore Go.Proofs.Ytiepfinipmafcaa.Base
open Go.Proofs.Ytiepfinipmafcaa.It (encU intKeysU)
set_option linter.unusedVariables false
set_option linter.unusedSimpArgs false
theorem sortsU (m : Nat) : It.SortsIn Fence.wide m :=
  ⟨fun blk off cap ss W hH hblk hsz => callsIn_wide.2 (S32.slices_Sort_u32 blk off cap ss W hH hblk hsz), fun p cap W => callsIn_wide.2 (S32.Sort_u32_nil p cap W)⟩
theorem keysU_calls (mb : Option Nat) (W : World) : Calls Try.prog 33 #[.map mb] W
    fun e w' => e = .returned (.func (.func 38) #[] #[.pointer (some ⟨W.heap.size, 0, none⟩)]) ∧ w' = W.alloc (.cells #[.map mb] 53) :=
  callsIn_wide.1 (It.keys_in Fence.wide 5 trivial rfl mb W)
theorem sortedU_calls {H : Type} (Bm b nn : Nat) (D0 : DataW H) {R : Value → Option (DataW H × List MemPlace)} (w : World) (hBm : Bm < w.heap.size) (hm : w.cell? ⟨Bm, 0, none⟩ = some (.map (some b))) (hown : w.ownsMap Try.prog 24 R b nn D0) (hn : nn ≤ 1000000) :
    Calls Try.prog 32 #[.func (.func 38) #[] #[.pointer (some ⟨Bm, 0, none⟩)]] w
      fun e w' => ∃ (v : Value) (ss : List Int), e = .returned v ∧ ss.Perm (intKeysU D0) ∧ w'.ownsRow w.heap.size 24 1 v ss.length ((ss.mergeSort (fun x y => decide (x ≤ y))).map encU) ∧ (v = .slice none 0 0 ↔ ss = []) ∧ Below w.heap.size w w' := by
  have hsz := hown.size_le
  have hml : (1000000 : Nat) ≤ maxLen := by decide
  have hseq := It.keys_gives Fence.wide 2 trivial rfl (by omega) Bm b nn D0 (R := R) w hBm hm hown
  exact callsIn_wide.1 (It.sorted_in Fence.wide 5 trivial trivial trivial trivial rfl (by omega) (sortsU _) (enters_of Try.func37 (by kernel_rfl) rfl) 38 #[.pointer (some ⟨Bm, 0, none⟩)] trivial
    (enters_of Try.func38 (by kernel_rfl) rfl) _ (Maps.size D0) (by omega) (by omega) w hseq)
/-- The keys, sorted, as numbers that rise. -/
theorem keys_rise {w : World} {bm n : Nat} {f : Nat → Option (Nat × Nat)} {D : DataW Unit} (ho : w.ownsMap Try.prog 24 accR bm n D) (hf : ∀ k, k < 4294967296 → Maps.has D (key k) = (f k).isSome ∧ D.atKey (key k) (accD (0, 0)) = accD ((f k).getD (0, 0)))
    (hbig : ∀ k, (f k).isSome = true → k < 4294967296) {ss : List Int} (hp : ss.Perm (intKeysU D)) :
    ∃ ks : List Nat, ss.mergeSort (fun x y => decide (x ≤ y)) = ks.map (fun k : Nat => (k : Int)) ∧ Rise f ks ∧ (∀ k ∈ ks, k < 4294967296) ∧ ks.length = ss.length := by
  have hwf := It.intKeysU_wf ho Try.underlying24
  have hpos : ∀ x ∈ ss.mergeSort (fun x y => decide (x ≤ y)), 0 ≤ x ∧ x < 4294967296 := fun x hx => by
    have h1 := hwf x (hp.mem_iff.1 ((List.mergeSort_perm ss _).mem_iff.1 hx))
    simp [Lit.wf, IntKind.min, IntKind.max, IntKind.bits, IntKind.signed] at h1
    omega
  obtain ⟨es, hD, hpw, _⟩ := ho.entries law
  obtain ⟨es', hD', hko⟩ := ho.keysOf
  obtain rfl : es = es' := by rw [hD] at hD'; simpa using hD'
  have hnd : (intKeysU D).Nodup := by
    rw [hD]
    show (es.map fun p => It.intOfU p.1).Nodup
    refine List.pairwise_map.2 (hpw.imp_of_mem fun {p q} hp' hq' hne e => hne ?_)
    obtain ⟨v1, hv1⟩ := hko p hp'
    obtain ⟨v2, hv2⟩ := hko q hq'
    obtain ⟨a, _, ha, _⟩ := It.keyOf_u32 Try.underlying24 hv1
    obtain ⟨b, _, hb, _⟩ := It.keyOf_u32 Try.underlying24 hv2
    rw [ha, hb] at e ⊢
    exact congrArg _ e
  have hmem : ∀ x : Int, x ∈ intKeysU D ↔ Maps.has D (.int .u32 x) = true := fun x => by
    rw [hD, has_eq, List.any_eq_true]
    show x ∈ es.map (fun p => It.intOfU p.1) ↔ _
    rw [List.mem_map]
    constructor
    · rintro ⟨p, hp', rfl⟩
      obtain ⟨v1, hv1⟩ := hko p hp'
      obtain ⟨a, _, ha, _⟩ := It.keyOf_u32 Try.underlying24 hv1
      exact ⟨p, hp', by rw [ha]; simp [Lit.sameKey, It.intOfU]⟩
    · rintro ⟨p, hp', hs⟩
      obtain ⟨v1, hv1⟩ := hko p hp'
      obtain ⟨a, _, ha, _⟩ := It.keyOf_u32 Try.underlying24 hv1
      rw [ha] at hs
      exact ⟨p, hp', by rw [ha]; simpa [Lit.sameKey, It.intOfU] using hs⟩
  have tr : ∀ a b c : Int, decide (a ≤ b) = true → decide (b ≤ c) = true → decide (a ≤ c) = true := fun a b c h1 h2 => by simp only [decide_eq_true_eq] at *; omega
  have tot : ∀ a b : Int, (decide (a ≤ b) || decide (b ≤ a)) = true := fun a b => by simp only [Bool.or_eq_true, decide_eq_true_eq]; omega
  have hsrt := List.pairwise_mergeSort (le := fun x y : Int => decide (x ≤ y)) tr tot ss
  have hnds : (ss.mergeSort (fun x y => decide (x ≤ y))).Nodup := ((List.mergeSort_perm ss _).trans hp).nodup_iff.2 hnd
  have hms : ∀ x : Int, x ∈ ss.mergeSort (fun x y => decide (x ≤ y)) ↔ Maps.has D (.int .u32 x) = true := fun x => by rw [(List.mergeSort_perm ss _).mem_iff, hp.mem_iff, hmem]
  have hlen : (ss.mergeSort (fun x y => decide (x ≤ y))).length = ss.length := (List.mergeSort_perm ss _).length_eq
  generalize ss.mergeSort (fun x y => decide (x ≤ y)) = ts at *
  have hback : ts = (ts.map Int.toNat).map (fun k : Nat => (k : Int)) := by
    rw [List.map_map]
    conv => lhs; rw [← List.map_id ts]
    refine List.map_congr_left fun x hx => ?_
    have := (hpos x hx).1
    show x = ((x.toNat : Nat) : Int)
    omega
  refine ⟨ts.map Int.toNat, hback, ⟨?_, fun k => ?_⟩, fun k hk => ?_, by rw [List.length_map, hlen]⟩
  · refine List.pairwise_map.2 ((hsrt.and hnds).imp_of_mem fun {a b} ha hb hab => ?_)
    have h1 := hpos a ha
    have h2 := hpos b hb
    have h3 : a ≤ b := by simpa using hab.1
    have h4 : a ≠ b := hab.2
    omega
  · rw [List.mem_map]
    constructor
    · rintro ⟨x, hx, rfl⟩
      have h1 := hpos x hx
      have h2 := (hms x).1 hx
      rw [← (hf x.toNat (by omega)).1]
      unfold key
      rw [Int.toNat_of_nonneg h1.1]
      exact h2
    · intro hk
      have h1 := hbig k hk
      refine ⟨(k : Int), (hms _).2 ?_, Int.toNat_natCast k⟩
      rw [← (hf k h1).1] at hk
      exact hk
  · obtain ⟨x, hx, rfl⟩ := List.mem_map.1 hk
    have := hpos x hx
    omega
/-- What All tells: who, how much. -/
def usedK : Kd (Nat × Nat) := Kd.pair (nat .u32) (nat .u64)
theorem heap_used : Kd.Heap usedK := Kd.heap_pair (heap_nat _) (heap_nat _)
theorem info_used : (Try.prog.info? 72).map (fun i => (i.zero, i.size, i.bytes)) = some (some (.agg #[.int .u32 0, .int .u64 0]), 2, 16) := by kernel_rfl
theorem usedK_mk {w : World} {k u : Nat} (h0 : k < 4294967296) (h1 : u < 18446744073709551616) : usedK.K w (k, u) [.int .u32 (k : Int), .int .u64 (u : Int)] :=
  ⟨[_], _, rfl, ⟨rfl, wf_key h0⟩, ⟨rfl, wf_nat64 h1⟩⟩
/-- A row of sorted keys, read. -/
theorem row_keys {w : World} {base n : Nat} {v : Value} {ks : List Nat} (h : w.ownsRow base 24 1 v n (ks.map (fun k : Nat => encU (k : Int)))) : ∃ A c, v = .slice A n c ∧ ks.length = n ∧ n ≤ 9223372036854775807 ∧ ∀ i, i < n → ∃ ad, A = some ad ∧ w.cell? (ad.add i) = some (.int .u32 ((ks.getD i 0 : Nat) : Int)) := by
  obtain ⟨hl, h⟩ := h
  have hl' : ks.length = n := by simpa using hl
  rcases h with ⟨rfl, rfl⟩ | ⟨g, cap, cur, rfl, h1, h2, h3, h4, h5, h6⟩
  · exact ⟨none, 0, rfl, hl', by omega, fun i hi => absurd hi (by omega)⟩
  · refine ⟨_, cap, rfl, hl', by have : maxLen = 9223372036854775807 := rfl; omega, fun i hi => ⟨_, rfl, ?_⟩⟩
    have e : (⟨g, 0, none⟩ : Addr).add i = ⟨g, i, none⟩ := by rw [add_plain]
    rw [e]
    simp only [World.cell?, h2, Option.isSome_none, Bool.false_eq_true, if_false]
    have h7 := congrArg (fun l => l[i]?) h6
    simp only [Nat.mul_one] at h7
    rw [List.getElem?_take_of_lt hi, Array.getElem?_toList, List.getElem?_map] at h7
    rw [h7, List.getD_eq_getElem?_getD, List.getElem?_eq_getElem (by omega)]
    rfl
set_option maxRecDepth 100000 in
set_option maxHeartbeats 4000000 in
theorem all_calls (xb bm n : Nat) (f : Nat → Option (Nat × Nat)) (hn : n ≤ 1000000) (hf : Good f) (hbig : ∀ k, (f k).isSome = true → k < 4294967296) (w : World) (h : Ledg w xb bm n f) :
    Calls Try.prog 21 #[.pointer (some ⟨xb, 0, none⟩)] w
      fun e w' => ∃ v ks, e = .returned v ∧ Rise f ks ∧ (∀ k ∈ ks, k < 4294967296) ∧ Kd.N usedK 72 w' w.heap.size (fun k => w.heap.size ≤ k) v (usedF f ks) ∧ Below w.heap.size w w' := by
  have hc := h.at_
  have H := Aside0.mk h
  obtain ⟨D, ho, hfD⟩ := h.acc
  have HO := Aside0.mk ho
  have HFD := Aside0.mk hfD
  have HF := Aside0.mk hf
  have HBIG := Aside0.mk hbig
  clear h ho hfD hf hbig
  go_enter Try.func21, Try.ntmps21
  go_wp2_with fail
  refine (keysU_calls (some bm) _).mono ?_
  rintro e w1 ⟨rfl, hw1⟩
  have hb1 : Below w.heap.size w w1 := by rw [hw1]; exact alloc_below w _
  have hm1 : w1.cell? ⟨w.heap.size, 0, none⟩ = some (.map (some bm)) := by rw [hw1]; go_simp
  have hlt1 : w.heap.size < w1.heap.size := by rw [hw1]; simp
  have HB1 := Aside0.mk hb1
  have HM1 := Aside0.mk hm1
  have HL1 := Aside0.mk hlt1
  clear hw1 hb1 hm1 hlt1
  go_wp2_with fail
  refine (sortedU_calls (R := accR) w.heap.size bm n D w1 HL1.out HM1.out (HO.out.kept (grown_of_below HB1.out none) (by simp)) hn).mono ?_
  rintro e w2 ⟨v2, ss, rfl, hp, hrow, -, hb2⟩
  obtain ⟨ks, hks, hrise, hk32, hlen⟩ := keys_rise HO.out HFD.out HBIG.out hp
  rw [hks, List.map_map] at hrow
  obtain ⟨A, c, rfl, hl, hmax, hrd⟩ := row_keys (ks := ks) hrow
  rw [← hlen] at hmax hrd ⊢
  obtain ⟨m, hm⟩ : ∃ m, ks.length = m := ⟨_, rfl⟩
  rw [hm] at hmax hrd ⊢
  have hmn : m ≤ n := by
    have h1 := HO.out.size_le
    have h2 := hp.length_eq
    obtain ⟨es, hD, -⟩ := HO.out.entries law
    have h3 : (intKeysU D).length = Maps.size D := by rw [hD]; simp [It.intKeysU, Maps.size]
    omega
  have HM := Aside0.mk hm
  have HRD := Aside0.mk hrd
  have HRISE := Aside0.mk hrise
  have HK32 := Aside0.mk hk32
  have HB2 := Aside0.mk (below_go HB1.out hb2)
  clear hp hrow hb2 hks hlen hl hm hrd hrise hk32
  go_wp2
  go_loopg [3, 13] m (fun g v3 v13 wr => ∃ i : Nat, v13 = .int .i64 (i : Int) ∧ i ≤ m ∧ Aside0 (g + i = m) ∧ Aside0 (Kd.N usedK 72 wr w2.heap.size (fun k => w2.heap.size ≤ k) v3 (usedF f (ks.take i))) ∧ Aside0 (Below w2.heap.size w2 wr))
  case atStart => exact ⟨0, rfl, Nat.zero_le _, ⟨rfl⟩, ⟨Kd.N_nil _ _ _ _ _⟩, ⟨Below.refl _ _⟩⟩
  case round =>
    obtain ⟨i, rfl, hi, HK, HNr, HBr⟩ := hrel
    obtain ⟨Ao, no, co, rfl, -, -⟩ := N_open HNr.out
    have HLr := Aside0.mk (H.out.below (below_go HB2.out HBr.out))
    have hcr := HLr.out.at_
    by_cases hlt : i < m
    · have hd0 : decide ((i : Int) < (m : Int)) = true := decide_eq_true (by omega)
      have hd0' : decide (i < m) = true := decide_eq_true hlt
      have hi0 : (0 : Int) ≤ (i : Int) := by omega
      have hi1 : (i : Int) < (m : Int) := by omega
      obtain ⟨ad, rfl, hk⟩ := HRD.out i hlt
      obtain ⟨k, hkk⟩ : ∃ k, ks.getD i 0 = k := ⟨_, rfl⟩
      have hk := pw_cell_below HBr.out hk
      rw [hkk] at hk
      have hil : i < ks.length := by rw [HM.out]; exact hlt
      have hmem : k ∈ ks := by rw [← hkk, List.getD_eq_getElem?_getD, List.getElem?_eq_getElem hil]; exact List.getElem_mem _
      have hk32 := HK32.out k hmem
      obtain ⟨⟨y, z⟩, hyz⟩ : ∃ x, (f k).getD (0, 0) = x := ⟨_, rfl⟩
      have hz : z < 18446744073709551616 := by have h1 := HF.out k; rw [hyz] at h1; have h2 := h1.1; have h3 := h1.2; dsimp only at h2 h3; omega
      have HYZ := Aside0.mk hyz
      have HZ := Aside0.mk hz
      have HTK := Aside0.mk (show usedF f (ks.take (i + 1)) = usedF f (ks.take i) ++ [(k, z)] by
        rw [List.take_succ_eq_append_getElem hil]
        unfold usedF
        rw [List.map_append]
        have e : ks[i] = k := by rw [← hkk, List.getD_eq_getElem?_getD, List.getElem?_eq_getElem hil]; rfl
        rw [e]
        show _ ++ [(k, ((f k).getD (0, 0)).2)] = _
        rw [hyz])
      have HUL := Aside0.mk (show (usedF f (ks.take i)).length ≤ 1000000 by unfold usedF; rw [List.length_map, List.length_take]; omega)
      have hfld : ∀ (y z : Int) (W : World), (Instr.field 57 (.agg #[.int .u64 y, .int .u64 z]) 1).run Try.prog W = .ok (.int .u64 z) W := fun _ _ _ => by kernel_rfl
      clear hyz hkk hmem hz hil
      go_wp2_with (first
        | (at_lookup; refine look_at (HLr.out.acc) hk32 y z HYZ.out rfl _ _ rfl rfl rfl ?_)
        | (at_builtin; (refine app_scal usedK (w0 := w2) (.tmp 17) (.tmp 27) 48 72 _ 16 rfl rfl Try.underlying48 info_used rfl (by decide) (by decide) (.slice Ao no co) (usedF f (ks.take i)) (k, z) [.int .u32 (k : Int), .int .u64 (z : Int)] rfl (by simp [Act.eval]) HNr.out (fun W' => usedK_mk hk32 HZ.out) HBr.out (by have := HUL.out; omega) ?_); intro v9 w9 hN9 hb9; have HN9 := Aside0.mk hN9; have HB9 := Aside0.mk hb9; clear hN9 hb9))
      go_roundg (gk - 1)
      case measure => have := HK.out; omega
      case rel => exact ⟨i + 1, by congr 1, by omega, ⟨by have := HK.out; omega⟩, ⟨by rw [HTK.out]; exact HN9.out⟩, HB9⟩
    · obtain rfl : i = m := by omega
      have hd0 : decide ((i : Int) < (i : Int)) = false := decide_eq_false (by omega)
      have hd0' : decide (i < i) = false := decide_eq_false (by omega)
      have hall : ks.take i = ks := by rw [List.take_of_length_le (by rw [HM.out]; exact Nat.le_refl _)]
      have hNA := HNr.out
      rw [hall] at hNA
      have HNA := Aside0.mk (show Kd.N usedK 72 wr w.heap.size (fun k => w.heap.size ≤ k) (.slice Ao no co) (usedF f ks) from Kd.N_lower (Kd.N_mono hNA (fun k hk => Nat.le_trans HB2.out.size hk)) HB2.out.size)
      have HBA := Aside0.mk (below_go HB2.out HBr.out)
      clear hall hNA
      go_wp2
      go_ret
      exact ⟨_, ks, rfl, HRISE.out, HK32.out, HNA.out, HBA.out⟩
end Go.Proofs.Ytiepfinipmafcaa.Led
