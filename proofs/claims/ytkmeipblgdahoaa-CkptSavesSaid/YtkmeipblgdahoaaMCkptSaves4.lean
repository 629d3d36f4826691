/- Part 4 of 5 of the proof of CkptSaves: CkptSave, CkptHeld, CkptLoad, CkptKnown, CkptSame, CkptOpn, CkptDz, Zones, Same, RefLent, Two, Box, Does, Fits, Concat, Open, OpenG, RefOpen, OpenNil. -/
import Derived.Test.YtkmeipblgdahoaaMCkptSaves3
import Derived.Test.YtkmeipblgdahoaaWEqStruct
import Derived.Laws.BytesArg
import Derived.BigQuiet
import Derived.Deep.DeepCutAuto
namespace Go.Proofs.Ytkmeipblgdahoaa.Ck
open Go.RowKit Go.Proofs.YtkmeipblgdahoaaW.PrintWords Go.Proofs.YtkmeipblgdahoaaW.PrintMore Go.Proofs.Ytkmeipblgdahoaa.Base Go.Proofs.Ytkmeipblgdahoaa.Shp
open Go.Proofs.Ytkmeipblgdahoaa.Dv (Dev Prt Chg hasB hasB_true fluF AppR ResR addrV reset_calls append_calls flush_calls shape_calls)
set_option maxRecDepth 100000
set_option linter.unusedVariables false
set_option linter.unusedSimpArgs false
theorem blks_mem {q n : Nat} {l : List Plc} (hr : 0 < rmC n) {x : List UInt8} (h : x ∈ blks q l n) : x.length = n := by
  obtain ⟨h1, h2, h3, h4, h5⟩ := rmC_le n hr
  unfold blks at h
  obtain ⟨i, _, rfl⟩ := List.mem_map.1 h
  exact cblk_len _ _ _ _ _ (by rw [List.length_take]; omega)
theorem enc_ok {rt : Bool} {z zb : Int} {n q : Nat} {l : List Plc} {bs : List (List UInt8)} (h : encC rt z zb n q l = .ok bs) : bs = blks q l n ∧ (bs.length : Int) ≤ zb ∧ rt = true ∧ MayP z zb l := by
  unfold encC at h
  split at h
  · rename_i h1
    split at h
    · rename_i h2
      injection h with h
      subst h
      exact ⟨rfl, by rw [blks_len]; exact h2, h1⟩
    · cases h
  · cases h
theorem rmC_pos {b : Nat} (h : Shp.Pow (b : Int)) : 0 < rmC b := by
  unfold Shp.Pow at h
  unfold rmC
  rw [if_pos (by omega)]
  omega
theorem flatten_len {n : Nat} {l : List (List UInt8)} (h : ∀ x ∈ l, x.length = n) : l.flatten.length = l.length * n := by
  induction l with
  | nil => simp
  | cons x l ih =>
    rw [List.flatten_cons, List.length_append, ih (fun y hy => h y (by simp [hy])), h x (by simp), List.length_cons, Nat.succ_mul]
    omega
theorem encode_ok {z zb b r : Int} {q : Nat} {l : List Plc} {bs : List (List UInt8)} (hen : encC (decide (Rt z zb b r)) z zb b.toNat q l = .ok bs) (hz : IsI z) (hzb : IsI zb) (hb : IsI b) (hr : IsI r) (hq : q < 18446744073709551616) (A : Option Addr) (n c : Nat) (hn : n ≤ 10000000) (hnc : n ≤ c) (w : World) (h : plK.C w A n l) :
    Calls Try.prog 10 #[.agg #[.int .i64 z, .int .i64 zb, .int .i64 b, .int .i64 r], .agg #[.int .u64 (q : Int), .slice A n c]] w fun e w' => Below w.heap.size w w' ∧ ∃ Ab nb cb, e = .returned (.tuple #[.slice Ab nb cb, .int .u16 0]) ∧ Kd.N Dv.T.bytesK 39 w' w.heap.size (fun k => w.heap.size ≤ k ∧ k < w'.heap.size) (.slice Ab nb cb) bs := by
  refine (encode_calls z zb b r hz hzb hb hr q hq A n c l hn hnc w h (plc_ok h)).mono ?_
  rintro e w' ⟨hb1, ⟨bs', v, he, rfl, hN⟩ | ⟨x, he, -, -⟩⟩
  · rw [hen] at he
    injection he with he
    subst he
    obtain ⟨Ab, nb, cb, rfl, -, -⟩ := N_open hN
    exact ⟨hb1, Ab, nb, cb, rfl, hN⟩
  · rw [hen] at he
    cases he
theorem encode_err {z zb b r : Int} {q : Nat} {l : List Plc} {x : Int} (hen : encC (decide (Rt z zb b r)) z zb b.toNat q l = .error x) (hz : IsI z) (hzb : IsI zb) (hb : IsI b) (hr : IsI r) (hq : q < 18446744073709551616) (A : Option Addr) (n c : Nat) (hn : n ≤ 10000000) (hnc : n ≤ c) (w : World) (h : plK.C w A n l) :
    Calls Try.prog 10 #[.agg #[.int .i64 z, .int .i64 zb, .int .i64 b, .int .i64 r], .agg #[.int .u64 (q : Int), .slice A n c]] w fun e w' => e = .returned (.tuple #[.slice none 0 0, .int .u16 x]) ∧ Below w.heap.size w w' := by
  refine (encode_calls z zb b r hz hzb hb hr q hq A n c l hn hnc w h (plc_ok h)).mono ?_
  rintro e w' ⟨hb1, ⟨bs', v, he, rfl, hN⟩ | ⟨y, he, -, rfl⟩⟩
  · rw [hen] at he
    cases he
  · rw [hen] at he
    injection he with he
    subst he
    exact ⟨rfl, hb1⟩
theorem enc_err {rt : Bool} {z zb : Int} {n q : Nat} {l : List Plc} {x : Int} (h : encC rt z zb n q l = .error x) : x = 140 ∨ x = 141 := by
  unfold encC at h
  split at h
  · split at h
    · cases h
    · injection h with h; exact .inl h.symm
  · injection h with h; exact .inr h.symm
/-- The parts behind a Save. -/
def savP (b : Int) (ps : List Prt) (slot : Nat) (bs : List (List UInt8)) : List Prt := (ps.set slot (bs.flatten, 0)).mapIdx (fluF b)
/-- What Save answers, and the parts behind it. -/
def SavR (z zb : Int) (bn : Nat) (r : Int) (ps : List Prt) (slot : Int) (q : Nat) (l : List Plc) (e : Ending) (ps' : List Prt) : Prop :=
  (¬ (0 ≤ slot ∧ slot < 2) ∧ e = .returned (.int .u16 1) ∧ ps' = ps) ∨
  ((0 ≤ slot ∧ slot < 2) ∧ ∃ x : Int, encC (decide (Rt z zb bn r)) z zb bn q l = .error x ∧ (x = 140 ∨ x = 141) ∧ e = .returned (.int .u16 x) ∧ ps' = ps) ∨
  ((0 ≤ slot ∧ slot < 2) ∧ ∃ bs, encC (decide (Rt z zb bn r)) z zb bn q l = .ok bs ∧ e = .returned (.int .u16 0) ∧ ps' = savP bn ps slot.toNat bs)
theorem Dev.wide {w : World} {xb base : Nat} {ok ok' : Nat → Prop} {z zb b r : Int} {ps : List Prt} {v : Value} (h : Dev w xb base ok z zb b r ps v) (hk : ∀ k, ok k → ok' k) : Dev w xb base ok' z zb b r ps v :=
  h.tight (fun k h1 _ _ => hk k h1)
set_option maxHeartbeats 4000000 in
theorem save_calls (xb B : Nat) (D : Nat → Prop) (z zb r : Int) (bn : Nat) (hrt : Rt z zb bn r) (hr : IsI r) (ps : List Prt) (v : Value) (slot : Int) (hs : IsI slot) (q : Nat) (hq : q < 18446744073709551616) (A : Option Addr) (n c : Nat) (l : List Plc) (hn : n ≤ 10000000) (hnc : n ≤ c)
    (w : World) (hD : Dev w xb B D z zb bn r ps v) (h : plK.C w A n l) (hDl : ∀ k, D k → k < w.heap.size) (hpl : 2 ≤ ps.length) (hsz : ∀ p ∈ ps, p.1.length ≤ 100000000) :
    Calls Try.prog 22 #[.pointer (some ⟨xb, 0, none⟩), .int .i64 slot, .agg #[.int .u64 (q : Int), .slice A n c]] w
      fun e w' => ∃ ps', SavR z zb bn r ps slot q l e ps' ∧ Dev w' xb B (fun k => D k ∨ w.heap.size ≤ k) z zb bn r ps' v ∧ Chg w w' (fun k => D k ∨ w.heap.size ≤ k) := by
  have HD := Aside0.mk hD
  have HC := Aside0.mk h
  have HDL := Aside0.mk hDl
  have HSZ := Aside0.mk hsz
  have HRT := Aside0.mk hrt
  have HR := Aside0.mk hr
  have HA := Aside0.mk (alloc_below w (.cells #[.int .u64 (q : Int), .slice A n c] 27))
  have HDW := Aside0.mk (show Dev w xb B (fun k => D k ∨ w.heap.size ≤ k) z zb bn r ps v from Dev.wide hD (fun k hk => .inl hk))
  clear hD h hDl hsz hrt hr
  obtain ⟨hs1, hs2⟩ := hs
  by_cases hsl : 0 ≤ slot ∧ slot < 2
  case neg =>
    have HSL := Aside0.mk hsl
    by_cases h0 : slot < 0
    · go_enter Try.func22, Try.ntmps22
      go_wp2
      go_ret
      exact ⟨ps, .inl ⟨HSL.out, rfl, rfl⟩, HDW.out.below HA.out, Chg.of_below HA.out _⟩
    · have h1 : 2 ≤ slot := by omega
      go_enter Try.func22, Try.ntmps22
      go_wp2
      go_ret
      exact ⟨ps, .inl ⟨HSL.out, rfl, rfl⟩, HDW.out.below HA.out, Chg.of_below HA.out _⟩
  have HSL := Aside0.mk hsl
  obtain ⟨h0, h1⟩ := hsl
  have hd0 : decide (slot < 0) = false := decide_eq_false (by omega)
  have hd1 : decide (2 ≤ slot) = false := decide_eq_false (by omega)
  go_enter Try.func22, Try.ntmps22
  go_wp2
  obtain ⟨g, hg⟩ : ∃ g, w.heap.size = g := ⟨_, rfl⟩
  have b0 : (w.alloc (.cells #[.int .u64 (q : Int), .slice A n c] 27)).heap[w.heap.size]? = some (.cells #[.int .u64 (q : Int), .slice A n c] 27 (0, 0)) := blk_here rfl
  obtain ⟨W, hW⟩ : ∃ W, w.alloc (.cells #[.int .u64 (q : Int), .slice A n c] 27) = W := ⟨_, rfl⟩
  rw [hW] at HA b0 ⊢
  rw [hg] at b0 ⊢
  have HG := Aside0.mk hg
  clear hW hg
  have s0 : W.cell? ⟨g, 0, none⟩ = some (.int .u64 (q : Int)) := by simp [World.cell?, b0]
  have s1 : W.cell? ⟨g, 1, none⟩ = some (.slice A n c) := by simp [World.cell?, b0]
  have HDD := Aside0.mk (HD.out.below (below_drew HA.out))
  have HBD := Aside0.mk (below_drew HA.out)
  have hzz : IsI z ∧ IsI zb ∧ IsI (bn : Int) := by
    obtain ⟨a1, a2, a3, a4, a5, -, -⟩ := HRT.out
    have := pow_range a5
    exact ⟨⟨by omega, by omega⟩, ⟨by omega, by omega⟩, ⟨by omega, by omega⟩⟩
  have HZZ := Aside0.mk hzz
  clear hzz b0 hd0 hd1
  cases hen : encC (decide (Rt z zb (bn : Int) r)) z zb (bn : Int).toNat q l with
  | error x =>
    have HEN := Aside0.mk hen
    have hx0 : (x != 0) = true := by rw [bne_iff_ne]; rcases enc_err hen with rfl | rfl <;> decide
    clear hen
    go_region_held3 (fun w' => w'.cell? ⟨g, 0, none⟩ = some (.int .u64 (q : Int)) ∧ w'.cell? ⟨g, 1, none⟩ = some (.slice A n c))
      (first | exact ⟨s0, s1⟩ | exact ⟨pw_cell_below (Below.trans (below_drew (Below.refl _ _)) hb8) s0, pw_cell_below (Below.trans (below_drew (Below.refl _ _)) hb8) s1⟩ | exact ⟨pw_cell_below (Below.trans (below_drew (Below.refl _ _)) (below_go hb8 hb9)) s0, pw_cell_below (Below.trans (below_drew (Below.refl _ _)) (below_go hb8 hb9)) s1⟩)
      (first
        | (go_at_call 49; (with_reducible refine (shape_calls xb B D z zb (bn : Int) r ps v _ HDD.out).mono ?_); rintro e w8 ⟨rfl, hb8⟩)
        | (go_at_call 10; (with_reducible refine (encode_err HEN.out HZZ.out.1 HZZ.out.2.1 HZZ.out.2.2 HR.out hq A n c hn hnc _ (Kd.C_below HC.out (below_go HBD.out hb8))).mono ?_); rintro e w9 ⟨rfl, hb9⟩))
    have HB9 := Aside0.mk (below_go HBD.out (below_go hb8 hb9))
    clear hb8 hb9
    go_wp2
    go_ret
    exact ⟨ps, .inr (.inl ⟨HSL.out, x, HEN.out, enc_err HEN.out, rfl, rfl⟩), HDW.out.below HB9.out, Chg.of_below HB9.out _⟩
  | ok bs =>
    have HEN := Aside0.mk hen
    clear hen
    go_region_held3 (fun w' => w'.cell? ⟨g, 0, none⟩ = some (.int .u64 (q : Int)) ∧ w'.cell? ⟨g, 1, none⟩ = some (.slice A n c))
      (first | exact ⟨s0, s1⟩ | exact ⟨pw_cell_below (Below.trans (below_drew (Below.refl _ _)) hb8) s0, pw_cell_below (Below.trans (below_drew (Below.refl _ _)) hb8) s1⟩ | exact ⟨pw_cell_below (Below.trans (below_drew (Below.refl _ _)) (below_go hb8 hb9)) s0, pw_cell_below (Below.trans (below_drew (Below.refl _ _)) (below_go hb8 hb9)) s1⟩)
      (first
        | (go_at_call 49; (with_reducible refine (shape_calls xb B D z zb (bn : Int) r ps v _ HDD.out).mono ?_); rintro e w8 ⟨rfl, hb8⟩)
        | (go_at_call 10; (with_reducible refine (encode_ok HEN.out HZZ.out.1 HZZ.out.2.1 HZZ.out.2.2 HR.out hq A n c hn hnc _ (Kd.C_below HC.out (below_go HBD.out hb8))).mono ?_); rintro e w9 ⟨hb9, Ab, nb, cb, rfl, hN9⟩))
    obtain ⟨hbl, hmany, -, hmay⟩ := enc_ok HEN.out
    rw [Int.toNat_natCast] at hbl
    have HBL := Aside0.mk (show ∀ x ∈ bs, x.length = bn by rw [hbl]; exact fun x hx => blks_mem (rmC_pos HRT.out.2.2.2.2.1) hx)
    have HMANY := Aside0.mk hmany
    have hw9 := below_go HBD.out (below_go hb8 hb9)
    have HB9 := Aside0.mk hw9
    have hw8 : w.heap.size ≤ w8.heap.size := (below_go HBD.out hb8).size
    have HN9 := Aside0.mk hN9
    have hnb : nb = bs.length := (Kd.N_reads' hN9).1
    have HNB := Aside0.mk hnb
    have hnb4 : nb ≤ 4096 := by have h2 := HRT.out.2.2.2.1; omega
    have HD9 := Aside0.mk (HD.out.below hw9)
    obtain ⟨k, rfl⟩ : ∃ k : Nat, slot = (k : Int) := ⟨slot.toNat, by omega⟩
    have hk2 : k < 2 := by omega
    have HW8 := Aside0.mk hw8
    have HHB := Aside0.mk (hasB_true (n := ps.length) (i := (k : Int)) (by omega) (by omega))
    clear hb8 hb9 hbl hmany hmay hw9 hN9 hnb hw8 s0 s1
    go_wp2_with fail
    refine (reset_calls xb B D z zb (bn : Int) r ps v (k : Int) ⟨hs1, hs2⟩ _ HD9.out).mono ?_
    rintro e wa ⟨ps1, hps1, hDa, hca⟩
    rcases hps1 with ⟨ha1, -, -⟩ | ⟨-, rfl, rfl⟩
    · rw [HHB.out] at ha1; cases ha1
    have hwa9 := hca.kept.1
    have HWA9 := Aside0.mk hwa9
    have HDa := Aside0.mk (show Dev wa xb B (fun j => D j ∨ w9.heap.size ≤ j) z zb bn r (ps.set k (([] : List UInt8), 0)) v by
      have := hDa
      rw [Int.toNat_natCast] at this
      exact Dev.wide this (fun j hj => .inl hj))
    have HCa := Aside0.mk (show Chg w9 wa (fun j => D j ∨ w9.heap.size ≤ j) from (Chg.refl w9 _).trans hca (fun j hj => .inl (.inl hj)))
    clear hDa hca hwa9
    go_wp2
    go_loopg [32] nb (fun g1 v32 wr => ∃ i : Nat, v32 = .int .i64 (i : Int) ∧ i ≤ nb ∧ Aside0 (g1 + i = nb) ∧ Aside0 (Dev wr xb B (fun j => D j ∨ w9.heap.size ≤ j) z zb bn r (ps.set k ((bs.take i).flatten, 0)) v) ∧ Aside0 (Chg w9 wr (fun j => D j ∨ w9.heap.size ≤ j)))
    case atStart => exact ⟨0, rfl, Nat.zero_le _, ⟨rfl⟩, HDa, HCa⟩
    case round =>
      obtain ⟨i, rfl, hi, HK, HDr, HCr⟩ := hrel
      by_cases hlt : i < nb
      · have hdd : decide ((i : Int) < (nb : Int)) = true := decide_eq_true (by omega)
        have hdd' : decide (i < nb) = true := decide_eq_true hlt
        have hi0 : (0 : Int) ≤ (i : Int) := by omega
        have hi1 : (i : Int) < (nb : Int) := by omega
        have hNr := Kd.N_kept HN9.out HCr.out.kept (fun j hj hs => by have h1 := hj.1; have h2 := hj.2; have h3 := HW8.out; rcases hs with hs | hs; have := HDL.out j hs; omega; omega)
        obtain ⟨pa, A0, c0, rfl, e0, hk0, hC0⟩ := bytes_at (Dv.T.C_plain (by have := (Kd.N_reads' hNr).2.2; rwa [← HNB.out] at this)) i hlt
        obtain ⟨x, hx⟩ : ∃ x, bs.getD i [] = x := ⟨_, rfl⟩
        rw [hx] at e0 hk0 hC0
        have hil : i < bs.length := by rw [← HNB.out]; exact hlt
        have hxl : x.length = bn := HBL.out x (by rw [← hx, List.getD_eq_getElem?_getD, List.getElem?_eq_getElem hil]; exact List.getElem_mem _)
        rw [hxl] at e0 hk0 hC0
        have HXL := Aside0.mk hxl
        have HTK := Aside0.mk (show (bs.take (i + 1)).flatten = (bs.take i).flatten ++ x by rw [Rc.take_snocD bs [] i hil, hx, List.flatten_append, List.flatten_singleton])
        have HC0 := Aside0.mk hC0
        have HIL := Aside0.mk hil
        have HTL := Aside0.mk (show (bs.take i).flatten.length = i * bn by rw [flatten_len (n := bn) (fun y hy => HBL.out y (List.mem_of_mem_take hy)), List.length_take, Nat.min_eq_left (Nat.le_of_lt hil)])
        clear hNr hx hC0 hk0 hil hxl
        go_wp2_with fail
        refine (append_calls xb B (fun j => D j ∨ w9.heap.size ≤ j) z zb (bn : Int) r HRT.out (ps.set k ((bs.take i).flatten, 0)) v (k : Int) ⟨hs1, hs2⟩ A0 bn c0 x _ HDr.out (fun j hj => .inr (Nat.le_trans HCr.out.kept.1 hj)) HC0.out (fun p hp => by
          rcases List.mem_or_eq_of_mem_set hp with h1 | h1
          · exact HSZ.out p h1
          · rw [h1]
            show (bs.take i).flatten.length ≤ _
            have h2 := HRT.out.2.2.2.1
            have h3 := pow_range HRT.out.2.2.2.2.1
            have h4 := HMANY.out
            have h5 := HIL.out
            have h6 : i * bn ≤ 4096 * 4096 := Nat.mul_le_mul (by omega) (by omega)
            rw [HTL.out]
            omega)).mono ?_
        rintro e wb ⟨ps2, hps2, hDb, hcb⟩
        have hset : (ps.set k ((bs.take i).flatten, 0)).getD k ([], 0) = ((bs.take i).flatten, 0) := by
          rw [List.getD_eq_getElem?_getD, List.getElem?_set_self (by omega)]
          rfl
        have hbn : 64 ≤ bn := by have h3 := pow_range HRT.out.2.2.2.2.1; omega
        have hcnt : ((i * bn : Nat) : Int) / (bn : Int) = (i : Int) := by rw [Int.natCast_mul]; exact Int.mul_ediv_cancel _ (by omega)
        have hlen2 : (ps.set k ((bs.take i).flatten, 0)).length = ps.length := List.length_set
        rcases hps2 with ⟨ha, -, -⟩ | ⟨-, -, ha, -, -⟩ | ⟨-, -, -, he, hp2⟩
        · rw [hlen2] at ha
          rcases ha with ha | ha
          · rw [HHB.out] at ha; cases ha
          · rw [HXL.out] at ha; exact absurd rfl ha
        · rw [Int.toNat_natCast, hset] at ha
          dsimp only at ha
          rw [HTL.out, hcnt] at ha
          have h1 := HMANY.out
          have h2 := HIL.out
          omega
        · rw [Int.toNat_natCast, hset] at hp2
          dsimp only at hp2
          rw [← HTK.out, List.set_set] at hp2
          subst hp2
          unfold addrV at he
          subst he
          have HDb := Aside0.mk hDb
          have HCb := Aside0.mk (HCr.out.trans hcb (fun j hj => .inl hj))
          clear hDb hcb hset hcnt hlen2 e0 hbn
          go_wp2
          go_roundg (gk - 1)
          case measure => have := HK.out; omega
          case rel => exact ⟨i + 1, by congr 1, by omega, ⟨by have := HK.out; omega⟩, HDb, HCb⟩
      · obtain rfl : i = nb := by omega
        have hdd : decide ((i : Int) < (i : Int)) = false := decide_eq_false (by omega)
        have hbn : (0 : Int) < (bn : Int) ∧ (bn : Int) ≤ 9223372036854775807 := by have h3 := pow_range HRT.out.2.2.2.2.1; omega
        have HALL := Aside0.mk (show (bs.take i).flatten = bs.flatten by rw [List.take_of_length_le (by rw [← HNB.out]; exact Nat.le_refl _)])
        have HBN := Aside0.mk hbn
        clear hbn
        go_wp2_with fail
        refine (flush_calls xb B (fun j => D j ∨ w9.heap.size ≤ j) z zb (bn : Int) r HBN.out.1 HBN.out.2 (ps.set k ((bs.take i).flatten, 0)) v _ HDr.out).mono ?_
        rintro e wf ⟨rfl, hDf, hcf⟩
        have HDf := Aside0.mk hDf
        have HCf := Aside0.mk (HCr.out.trans hcf (fun j hj => .inl hj))
        clear hDf hcf
        go_wp2
        go_ret
        refine ⟨_, .inr (.inr ⟨HSL.out, bs, HEN.out, rfl, ?_⟩), Dev.wide HDf.out (fun j hj => hj.imp id (fun h1 => Nat.le_trans HB9.out.size h1)), (Chg.of_below HB9.out _).trans HCf.out (fun j hj => hj.elim (fun h1 => .inl (.inl h1)) (fun h1 => .inr (Nat.le_trans HB9.out.size h1)))⟩
        unfold savP
        rw [HALL.out, Int.toNat_natCast]
end Go.Proofs.Ytkmeipblgdahoaa.Ck
namespace Go.Proofs.Ytkmeipblgdahoaa.Ck
open Go.RowKit Go.Proofs.YtkmeipblgdahoaaW.PrintWords Go.Proofs.YtkmeipblgdahoaaW.PrintMore Go.Proofs.Ytkmeipblgdahoaa.Base Go.Proofs.Ytkmeipblgdahoaa.Shp
open Go.Proofs.Ytkmeipblgdahoaa.Dv (Dev Prt Zn Chg hasB hasB_true fluF flat ZInv AtR ReadR ReadP at_calls read_calls shape_calls map_getD flat_countI flat_get)
set_option maxRecDepth 100000
set_option linter.unusedVariables false
set_option linter.unusedSimpArgs false
theorem flat_small {b zb : Nat} {zs : List Zn} (hb : b ≤ 4096) (hz : zb ≤ 4096) (h : ZInv b zb zs) : ∀ p ∈ zs.map flat, p.1.length ≤ 100000000 := by
  intro p hp
  obtain ⟨y, hy, rfl⟩ := List.mem_map.1 hp
  obtain ⟨-, h1, h2⟩ := h y hy
  show y.1.flatten.length ≤ _
  rw [Dv.flat_len h2]
  have : y.1.length * b ≤ 4096 * 4096 := Nat.mul_le_mul (by omega) hb
  omega
set_option maxHeartbeats 4000000 in
theorem held_calls (xb B : Nat) (D : Nat → Prop) (z r : Int) (zbn bn : Nat) (hrt : Rt z zbn bn r) (hr : IsI r) (zs : List Zn) (v : Value) (k : Nat) (hkl : k < zs.length) (hk2 : k < 2)
    (w : World) (hD : Dev w xb B D z zbn bn r (zs.map flat) v) (hz : ZInv bn zbn zs) (hc : (zs.getD k ([], 0)).1.length ≤ 1000) :
    Calls Try.prog 51 #[.pointer (some ⟨xb, 0, none⟩), .int .i64 (k : Int)] w (DecP w (decC (decide (Rt z zbn bn r)) z zbn bn (zs.getD k ([], 0)).1)) := by
  have HD := Aside0.mk hD
  have HZ := Aside0.mk hz
  have HRT := Aside0.mk hrt
  have HR := Aside0.mk hr
  have HA := Aside0.mk (alloc_below w (.cells #[.int .u64 0, .slice none 0 0] 27))
  have HST := Aside0.mk (show (w.alloc (.cells #[.int .u64 0, .slice none 0 0] 27)).heap[w.heap.size]? = some (.cells #[.int .u64 0, .slice none 0 0] 27 (0, 0)) from blk_here rfl)
  have HHB := Aside0.mk (hasB_true (n := (zs.map flat).length) (i := (k : Int)) (by omega) (by rw [List.length_map]; omega))
  obtain ⟨zk, hzk⟩ : ∃ zk, zs.getD k ([], 0) = zk := ⟨_, rfl⟩
  rw [hzk] at hc ⊢
  have HZK := Aside0.mk hzk
  have HKL := Aside0.mk hkl
  obtain ⟨hz1, hz2, hz3⟩ := (hz.get hkl)
  rw [hzk] at hz1 hz2 hz3
  have HZ3 := Aside0.mk hz3
  have hbn : 64 ≤ bn ∧ bn ≤ 4096 := by have h3 := pow_range hrt.2.2.2.2.1; omega
  have HBN := Aside0.mk hbn
  have hzb4 : zbn ≤ 4096 := by have := hrt.2.2.2.1; omega
  have HSM := Aside0.mk (flat_small hbn.2 hzb4 hz)
  have HZZ := Aside0.mk (show IsI z ∧ IsI (zbn : Int) ∧ IsI (bn : Int) by
    obtain ⟨a1, a2, a3, a4, a5, -, -⟩ := hrt
    exact ⟨⟨by omega, by omega⟩, ⟨by omega, by omega⟩, ⟨by omega, by omega⟩⟩)
  have HKI := Aside0.mk (show IsI (k : Int) from ⟨by omega, by omega⟩)
  clear hD hz hrt hr hzk hz1 hz2 hz3 hbn
  go_enter Try.func51, Try.ntmps51
  go_wp2_with fail
  obtain ⟨g, hg⟩ : ∃ g, w.heap.size = g := ⟨_, rfl⟩
  obtain ⟨W, hW⟩ : ∃ W, w.alloc (.cells #[.int .u64 0, .slice none 0 0] 27) = W := ⟨_, rfl⟩
  rw [hW] at HA HST ⊢
  rw [hg] at HST ⊢
  have HG := Aside0.mk hg
  clear hW hg
  refine (at_calls xb B D z zbn (bn : Int) r (by have := HBN.out; omega) (by have := HBN.out; omega) (zs.map flat) v (k : Int) HKI.out _ (HD.out.below HA.out)).mono ?_
  rintro e w1 ⟨⟨ha, -⟩ | ⟨-, rfl⟩, hb1⟩
  · rw [HHB.out] at ha; cases ha
  rw [Int.toNat_natCast, map_getD, HZK.out]
  have hcnt : ((flat zk).1.length : Int) / (bn : Int) = (zk.1.length : Int) := flat_countI (by have := HBN.out; omega) HZ3.out
  rw [hcnt]
  obtain ⟨n, hn⟩ : ∃ n, zk.1.length = n := ⟨_, rfl⟩
  rw [hn] at hc ⊢
  have HN := Aside0.mk hn
  have HB1 := Aside0.mk (below_go HA.out hb1)
  have HST1 := Aside0.mk (Rc.blk_old hb1 HST.out)
  clear hb1 hcnt hn
  go_wp2
  go_loopg [8, 19] n (fun g1 v8 v19 wr => ∃ i : Nat, v19 = .int .i64 (i : Int) ∧ i ≤ n ∧ Aside0 (g1 + i = n) ∧ Aside0 (Kd.N Dv.bytesK 39 wr w1.heap.size (fun j => w1.heap.size ≤ j) v8 (zk.1.take i)) ∧ Aside0 (Below w1.heap.size w1 wr))
  case atStart => exact ⟨0, rfl, Nat.zero_le _, ⟨rfl⟩, ⟨Kd.N_nil _ _ _ _ _⟩, ⟨Below.refl _ _⟩⟩
  case round =>
    obtain ⟨i, rfl, hi, HK, HNr, HBr⟩ := hrel
    obtain ⟨Ao, no, co, rfl, -, -⟩ := N_open HNr.out
    by_cases hlt : i < n
    · have hd0 : decide ((i : Int) < (n : Int)) = true := decide_eq_true (by omega)
      have hd0' : decide (i < n) = true := decide_eq_true hlt
      have HDr := Aside0.mk (HD.out.below (below_go HB1.out HBr.out))
      go_wp2_with fail
      refine (read_calls xb B D z zbn (bn : Int) r HRT.out (zs.map flat) v (k : Int) (i : Int) HKI.out ⟨by omega, by omega⟩ _ HDr.out HSM.out).mono ?_
      rintro e w5 ⟨⟨u, er, bs, rfl, hrd, hO⟩, hb5⟩
      rcases hrd with ⟨ha, -, -⟩ | ⟨-, ha, -, -⟩ | ⟨-, -, rfl, hbs⟩
      · rw [HHB.out] at ha; cases ha
      · rw [Int.toNat_natCast, map_getD, HZK.out, flat_countI (by have := HBN.out; omega) HZ3.out, HN.out] at ha
        omega
      rw [show ((i : Int) * (bn : Int)).toNat = i * bn from by rw [← Int.natCast_mul, Int.toNat_natCast]] at hbs
      simp only [Int.toNat_natCast] at hbs
      rw [map_getD, HZK.out] at hbs
      have hget : ((flat zk).1.drop (i * bn)).take bn = zk.1.getD i [] := flat_get (by rw [HN.out]; exact hlt) HZ3.out
      rw [hget] at hbs
      subst hbs
      obtain ⟨A5, n5, c5, rfl, -, -⟩ := Base.Own.reads hO
      have HO5 := Aside0.mk hO
      have HB5 := Aside0.mk hb5
      have HN5 := Aside0.mk (Kd.N_below HNr.out hb5)
      have HTK := Aside0.mk (Rc.take_snocD zk.1 [] i (by rw [HN.out]; exact hlt))
      clear hO hb5 hget
      go_wp2_with (at_builtin; (refine Dv.app_blk w1.heap.size (fun j => w1.heap.size ≤ j) (fun j => some j = (Value.slice A5 n5 c5).ownBlock) (.tmp 30) (.tmp 32) rfl rfl (.slice Ao no co) (zk.1.take i) (zk.1.getD i []) A5 n5 c5 (Dv.own_FK HO5.out) (fun j hj e => by have h1 := Kd.N_lt HNr.out j e.symm; have h2 := Kd.R_base HO5.out j hj.symm; omega) rfl (by simp [Act.eval]) HN5.out (Nat.le_trans HBr.out.size HB5.out.size) (by rw [List.length_take]; omega) ?_); intro v6 w6 hN6 hg6; (have HN6 := Aside0.mk (Kd.N_mono hN6 (fun j hj => by rcases hj with h1 | h1 | h1; exact h1; exact Nat.le_trans HBr.out.size (Kd.R_base HO5.out j h1.symm); exact Nat.le_trans (Nat.le_trans HBr.out.size HB5.out.size) h1)); have HB6 := Aside0.mk ((below_go HBr.out HB5.out).grown hg6 (Nat.le_trans HBr.out.size HB5.out.size) (fun j hj => Kd.N_base HNr.out j hj)); clear hN6 hg6))
      go_wp2
      go_roundg (gk - 1)
      case measure => have := HK.out; omega
      case rel => exact ⟨i + 1, by congr 1, by omega, ⟨by have := HK.out; omega⟩, ⟨by rw [HTK.out]; exact HN6.out⟩, HB6⟩
    · obtain rfl : i = n := by omega
      have hd0 : decide ((i : Int) < (i : Int)) = false := decide_eq_false (by omega)
      have HDr := Aside0.mk (HD.out.below (below_go HB1.out HBr.out))
      have hall : zk.1.take i = zk.1 := by rw [List.take_of_length_le (by rw [HN.out]; exact Nat.le_refl _)]
      have HNA := Aside0.mk (show Dv.bytesK.C wr Ao no zk.1 by have h1 := Kd.N_reads' HNr.out; rw [hall] at h1; rw [h1.1]; exact h1.2.2)
      clear hall
      go_wp2_with fail
      refine (shape_calls xb B D z zbn (bn : Int) r (zs.map flat) v _ HDr.out).mono ?_
      rintro e w5 ⟨rfl, hb5⟩
      have hno : no ≤ 1000 := by have := (C_len HNA.out).1; have := HN.out; omega
      have HB5 := Aside0.mk hb5
      clear hb5
      go_wp2_with fail
      refine (decode_calls z zbn (bn : Int) r HZZ.out.1 HZZ.out.2.1 HZZ.out.2.2 HR.out Ao no co zk.1 _ (Kd.C_below HNA.out HB5.out) hno (fun x hx => by rw [HZ3.out x hx]; have := HBN.out; omega)).mono ?_
      rw [Int.toNat_natCast]
      rintro e w6 ⟨hb6, ⟨q, ps, v', hde, rfl, hP⟩ | ⟨hde, rfl⟩⟩
      · have HDE := Aside0.mk hde
        obtain ⟨Ap, np, cp, rfl⟩ : ∃ Ap np cp, v' = .slice Ap np cp := by obtain ⟨Ap, cp, hv⟩ := Kd.R_slice hP; exact ⟨Ap, _, cp, hv⟩
        have hst := Rc.blk_old hb6 (Rc.blk_old HB5.out (Rc.blk_old HBr.out HST1.out))
        have HB6 := Aside0.mk (below_go (below_go HB1.out HBr.out) (below_go HB5.out hb6))
        have HP6 := Aside0.mk (show OwnP w6 w.heap.size (.slice Ap np cp) ps from Kd.R_lower hP (below_go (below_go HB1.out HBr.out) HB5.out).size)
        have s0 : w6.cell? ⟨g, 0, none⟩ = some (.int .u64 0) := by simp [World.cell?, hst]
        have s1 : w6.cell? ⟨g, 1, none⟩ = some (.slice none 0 0) := by simp [World.cell?, hst]
        have z0 : w6.frozen? ⟨g, 0, none⟩ = false := by simp [World.frozen?, hst]
        have z1 : w6.frozen? ⟨g, 1, none⟩ = false := by simp [World.frozen?, hst]
        have b1 := blk_set hst 0 (.int .u64 (q : Int))
        have b2 := blk_set b1 1 (.slice Ap np cp)
        have HF := Aside0.mk (show OwnP ((w6.setCell ⟨g, 0, none⟩ (.int .u64 (q : Int))).setCell ⟨g, 1, none⟩ (.slice Ap np cp)) w.heap.size (.slice Ap np cp) ps ∧ Below w.heap.size w ((w6.setCell ⟨g, 0, none⟩ (.int .u64 (q : Int))).setCell ⟨g, 1, none⟩ (.slice Ap np cp)) ∧
            ((w6.setCell ⟨g, 0, none⟩ (.int .u64 (q : Int))).setCell ⟨g, 1, none⟩ (.slice Ap np cp)).heap[g]? = some (.cells #[.int .u64 (q : Int), .slice Ap np cp] 27 (0, 0)) from
          ⟨Kd.R_set (Kd.R_set HP6.out hst plE_ne 0 _) b1 plE_ne 1 _, (HB6.out.setCell (p := ⟨g, 0, none⟩) (Nat.le_of_eq HG.out) _).setCell (p := ⟨g, 1, none⟩) (Nat.le_of_eq HG.out) _, b2⟩)
        clear hb6 hde hP hst b1 b2
        go_wp2
        obtain ⟨hP9, hB9, hc9⟩ := HF.out
        clear s0 s1 z0 z1 HF
        generalize (w6.setCell ⟨g, 0, none⟩ (.int .u64 (q : Int))).setCell ⟨g, 1, none⟩ (.slice Ap np cp) = W9 at *
        have q0 : W9.cell? ⟨g, 0, none⟩ = some (.int .u64 (q : Int)) := by simp [World.cell?, hc9]
        have q1 : W9.cell? ⟨g, 1, none⟩ = some (.slice Ap np cp) := by simp [World.cell?, hc9]
        refine bodyPost_ret (v := .tuple #[.agg #[.int .u64 (q : Int), .slice Ap np cp], .int .u16 0]) (by simp [results, Try.results51, go_sem, q0, q1]) rfl ?_
        exact ⟨hB9, .inl ⟨q, ps, _, HDE.out, rfl, hP9⟩⟩
      · have HDE := Aside0.mk hde
        have hst := Rc.blk_old hb6 (Rc.blk_old HB5.out (Rc.blk_old HBr.out HST1.out))
        have HB6 := Aside0.mk (below_go (below_go HB1.out HBr.out) (below_go HB5.out hb6))
        have s0 : w6.cell? ⟨g, 0, none⟩ = some (.int .u64 0) := by simp [World.cell?, hst]
        have s1 : w6.cell? ⟨g, 1, none⟩ = some (.slice none 0 0) := by simp [World.cell?, hst]
        have z0 : w6.frozen? ⟨g, 0, none⟩ = false := by simp [World.frozen?, hst]
        have z1 : w6.frozen? ⟨g, 1, none⟩ = false := by simp [World.frozen?, hst]
        have b1 := blk_set hst 0 (.int .u64 0)
        have b2 := blk_set b1 1 (.slice none 0 0)
        have HF := Aside0.mk (show Below w.heap.size w ((w6.setCell ⟨g, 0, none⟩ (.int .u64 0)).setCell ⟨g, 1, none⟩ (.slice none 0 0)) ∧
            ((w6.setCell ⟨g, 0, none⟩ (.int .u64 0)).setCell ⟨g, 1, none⟩ (.slice none 0 0)).heap[g]? = some (.cells #[.int .u64 0, .slice none 0 0] 27 (0, 0)) from
          ⟨(HB6.out.setCell (p := ⟨g, 0, none⟩) (Nat.le_of_eq HG.out) _).setCell (p := ⟨g, 1, none⟩) (Nat.le_of_eq HG.out) _, b2⟩)
        clear hb6 hde hst b1 b2
        go_wp2
        obtain ⟨hB9, hc9⟩ := HF.out
        clear s0 s1 z0 z1 HF
        generalize (w6.setCell ⟨g, 0, none⟩ (.int .u64 0)).setCell ⟨g, 1, none⟩ (.slice none 0 0) = W9 at *
        have q0 : W9.cell? ⟨g, 0, none⟩ = some (.int .u64 0) := by simp [World.cell?, hc9]
        have q1 : W9.cell? ⟨g, 1, none⟩ = some (.slice none 0 0) := by simp [World.cell?, hc9]
        refine bodyPost_ret (v := .tuple #[.agg #[.int .u64 0, .slice none 0 0], .int .u16 141]) (by simp [results, Try.results51, go_sem, q0, q1]) rfl ?_
        exact ⟨hB9, .inr ⟨HDE.out, rfl⟩⟩
end Go.Proofs.Ytkmeipblgdahoaa.Ck
namespace Go.Proofs.Ytkmeipblgdahoaa.Ck
open Go.RowKit Go.Proofs.YtkmeipblgdahoaaW.PrintWords Go.Proofs.YtkmeipblgdahoaaW.PrintMore Go.Proofs.Ytkmeipblgdahoaa.Base Go.Proofs.Ytkmeipblgdahoaa.Shp
open Go.Proofs.Ytkmeipblgdahoaa.Dv (Dev Prt Zn Chg flat ZInv)
set_option maxRecDepth 100000
set_option linter.unusedVariables false
set_option linter.unusedSimpArgs false
/-- The newest of two. -/
def loadC : Option (Nat × List Plc) → Option (Nat × List Plc) → Option ((Nat × List Plc) × Nat)
  | none, none => none
  | none, some b => some (b, 1)
  | some a, none => some (a, 0)
  | some a, some b => if a.1 < b.1 then some (b, 1) else some (a, 0)
def LodP (w : World) (r : Option ((Nat × List Plc) × Nat)) (e : Ending) (w' : World) : Prop :=
  Below w.heap.size w w' ∧ ((∃ q ps v s, r = some ((q, ps), s) ∧ s < 2 ∧ e = .returned (.tuple #[.agg #[.int .u64 (q : Int), v], .int .i64 ((s : Nat) : Int), .int .u16 0]) ∧ OwnP w' w.heap.size v ps) ∨
    (r = none ∧ e = .returned (.tuple #[.agg #[.int .u64 0, .slice none 0 0], .int .i64 0, .int .u16 142])))
theorem st_cells {w : World} {g : Nat} {x y : Value} (hx : x.oneCell' = true) (h : w.heap[g]? = some (.cells #[x, y] 27 (0, 0))) :
    w.cell? ⟨g, 0, none⟩ = some x ∧ w.cell? ⟨g, 1, none⟩ = some y ∧ w.frozen? ⟨g, 0, none⟩ = false ∧ w.frozen? ⟨g, 1, none⟩ = false :=
  ⟨by simp [World.cell?, h], by simp [World.cell?, h], by simp [World.frozen?, h], by simp [World.frozen?, h]⟩
set_option maxHeartbeats 4000000 in
theorem load_calls (xb B : Nat) (D : Nat → Prop) (z r : Int) (zbn bn : Nat) (hrt : Rt z zbn bn r) (hr : IsI r) (zs : List Zn) (v : Value) (h2 : 2 ≤ zs.length)
    (w : World) (hD : Dev w xb B D z zbn bn r (zs.map flat) v) (hz : ZInv bn zbn zs) (hc : ∀ k, k < 2 → (zs.getD k ([], 0)).1.length ≤ 1000) :
    Calls Try.prog 23 #[.pointer (some ⟨xb, 0, none⟩)] w (LodP w (loadC (decC (decide (Rt z zbn bn r)) z zbn bn (zs.getD 0 ([], 0)).1) (decC (decide (Rt z zbn bn r)) z zbn bn (zs.getD 1 ([], 0)).1))) := by
  have HD := Aside0.mk hD
  have HZ := Aside0.mk hz
  have HRT := Aside0.mk hrt
  have HR := Aside0.mk hr
  have HCN := Aside0.mk hc
  have HA := Aside0.mk (alloc_below w (.cells #[.int .u64 0, .slice none 0 0] 27))
  have HST := Aside0.mk (show (w.alloc (.cells #[.int .u64 0, .slice none 0 0] 27)).heap[w.heap.size]? = some (.cells #[.int .u64 0, .slice none 0 0] 27 (0, 0)) from blk_here rfl)
  obtain ⟨da, hda⟩ : ∃ da, decC (decide (Rt z zbn bn r)) z zbn bn (zs.getD 0 ([], 0)).1 = da := ⟨_, rfl⟩
  obtain ⟨db, hdb⟩ : ∃ db, decC (decide (Rt z zbn bn r)) z zbn bn (zs.getD 1 ([], 0)).1 = db := ⟨_, rfl⟩
  rw [hda, hdb]
  have HDA := Aside0.mk hda
  have HDB := Aside0.mk hdb
  clear hD hz hrt hr hc hda hdb
  go_enter Try.func23, Try.ntmps23
  go_wp2_with fail
  obtain ⟨g, hg⟩ : ∃ g, w.heap.size = g := ⟨_, rfl⟩
  obtain ⟨W, hW⟩ : ∃ W, w.alloc (.cells #[.int .u64 0, .slice none 0 0] 27) = W := ⟨_, rfl⟩
  rw [hW] at HA HST ⊢
  rw [hg] at HST ⊢
  have HG := Aside0.mk hg
  clear hW hg
  refine (held_calls xb B D z r zbn bn HRT.out HR.out zs v 0 (by omega) (by omega) _ (HD.out.below HA.out) HZ.out (HCN.out 0 (by omega))).mono ?_
  rw [HDA.out]
  rintro e w1 ⟨hb1, hh1⟩
  have hg1 : g < w1.heap.size := Nat.lt_of_lt_of_le (Array.getElem?_eq_some_iff.1 HST.out).1 hb1.size
  have HB1 := Aside0.mk (below_go HA.out hb1)
  have HST1 := Aside0.mk (Rc.blk_old hb1 HST.out)
  rcases hh1 with ⟨q1, ps1, v1, rfl, rfl, hP1⟩ | ⟨rfl, rfl⟩
  · obtain ⟨Aa, na, ca, rfl⟩ : ∃ Aa na ca, v1 = .slice Aa na ca := by obtain ⟨Ap, cp, hv⟩ := Kd.R_slice hP1; exact ⟨Ap, _, cp, hv⟩
    have HP1 := Aside0.mk (show OwnP w1 w.heap.size (.slice Aa na ca) ps1 from Kd.R_lower hP1 HA.out.size)
    clear hP1
    obtain ⟨W1, hW1⟩ : ∃ W1, w1.alloc (.cells #[.int .u64 (q1 : Int), .slice Aa na ca] 27) = W1 := ⟨_, rfl⟩
    have HBA := Aside0.mk (show Below w1.heap.size w1 W1 by rw [← hW1]; exact alloc_below _ _)
    have HSA := Aside0.mk (show W1.heap[w1.heap.size]? = some (.cells #[.int .u64 (q1 : Int), .slice Aa na ca] 27 (0, 0)) by rw [← hW1]; exact blk_here rfl)
    have HW1 := Aside0.mk hW1
    clear hb1 hW1
    go_wp2_with fail
    rw [HW1.out]
    obtain ⟨g1, hgg⟩ : ∃ g1, w1.heap.size = g1 := ⟨_, rfl⟩
    rw [hgg] at HSA ⊢
    clear hgg hg1 HW1
    refine (held_calls xb B D z r zbn bn HRT.out HR.out zs v 1 (by omega) (by omega) _ (HD.out.below (below_go HB1.out HBA.out)) HZ.out (HCN.out 1 (by omega))).mono ?_
    rw [HDB.out]
    rintro e w2 ⟨hb2, ⟨q2, ps2, v2, rfl, rfl, hP2⟩ | ⟨rfl, rfl⟩⟩
    · obtain ⟨Ab, nb, cb, rfl⟩ : ∃ Ab nb cb, v2 = .slice Ab nb cb := by obtain ⟨Ap, cp, hv⟩ := Kd.R_slice hP2; exact ⟨Ap, _, cp, hv⟩
      have HP2 := Aside0.mk (show OwnP w2 w.heap.size (.slice Ab nb cb) ps2 from Kd.R_lower hP2 (below_go HB1.out HBA.out).size)
      clear hP2
      have HB2 := Aside0.mk (below_go (below_go HB1.out HBA.out) hb2)
      have HST2 := Aside0.mk (Rc.blk_old hb2 (Rc.blk_old HBA.out HST1.out))
      have HSA2 := Aside0.mk (Rc.blk_old hb2 HSA.out)
      obtain ⟨W2, hW2⟩ : ∃ W2, w2.alloc (.cells #[.int .u64 (q2 : Int), .slice Ab nb cb] 27) = W2 := ⟨_, rfl⟩
      have hb2a : Below w2.heap.size w2 W2 := by rw [← hW2]; exact alloc_below _ _
      have hsb : W2.heap[w2.heap.size]? = some (.cells #[.int .u64 (q2 : Int), .slice Ab nb cb] 27 (0, 0)) := by rw [← hW2]; exact blk_here rfl
      have hsa := Rc.blk_old hb2a HSA2.out
      have hst := Rc.blk_old hb2a HST2.out
      have HBW := Aside0.mk (below_go HB2.out hb2a)
      have HST3 := Aside0.mk hst
      obtain ⟨a0, a1, -, -⟩ := st_cells (by rfl) hsa
      obtain ⟨b0, b1, -, -⟩ := st_cells (by rfl) hsb
      obtain ⟨s0, s1, z0, z1⟩ := st_cells (by rfl) hst
      have HW2 := Aside0.mk hW2
      have HPA := Aside0.mk (show OwnP W2 w.heap.size (.slice Aa na ca) ps1 from Kd.R_below (Kd.R_below (Kd.R_below HP1.out HBA.out) hb2) hb2a)
      have HPB := Aside0.mk (show OwnP W2 w.heap.size (.slice Ab nb cb) ps2 from Kd.R_below HP2.out hb2a)
      by_cases hlt : q1 < q2
      · have hd : decide ((q1 : Int) < (q2 : Int)) = true := decide_eq_true (by omega)
        have hd' : decide (q1 < q2) = true := decide_eq_true hlt
        have HLT := Aside0.mk hlt
        clear hb2 hb2a hsb hsa hst hW2 hlt
        rw [← HW2.out] at a0 a1 b0 b1 s0 s1 z0 z1
        go_wp2
        rw [HW2.out]
        have b1' := blk_set HST3.out 0 (.int .u64 (q2 : Int))
        have b2' := blk_set b1' 1 (.slice Ab nb cb)
        have hB9 := (HBW.out.setCell (p := ⟨g, 0, none⟩) (Nat.le_of_eq HG.out) (.int .u64 (q2 : Int))).setCell (p := ⟨g, 1, none⟩) (Nat.le_of_eq HG.out) (.slice Ab nb cb)
        have hP9 : OwnP ((W2.setCell ⟨g, 0, none⟩ (.int .u64 (q2 : Int))).setCell ⟨g, 1, none⟩ (.slice Ab nb cb)) w.heap.size (.slice Ab nb cb) ps2 := Kd.R_set (Kd.R_set HPB.out HST3.out plE_ne 0 _) b1' plE_ne 1 _
        clear b1' a0 a1 b0 b1 s0 s1 z0 z1
        generalize (W2.setCell ⟨g, 0, none⟩ (.int .u64 (q2 : Int))).setCell ⟨g, 1, none⟩ (.slice Ab nb cb) = W9 at *
        have k0 : W9.cell? ⟨g, 0, none⟩ = some (.int .u64 (q2 : Int)) := by simp [World.cell?, b2']
        have k1 : W9.cell? ⟨g, 1, none⟩ = some (.slice Ab nb cb) := by simp [World.cell?, b2']
        refine bodyPost_ret (v := .tuple #[.agg #[.int .u64 (q2 : Int), .slice Ab nb cb], .int .i64 1, .int .u16 0]) (by simp [results, Try.results23, go_sem, k0, k1]) rfl ?_
        exact ⟨hB9, .inl ⟨q2, ps2, _, 1, by show (if q1 < q2 then _ else _) = _; rw [if_pos HLT.out], by omega, rfl, hP9⟩⟩
      · have hd : decide ((q1 : Int) < (q2 : Int)) = false := decide_eq_false (by omega)
        have hd' : decide (q1 < q2) = false := decide_eq_false hlt
        have HLT := Aside0.mk hlt
        clear hb2 hb2a hsb hsa hst hW2 hlt
        rw [← HW2.out] at a0 a1 b0 b1 s0 s1 z0 z1
        go_wp2
        rw [HW2.out]
        have b1' := blk_set HST3.out 0 (.int .u64 (q1 : Int))
        have b2' := blk_set b1' 1 (.slice Aa na ca)
        have hB9 := (HBW.out.setCell (p := ⟨g, 0, none⟩) (Nat.le_of_eq HG.out) (.int .u64 (q1 : Int))).setCell (p := ⟨g, 1, none⟩) (Nat.le_of_eq HG.out) (.slice Aa na ca)
        have hP9 : OwnP ((W2.setCell ⟨g, 0, none⟩ (.int .u64 (q1 : Int))).setCell ⟨g, 1, none⟩ (.slice Aa na ca)) w.heap.size (.slice Aa na ca) ps1 := Kd.R_set (Kd.R_set HPA.out HST3.out plE_ne 0 _) b1' plE_ne 1 _
        clear b1' a0 a1 b0 b1 s0 s1 z0 z1
        generalize (W2.setCell ⟨g, 0, none⟩ (.int .u64 (q1 : Int))).setCell ⟨g, 1, none⟩ (.slice Aa na ca) = W9 at *
        have k0 : W9.cell? ⟨g, 0, none⟩ = some (.int .u64 (q1 : Int)) := by simp [World.cell?, b2']
        have k1 : W9.cell? ⟨g, 1, none⟩ = some (.slice Aa na ca) := by simp [World.cell?, b2']
        refine bodyPost_ret (v := .tuple #[.agg #[.int .u64 (q1 : Int), .slice Aa na ca], .int .i64 0, .int .u16 0]) (by simp [results, Try.results23, go_sem, k0, k1]) rfl ?_
        exact ⟨hB9, .inl ⟨q1, ps1, _, 0, by show (if q1 < q2 then _ else _) = _; rw [if_neg HLT.out], by omega, rfl, hP9⟩⟩
    · have HB2 := Aside0.mk (below_go (below_go HB1.out HBA.out) hb2)
      have HST2 := Aside0.mk (Rc.blk_old hb2 (Rc.blk_old HBA.out HST1.out))
      have HSA2 := Aside0.mk (Rc.blk_old hb2 HSA.out)
      obtain ⟨W2, hW2⟩ : ∃ W2, w2.alloc (.cells #[.int .u64 0, .slice none 0 0] 27) = W2 := ⟨_, rfl⟩
      have hb2a : Below w2.heap.size w2 W2 := by rw [← hW2]; exact alloc_below _ _
      have hsb : W2.heap[w2.heap.size]? = some (.cells #[.int .u64 0, .slice none 0 0] 27 (0, 0)) := by rw [← hW2]; exact blk_here rfl
      have hsa := Rc.blk_old hb2a HSA2.out
      have hst := Rc.blk_old hb2a HST2.out
      have HBW := Aside0.mk (below_go HB2.out hb2a)
      have HST3 := Aside0.mk hst
      obtain ⟨a0, a1, -, -⟩ := st_cells (by rfl) hsa
      obtain ⟨b0, b1, -, -⟩ := st_cells (by rfl) hsb
      obtain ⟨s0, s1, z0, z1⟩ := st_cells (by rfl) hst
      have HW2 := Aside0.mk hW2
      have HPA := Aside0.mk (show OwnP W2 w.heap.size (.slice Aa na ca) ps1 from Kd.R_below (Kd.R_below (Kd.R_below HP1.out HBA.out) hb2) hb2a)
      clear hb2 hb2a hsb hsa hst hW2
      rw [← HW2.out] at a0 a1 b0 b1 s0 s1 z0 z1
      go_wp2
      rw [HW2.out]
      have b1' := blk_set HST3.out 0 (.int .u64 (q1 : Int))
      have b2' := blk_set b1' 1 (.slice Aa na ca)
      have hB9 := (HBW.out.setCell (p := ⟨g, 0, none⟩) (Nat.le_of_eq HG.out) (.int .u64 (q1 : Int))).setCell (p := ⟨g, 1, none⟩) (Nat.le_of_eq HG.out) (.slice Aa na ca)
      have hP9 : OwnP ((W2.setCell ⟨g, 0, none⟩ (.int .u64 (q1 : Int))).setCell ⟨g, 1, none⟩ (.slice Aa na ca)) w.heap.size (.slice Aa na ca) ps1 := Kd.R_set (Kd.R_set HPA.out HST3.out plE_ne 0 _) b1' plE_ne 1 _
      clear b1' a0 a1 b0 b1 s0 s1 z0 z1
      generalize (W2.setCell ⟨g, 0, none⟩ (.int .u64 (q1 : Int))).setCell ⟨g, 1, none⟩ (.slice Aa na ca) = W9 at *
      have k0 : W9.cell? ⟨g, 0, none⟩ = some (.int .u64 (q1 : Int)) := by simp [World.cell?, b2']
      have k1 : W9.cell? ⟨g, 1, none⟩ = some (.slice Aa na ca) := by simp [World.cell?, b2']
      refine bodyPost_ret (v := .tuple #[.agg #[.int .u64 (q1 : Int), .slice Aa na ca], .int .i64 0, .int .u16 0]) (by simp [results, Try.results23, go_sem, k0, k1]) rfl ?_
      exact ⟨hB9, .inl ⟨q1, ps1, _, 0, rfl, by omega, rfl, hP9⟩⟩
  · obtain ⟨W1, hW1⟩ : ∃ W1, w1.alloc (.cells #[.int .u64 0, .slice none 0 0] 27) = W1 := ⟨_, rfl⟩
    have HBA := Aside0.mk (show Below w1.heap.size w1 W1 by rw [← hW1]; exact alloc_below _ _)
    have HSA := Aside0.mk (show W1.heap[w1.heap.size]? = some (.cells #[.int .u64 0, .slice none 0 0] 27 (0, 0)) by rw [← hW1]; exact blk_here rfl)
    have HW1 := Aside0.mk hW1
    clear hb1 hW1
    go_wp2_with fail
    rw [HW1.out]
    obtain ⟨g1, hgg⟩ : ∃ g1, w1.heap.size = g1 := ⟨_, rfl⟩
    rw [hgg] at HSA ⊢
    clear hgg hg1 HW1
    refine (held_calls xb B D z r zbn bn HRT.out HR.out zs v 1 (by omega) (by omega) _ (HD.out.below (below_go HB1.out HBA.out)) HZ.out (HCN.out 1 (by omega))).mono ?_
    rw [HDB.out]
    rintro e w2 ⟨hb2, ⟨q2, ps2, v2, rfl, rfl, hP2⟩ | ⟨rfl, rfl⟩⟩
    · obtain ⟨Ab, nb, cb, rfl⟩ : ∃ Ab nb cb, v2 = .slice Ab nb cb := by obtain ⟨Ap, cp, hv⟩ := Kd.R_slice hP2; exact ⟨Ap, _, cp, hv⟩
      have HP2 := Aside0.mk (show OwnP w2 w.heap.size (.slice Ab nb cb) ps2 from Kd.R_lower hP2 (below_go HB1.out HBA.out).size)
      clear hP2
      have HB2 := Aside0.mk (below_go (below_go HB1.out HBA.out) hb2)
      have HST2 := Aside0.mk (Rc.blk_old hb2 (Rc.blk_old HBA.out HST1.out))
      have HSA2 := Aside0.mk (Rc.blk_old hb2 HSA.out)
      obtain ⟨W2, hW2⟩ : ∃ W2, w2.alloc (.cells #[.int .u64 (q2 : Int), .slice Ab nb cb] 27) = W2 := ⟨_, rfl⟩
      have hb2a : Below w2.heap.size w2 W2 := by rw [← hW2]; exact alloc_below _ _
      have hsb : W2.heap[w2.heap.size]? = some (.cells #[.int .u64 (q2 : Int), .slice Ab nb cb] 27 (0, 0)) := by rw [← hW2]; exact blk_here rfl
      have hsa := Rc.blk_old hb2a HSA2.out
      have hst := Rc.blk_old hb2a HST2.out
      have HBW := Aside0.mk (below_go HB2.out hb2a)
      have HST3 := Aside0.mk hst
      obtain ⟨a0, a1, -, -⟩ := st_cells (by rfl) hsa
      obtain ⟨b0, b1, -, -⟩ := st_cells (by rfl) hsb
      obtain ⟨s0, s1, z0, z1⟩ := st_cells (by rfl) hst
      have HW2 := Aside0.mk hW2
      have HPB := Aside0.mk (show OwnP W2 w.heap.size (.slice Ab nb cb) ps2 from Kd.R_below HP2.out hb2a)
      clear hb2 hb2a hsb hsa hst hW2
      rw [← HW2.out] at a0 a1 b0 b1 s0 s1 z0 z1
      go_wp2
      rw [HW2.out]
      have b1' := blk_set HST3.out 0 (.int .u64 (q2 : Int))
      have b2' := blk_set b1' 1 (.slice Ab nb cb)
      have hB9 := (HBW.out.setCell (p := ⟨g, 0, none⟩) (Nat.le_of_eq HG.out) (.int .u64 (q2 : Int))).setCell (p := ⟨g, 1, none⟩) (Nat.le_of_eq HG.out) (.slice Ab nb cb)
      have hP9 : OwnP ((W2.setCell ⟨g, 0, none⟩ (.int .u64 (q2 : Int))).setCell ⟨g, 1, none⟩ (.slice Ab nb cb)) w.heap.size (.slice Ab nb cb) ps2 := Kd.R_set (Kd.R_set HPB.out HST3.out plE_ne 0 _) b1' plE_ne 1 _
      clear b1' a0 a1 b0 b1 s0 s1 z0 z1
      generalize (W2.setCell ⟨g, 0, none⟩ (.int .u64 (q2 : Int))).setCell ⟨g, 1, none⟩ (.slice Ab nb cb) = W9 at *
      have k0 : W9.cell? ⟨g, 0, none⟩ = some (.int .u64 (q2 : Int)) := by simp [World.cell?, b2']
      have k1 : W9.cell? ⟨g, 1, none⟩ = some (.slice Ab nb cb) := by simp [World.cell?, b2']
      refine bodyPost_ret (v := .tuple #[.agg #[.int .u64 (q2 : Int), .slice Ab nb cb], .int .i64 1, .int .u16 0]) (by simp [results, Try.results23, go_sem, k0, k1]) rfl ?_
      exact ⟨hB9, .inl ⟨q2, ps2, _, 1, rfl, by omega, rfl, hP9⟩⟩
    · have HB2 := Aside0.mk (below_go (below_go HB1.out HBA.out) hb2)
      have HST2 := Aside0.mk (Rc.blk_old hb2 (Rc.blk_old HBA.out HST1.out))
      have HSA2 := Aside0.mk (Rc.blk_old hb2 HSA.out)
      obtain ⟨W2, hW2⟩ : ∃ W2, w2.alloc (.cells #[.int .u64 0, .slice none 0 0] 27) = W2 := ⟨_, rfl⟩
      have hb2a : Below w2.heap.size w2 W2 := by rw [← hW2]; exact alloc_below _ _
      have hsb : W2.heap[w2.heap.size]? = some (.cells #[.int .u64 0, .slice none 0 0] 27 (0, 0)) := by rw [← hW2]; exact blk_here rfl
      have hsa := Rc.blk_old hb2a HSA2.out
      have hst := Rc.blk_old hb2a HST2.out
      have HBW := Aside0.mk (below_go HB2.out hb2a)
      have HST3 := Aside0.mk hst
      obtain ⟨a0, a1, -, -⟩ := st_cells (by rfl) hsa
      obtain ⟨b0, b1, -, -⟩ := st_cells (by rfl) hsb
      obtain ⟨s0, s1, z0, z1⟩ := st_cells (by rfl) hst
      have HW2 := Aside0.mk hW2
      clear hb2 hb2a hsb hsa hst hW2
      rw [← HW2.out] at a0 a1 b0 b1 s0 s1 z0 z1
      go_wp2
      rw [HW2.out]
      have b1' := blk_set HST3.out 0 (.int .u64 0)
      have b2' := blk_set b1' 1 (.slice none 0 0)
      have hB9 := (HBW.out.setCell (p := ⟨g, 0, none⟩) (Nat.le_of_eq HG.out) (.int .u64 0)).setCell (p := ⟨g, 1, none⟩) (Nat.le_of_eq HG.out) (.slice none 0 0)
      clear b1' a0 a1 b0 b1 s0 s1 z0 z1
      generalize (W2.setCell ⟨g, 0, none⟩ (.int .u64 0)).setCell ⟨g, 1, none⟩ (.slice none 0 0) = W9 at *
      have k0 : W9.cell? ⟨g, 0, none⟩ = some (.int .u64 0) := by simp [World.cell?, b2']
      have k1 : W9.cell? ⟨g, 1, none⟩ = some (.slice none 0 0) := by simp [World.cell?, b2']
      refine bodyPost_ret (v := .tuple #[.agg #[.int .u64 0, .slice none 0 0], .int .i64 0, .int .u16 142]) (by simp [results, Try.results23, go_sem, k0, k1]) rfl ?_
      exact ⟨hB9, .inr ⟨rfl, rfl⟩⟩
end Go.Proofs.Ytkmeipblgdahoaa.Ck
namespace Go.Proofs.Ytkmeipblgdahoaa.Ck
open Go.RowKit Go.Proofs.YtkmeipblgdahoaaW.PrintWords Go.Proofs.YtkmeipblgdahoaaW.PrintMore Go.Proofs.Ytkmeipblgdahoaa.Base Go.Proofs.Ytkmeipblgdahoaa.Shp
open Go.Proofs.Ytkmeipblgdahoaa.Dv (Dev Prt Zn Chg flat ZInv rfluF fluF new_calls flat_flush flat_reset)
set_option maxRecDepth 100000
set_option linter.unusedVariables false
set_option linter.unusedSimpArgs false
/-- The zones behind a Save. -/
def savZ (zs : List Zn) (slot : Nat) (bs : List (List UInt8)) : List Zn := (zs.set slot (bs, 0)).mapIdx rfluF
theorem savZ_len (zs : List Zn) (slot : Nat) (bs : List (List UInt8)) : (savZ zs slot bs).length = zs.length := by unfold savZ; simp
theorem sav_inv {b zb : Nat} {zs : List Zn} (h : ZInv b zb zs) (slot : Nat) {bs : List (List UInt8)} (hl : bs.length ≤ zb) (hb : ∀ x ∈ bs, x.length = b) : ZInv b zb (zs.set slot (bs, 0)) :=
  h.set slot ⟨⟨by simp, by simp⟩, hl, hb⟩
theorem savZ_inv {b zb : Nat} {zs : List Zn} (h : ZInv b zb zs) (slot : Nat) {bs : List (List UInt8)} (hl : bs.length ≤ zb) (hb : ∀ x ∈ bs, x.length = b) : ZInv b zb (savZ zs slot bs) := by
  have h1 := sav_inv h slot hl hb
  intro p hp
  unfold savZ at hp
  obtain ⟨i, hi, rfl⟩ := List.mem_iff_getElem.1 hp
  rw [List.getElem_mapIdx]
  rw [List.length_mapIdx] at hi
  obtain ⟨h2, h3, h4⟩ := h1 _ (List.getElem_mem hi)
  refine ⟨⟨by simp [rfluF], by simp [rfluF]⟩, h3, h4⟩
theorem savZ_flat {b zb : Nat} (hb0 : 0 < b) {zs : List Zn} (h : ZInv b zb zs) (slot : Nat) {bs : List (List UInt8)} (hl : bs.length ≤ zb) (hb : ∀ x ∈ bs, x.length = b) : savP (b : Int) (zs.map flat) slot bs = (savZ zs slot bs).map flat := by
  unfold savP savZ
  rw [flat_flush hb0 (sav_inv h slot hl hb), List.map_set]
  rfl
theorem savZ_get {zs : List Zn} {slot k : Nat} {bs : List (List UInt8)} (hk : k < zs.length) : ((savZ zs slot bs).getD k ([], 0)).1 = if slot = k then bs else (zs.getD k ([], 0)).1 := by
  unfold savZ
  rw [List.getD_eq_getElem?_getD, List.getElem?_mapIdx]
  by_cases h : slot = k
  · subst h
    rw [List.getElem?_set_self hk, if_pos rfl]
    rfl
  · rw [List.getElem?_set_ne h, if_neg h, List.getD_eq_getElem?_getD, List.getElem?_eq_getElem hk]
    rfl
/-- What Save answers, and the zones behind it. -/
def SavZ (z : Int) (zbn bn : Nat) (r : Int) (zs : List Zn) (slot : Int) (q : Nat) (l : List Plc) (e : Ending) (zs' : List Zn) : Prop :=
  (¬ (0 ≤ slot ∧ slot < 2) ∧ e = .returned (.int .u16 1) ∧ zs' = zs) ∨
  ((0 ≤ slot ∧ slot < 2) ∧ ∃ x : Int, encC (decide (Rt z zbn bn r)) z zbn bn q l = .error x ∧ (x = 140 ∨ x = 141) ∧ e = .returned (.int .u16 x) ∧ zs' = zs) ∨
  ((0 ≤ slot ∧ slot < 2) ∧ ∃ bs, encC (decide (Rt z zbn bn r)) z zbn bn q l = .ok bs ∧ e = .returned (.int .u16 0) ∧ zs' = savZ zs slot.toNat bs)
theorem zsave_calls (xb B : Nat) (D : Nat → Prop) (z r : Int) (zbn bn : Nat) (hrt : Rt z zbn bn r) (hr : IsI r) (zs : List Zn) (v : Value) (slot : Int) (hs : IsI slot) (q : Nat) (hq : q < 18446744073709551616) (A : Option Addr) (n c : Nat) (l : List Plc) (hn : n ≤ 10000000) (hnc : n ≤ c)
    (w : World) (hD : Dev w xb B D z zbn bn r (zs.map flat) v) (h : plK.C w A n l) (hDl : ∀ k, D k → k < w.heap.size) (h2 : 2 ≤ zs.length) (hz : ZInv bn zbn zs) :
    Calls Try.prog 22 #[.pointer (some ⟨xb, 0, none⟩), .int .i64 slot, .agg #[.int .u64 (q : Int), .slice A n c]] w
      fun e w' => ∃ zs', SavZ z zbn bn r zs slot q l e zs' ∧ ZInv bn zbn zs' ∧ zs'.length = zs.length ∧ Dev w' xb B (fun k => D k ∨ w.heap.size ≤ k) z zbn bn r (zs'.map flat) v ∧ Chg w w' (fun k => D k ∨ w.heap.size ≤ k) := by
  have hbn : 64 ≤ bn ∧ bn ≤ 4096 := by have h3 := pow_range hrt.2.2.2.2.1; omega
  have hzb4 : zbn ≤ 4096 := by have := hrt.2.2.2.1; omega
  refine (save_calls xb B D z zbn r bn hrt hr (zs.map flat) v slot hs q hq A n c l hn hnc w hD h hDl (by rw [List.length_map]; exact h2) (flat_small hbn.2 hzb4 hz)).mono ?_
  rintro e w' ⟨ps', ⟨h1, rfl, rfl⟩ | ⟨h1, x, he, hx, rfl, rfl⟩ | ⟨h1, bs, he, rfl, rfl⟩, hD', hc⟩
  · exact ⟨zs, .inl ⟨h1, rfl, rfl⟩, hz, rfl, hD', hc⟩
  · exact ⟨zs, .inr (.inl ⟨h1, x, he, hx, rfl, rfl⟩), hz, rfl, hD', hc⟩
  · obtain ⟨e1, e2, -, -⟩ := enc_ok he
    have hlb : ∀ x ∈ bs, x.length = bn := by rw [e1]; exact fun x hx => blks_mem (rmC_pos hrt.2.2.2.2.1) hx
    have hll : bs.length ≤ zbn := by omega
    exact ⟨_, .inr (.inr ⟨h1, bs, he, rfl, rfl⟩), savZ_inv hz _ hll hlb, savZ_len _ _ _, by rw [savZ_flat (by omega) hz _ hll hlb] at hD'; exact hD', hc⟩
/-! The examples. -/
theorem kn_rt : Rt 6 8 64 2 := by decide
theorem kn_enc (q : Nat) : encC (decide (Rt 6 8 64 2)) 6 8 64 q [] = .ok (blks q [] 64) := by
  unfold encC
  have hm : manyN ([] : List Plc).length 64 = 1 := by decide
  rw [if_pos ⟨decide_eq_true kn_rt, ⟨fun p hp => by simp at hp, trivial⟩⟩, hm, if_pos (by decide)]
theorem kn_len (q : Nat) : (blks q [] 64).length = 1 := by rw [blks_len]; decide
theorem kn_dec (q : Nat) (hq : q < 18446744073709551616) : decC (decide (Rt 6 8 64 2)) 6 8 64 (blks q [] 64) = some (q, []) :=
  dec_enc (kn_enc q) (by decide) (by decide) (by decide) hq (fun x hx => by simp at hx)
def kz0 : List Zn := List.replicate 6 ([], 0)
theorem kz0_flat : List.replicate (6 : Int).toNat (([] : List UInt8), (0 : Int)) = kz0.map flat := rfl
theorem kz0_inv : ZInv 64 8 kz0 := fun p hp => by
  rw [List.eq_of_mem_replicate hp]
  exact ⟨⟨by simp, by simp⟩, by simp, fun x hx => by simp at hx⟩
def kz1 : List Zn := savZ kz0 0 (blks 5 [] 64)
def kz2 : List Zn := savZ kz1 1 (blks 6 [] 64)
theorem nil_C (w : World) : plK.C w none 0 [] := ⟨rfl, by omega, fun hp => by simp at hp⟩
theorem kz_mem (q : Nat) : ∀ x ∈ blks q [] 64, x.length = 64 := fun x hx => blks_mem (by decide) hx
theorem kz1_inv : ZInv 64 8 kz1 := savZ_inv kz0_inv _ (by rw [kn_len]; omega) (kz_mem _)
theorem kz2_inv : ZInv 64 8 kz2 := savZ_inv kz1_inv _ (by rw [kn_len]; omega) (kz_mem _)
theorem kz2_0 : (kz2.getD 0 ([], 0)).1 = blks 5 [] 64 := by
  unfold kz2
  rw [savZ_get (by rw [kz1, savZ_len]; decide), if_neg (by decide)]
  unfold kz1
  rw [savZ_get (by decide), if_pos rfl]
theorem kz2_1 : (kz2.getD 1 ([], 0)).1 = blks 6 [] 64 := by
  unfold kz2
  rw [savZ_get (by rw [kz1, savZ_len]; decide), if_pos rfl]
set_option maxHeartbeats 4000000 in
theorem known_calls (w : World) : Calls Try.prog 12 #[] w fun e w' => e = .returned (.bool true) ∧ Below w.heap.size w w' := by
  have HA := Aside0.mk (alloc_below w (.cells #[.int .i64 6, .int .i64 8, .int .i64 64, .int .i64 2] 23))
  have HSH := Aside0.mk (show (w.alloc (.cells #[.int .i64 6, .int .i64 8, .int .i64 64, .int .i64 2] 23)).heap[w.heap.size]? = some (.cells #[.int .i64 6, .int .i64 8, .int .i64 64, .int .i64 2] 23 (0, 0)) from blk_here rfl)
  have HII := Aside0.mk (show IsI 6 ∧ IsI 8 ∧ IsI 64 ∧ IsI 2 ∧ IsI 0 ∧ IsI 1 by unfold IsI; omega)
  go_enter Try.func12, Try.ntmps12
  go_wp2_with fail
  obtain ⟨g, hg⟩ : ∃ g, w.heap.size = g := ⟨_, rfl⟩
  obtain ⟨W, hW⟩ : ∃ W, w.alloc (.cells #[.int .i64 6, .int .i64 8, .int .i64 64, .int .i64 2] 23) = W := ⟨_, rfl⟩
  rw [hW] at HA HSH ⊢
  rw [hg] at HSH ⊢
  have HG := Aside0.mk hg
  clear hW hg
  refine (encode_ok (kn_enc 5) HII.out.1 HII.out.2.1 HII.out.2.2.1 HII.out.2.2.2.1 (by omega) none 0 0 (by omega) (by omega) _ (nil_C _)).mono ?_
  rintro e w1 ⟨hb1, Ab, nb, cb, rfl, hN⟩
  obtain rfl : nb = 1 := by rw [(Kd.N_reads' hN).1, kn_len]
  have HB1 := Aside0.mk (below_go HA.out hb1)
  have hsh := Rc.blk_old hb1 HSH.out
  have c0 : w1.cell? ⟨g, 0, none⟩ = some (.int .i64 6) := by simp [World.cell?, hsh]
  have c1 : w1.cell? ⟨g, 1, none⟩ = some (.int .i64 8) := by simp [World.cell?, hsh]
  have c2 : w1.cell? ⟨g, 2, none⟩ = some (.int .i64 64) := by simp [World.cell?, hsh]
  have c3 : w1.cell? ⟨g, 3, none⟩ = some (.int .i64 2) := by simp [World.cell?, hsh]
  clear hN hb1 hsh
  go_wp2_with fail
  refine (new_calls 6 8 64 2 HII.out.1 HII.out.2.1 HII.out.2.2.1 HII.out.2.2.2.1 _).mono ?_
  rintro e w2 ⟨⟨hno, -⟩ | ⟨-, xb, v, rfl, hD, hxb⟩, hb2⟩
  · exact absurd kn_rt hno
  rw [kz0_flat] at hD
  have HB2 := Aside0.mk (below_go HB1.out hb2)
  have HD2 := Aside0.mk (show Dev w2 xb w1.heap.size (fun k => w1.heap.size ≤ k ∧ k < w2.heap.size) 6 (8 : Nat) (64 : Nat) 2 (kz0.map flat) v from hD.tight (fun k h1 _ h3 => ⟨h1, h3⟩))
  have H12 := Aside0.mk hb2.size
  clear hD hb2 hxb c0 c1 c2 c3
  go_wp2_with fail
  refine (zsave_calls xb w1.heap.size _ 6 2 8 64 kn_rt HII.out.2.2.2.1 kz0 v 0 HII.out.2.2.2.2.1 5 (by omega) none 0 0 [] (by omega) (by omega) _ HD2.out (nil_C _) (fun k hk => hk.2) (by decide) kz0_inv).mono ?_
  rintro e w3 ⟨zs1, hs1, -, -, hD3, hc3⟩
  rcases hs1 with ⟨hn, -, -⟩ | ⟨-, x, he, -, -, -⟩ | ⟨-, bs, he, rfl, hz1⟩
  · exact absurd ⟨by omega, by omega⟩ hn
  · have := he.symm.trans (kn_enc 5); cases this
  have hbs : bs = blks 5 [] 64 := (enc_ok he).1
  subst hbs
  obtain rfl : zs1 = kz1 := hz1
  have hb3 : Below w1.heap.size w2 w3 := hc3.to_below H12.out (fun k hk => hk.elim (fun h => h.1) (fun h => Nat.le_trans H12.out h))
  have HB3 := Aside0.mk (Below.trans HB2.out (hb3.mono HB1.out.size))
  have HD3 := Aside0.mk (show Dev w3 xb w1.heap.size (fun k => w1.heap.size ≤ k ∧ k < w3.heap.size) 6 (8 : Nat) (64 : Nat) 2 (kz1.map flat) v from hD3.tight (fun k h1 h2 h3 => ⟨h2, h3⟩))
  have H13 := Aside0.mk (show w1.heap.size ≤ w3.heap.size from Nat.le_trans H12.out hb3.size)
  clear hc3 hb3 hD3 he
  go_wp2_with fail
  refine (zsave_calls xb w1.heap.size _ 6 2 8 64 kn_rt HII.out.2.2.2.1 kz1 v 1 HII.out.2.2.2.2.2 6 (by omega) none 0 0 [] (by omega) (by omega) _ HD3.out (nil_C _) (fun k hk => hk.2) (by rw [kz1, savZ_len]; decide) kz1_inv).mono ?_
  rintro e w4 ⟨zs2, hs2, -, -, hD4, hc4⟩
  rcases hs2 with ⟨hn, -, -⟩ | ⟨-, x, he, -, -, -⟩ | ⟨-, bs, he, rfl, hz2⟩
  · exact absurd ⟨by omega, by omega⟩ hn
  · have := he.symm.trans (kn_enc 6); cases this
  have hbs : bs = blks 6 [] 64 := (enc_ok he).1
  subst hbs
  obtain rfl : zs2 = kz2 := hz2
  have hb4 : Below w1.heap.size w3 w4 := hc4.to_below H13.out (fun k hk => hk.elim (fun h => h.1) (fun h => Nat.le_trans H13.out h))
  have HB4 := Aside0.mk (Below.trans HB3.out (hb4.mono HB1.out.size))
  have HD4 := Aside0.mk hD4
  clear hc4 hb4 hD4 he
  go_wp2_with fail
  refine (load_calls xb w1.heap.size _ 6 2 8 64 kn_rt HII.out.2.2.2.1 kz2 v (by rw [kz2, savZ_len, kz1, savZ_len]; decide) _ HD4.out kz2_inv (fun k hk => by
    rcases Nat.lt_or_ge k 1 with h | h
    · obtain rfl : k = 0 := by omega
      rw [kz2_0, kn_len]; omega
    · obtain rfl : k = 1 := by omega
      rw [kz2_1, kn_len]; omega)).mono ?_
  rw [kz2_0, kz2_1]
  rintro e w5 ⟨hb5, hr⟩
  have hl : loadC (decC (decide (Rt 6 (8 : Nat) (64 : Nat) 2)) 6 (8 : Nat) 64 (blks 5 [] 64)) (decC (decide (Rt 6 (8 : Nat) (64 : Nat) 2)) 6 (8 : Nat) 64 (blks 6 [] 64)) = some ((6, []), 1) := by
    have h5 := kn_dec 5 (by omega)
    have h6 := kn_dec 6 (by omega)
    exact (congr (congrArg loadC h5) h6).trans rfl
  rw [hl] at hr
  rcases hr with ⟨q, ps, v5, s, he, -, rfl, hP⟩ | ⟨he, -⟩
  case inr => cases he
  simp only [Option.some.injEq, Prod.mk.injEq] at he
  obtain ⟨⟨rfl, rfl⟩, rfl⟩ := he
  obtain ⟨Ap, np, cp, rfl⟩ : ∃ Ap np cp, v5 = .slice Ap np cp := by obtain ⟨Ap, cp, hv⟩ := Kd.R_slice hP; exact ⟨Ap, _, cp, hv⟩
  have HB5 := Aside0.mk (below_alloc (below_go HB4.out hb5) (.cells #[.int .u64 6, .slice Ap np cp] 27))
  have hrm : rm 64 = 2 := by decide
  have HRM := Aside0.mk hrm
  clear hP hb5 hl hrm
  go_wp2_with fail
  refine (room_calls 64 HII.out.2.2.1 _).mono ?_
  rintro e w6 ⟨rfl, rfl⟩
  rw [HRM.out]
  go_wp2
  go_ret
  exact ⟨rfl, HB5.out⟩
end Go.Proofs.Ytkmeipblgdahoaa.Ck
namespace Go.Proofs.Ytkmeipblgdahoaa.Ck
open Go.RowKit Go.Proofs.YtkmeipblgdahoaaW.PrintWords Go.Proofs.YtkmeipblgdahoaaW.PrintMore Go.Proofs.Ytkmeipblgdahoaa.Base Go.Proofs.Ytkmeipblgdahoaa.Rc
set_option maxRecDepth 100000
set_option linter.unusedVariables false
set_option linter.unusedSimpArgs false
theorem plc_eq (x y : Plc) : ((x = y) ↔ ((x.1 : Int) = y.1 ∧ (x.2.1 : Int) = y.2.1 ∧ x.2.2.1 = y.2.2.1 ∧ x.2.2.2 = y.2.2.2)) := by
  obtain ⟨a, b, c, d⟩ := x
  obtain ⟨a', b', c', d'⟩ := y
  simp only [Prod.mk.injEq]
  omega
theorem eqAdr (d : Nat) (w : World) (x0 y0 x1 y1 : Int) : (Op.equalIn (d + 2) 59 (.agg #[.int .i64 x0, .int .i64 x1]) (.agg #[.int .i64 y0, .int .i64 y1])).run Try.prog w = .ok (x0 == y0 && x1 == y1) w := by
  refine eqA_of Try.underlying59 (by kernel_rfl) ?_
  refine eqf_cons (by rfl) (by go_simp; rfl) (by go_simp; rfl) (by go_simp) ?_
  exact eqf_last (by rfl) (by go_simp; rfl) (by go_simp; rfl) (by go_simp)
theorem eqPlc (d : Nat) (w : World) (x0 y0 x1 y1 x2 y2 x3 y3 : Int) :
    (Op.equalIn (d + 3) 88 (.agg #[.int .u32 x0, .int .u64 x1, .int .i64 x2, .int .i64 x3]) (.agg #[.int .u32 y0, .int .u64 y1, .int .i64 y2, .int .i64 y3])).run Try.prog w = .ok (x0 == y0 && (x1 == y1 && (x2 == y2 && x3 == y3))) w := by
  refine eqA_of Try.underlying88 (by kernel_rfl) ?_
  refine eqf_cons (by rfl) (by go_simp; rfl) (by go_simp; rfl) (by go_simp) ?_
  refine eqf_cons (by rfl) (by go_simp; rfl) (by go_simp; rfl) (by go_simp) ?_
  exact eqf_last (by rfl) (by go_simp) (by go_simp) (eqAdr d w x2 y2 x3 y3)
theorem eqPlcB (w : World) (x y : Plc) (b : Bool) (hb : decide (x = y) = b) : (Op.equalIn 10000 88 (.agg (plV x)) (.agg (plV y))).run Try.prog w = .ok b w := by
  have h := eqPlc 9997 w x.1 y.1 x.2.1 y.2.1 x.2.2.1 y.2.2.1 x.2.2.2 y.2.2.2
  refine h.trans ?_
  congr 1
  rw [← hb]
  rw [Bool.eq_iff_iff]
  simp only [Bool.and_eq_true, beq_iff_eq, decide_eq_true_eq]
  exact (plc_eq x y).symm
theorem csame_nat {a b : List Plc} (h : a.length = b.length) (hh : ∀ i, i < a.length → a.getD i plc0 = b.getD i plc0) : a = b := by
  apply List.ext_getElem h
  intro i h1 h2
  have := hh i h1
  rwa [List.getD_eq_getElem?_getD, List.getD_eq_getElem?_getD, List.getElem?_eq_getElem h1, List.getElem?_eq_getElem h2] at this
set_option maxRecDepth 100000 in
set_option maxHeartbeats 4000000 in
theorem csame_calls (q1 q2 : Nat) (A B : Option Addr) (n m c d : Nat) (l1 l2 : List Plc) (w : World) (h : plK.C w A n l1) (g : plK.C w B m l2) :
    Calls Try.prog 19 #[.agg #[.int .u64 (q1 : Int), .slice A n c], .agg #[.int .u64 (q2 : Int), .slice B m d]] w
      fun e w' => e = .returned (.bool (decide (q1 = q2 ∧ l1 = l2))) ∧ Below w.heap.size w w' := by
  obtain ⟨hl, hm⟩ := C_len h
  obtain ⟨gl, gm⟩ := C_len g
  have HL := Aside0.mk hl
  have GL := Aside0.mk gl
  have HC := Aside0.mk h
  have GC := Aside0.mk g
  have HB := Aside0.mk (show Below w.heap.size w ((w.alloc (.cells #[.int .u64 (q1 : Int), .slice A n c] 27)).alloc (.cells #[.int .u64 (q2 : Int), .slice B m d] 27)) from below_alloc (alloc_below _ _) _)
  have HAA := Aside0.mk (show ((w.alloc (.cells #[.int .u64 (q1 : Int), .slice A n c] 27)).alloc (.cells #[.int .u64 (q2 : Int), .slice B m d] 27)).heap[w.heap.size]? = some (.cells #[.int .u64 (q1 : Int), .slice A n c] 27 (0, 0)) ∧
    ((w.alloc (.cells #[.int .u64 (q1 : Int), .slice A n c] 27)).alloc (.cells #[.int .u64 (q2 : Int), .slice B m d] 27)).heap[w.heap.size + 1]? = some (.cells #[.int .u64 (q2 : Int), .slice B m d] 27 (0, 0)) from ⟨blk_past (blk_here rfl), blk_here (by simp)⟩)
  clear h g hl gl
  by_cases hq : q1 = q2
  case neg =>
    have hqb : ((q1 : Int) != (q2 : Int)) = true := by rw [bne_iff_ne]; omega
    have HE := Aside0.mk (show decide (q1 = q2 ∧ l1 = l2) = false from decide_eq_false (fun hh => hq hh.1))
    rw [HE.out]
    clear hq
    go_enter Try.func19, Try.ntmps19
    go_wp2
    go_ret
    exact ⟨rfl, HB.out⟩
  have hqb : ((q1 : Int) != (q2 : Int)) = false := by rw [bne_eq_false_iff_eq]; omega
  by_cases hn : n = m
  case neg =>
    have hnb : ((n : Int) != (m : Int)) = true := by rw [bne_iff_ne]; omega
    have HE := Aside0.mk (show decide (q1 = q2 ∧ l1 = l2) = false from decide_eq_false (fun hh => hn (by rw [← HL.out, ← GL.out, hh.2])))
    rw [HE.out]
    clear hq hn
    go_enter Try.func19, Try.ntmps19
    go_wp2
    go_ret
    exact ⟨rfl, HB.out⟩
  subst hn
  have hnb : ((n : Int) != (n : Int)) = false := by rw [bne_eq_false_iff_eq]
  have HQ := Aside0.mk hq
  clear hq
  go_enter Try.func19, Try.ntmps19
  go_wp2
  obtain ⟨W, hW⟩ : ∃ W, (w.alloc (.cells #[.int .u64 (q1 : Int), .slice A n c] 27)).alloc (.cells #[.int .u64 (q2 : Int), .slice B n d] 27) = W := ⟨_, rfl⟩
  obtain ⟨ga, hga⟩ : ∃ ga, w.heap.size = ga := ⟨_, rfl⟩
  rw [hW] at HB HAA ⊢
  rw [hga] at HAA ⊢
  clear hW hga hqb hnb
  go_loopg [5] n (fun g1 v5 wr => ∃ i k : Nat, v5 = .int .i64 (i : Int) ∧ i ≤ n ∧ Aside0 (g1 + i = n) ∧ Aside0 (∀ j, j < i → l1.getD j plc0 = l2.getD j plc0) ∧ wr = W.drewN k)
  case atStart => exact ⟨0, 0, rfl, by omega, ⟨rfl⟩, ⟨fun j hj => by omega⟩, rfl⟩
  case round =>
    obtain ⟨i, k, rfl, hi, HK, HS, rfl⟩ := hrel
    have f0 : W.cell? ⟨ga, 1, none⟩ = some (.slice A n c) := by simp [World.cell?, HAA.out.1]
    have f1 : W.cell? ⟨ga + 1, 1, none⟩ = some (.slice B n d) := by simp [World.cell?, HAA.out.2]
    by_cases hlt : i < n
    · have hd0 : decide ((i : Int) < (n : Int)) = true := decide_eq_true (by omega)
      have hd0' : decide (i < n) = true := decide_eq_true hlt
      obtain ⟨x, hx⟩ : ∃ x, l1.getD i plc0 = x := ⟨_, rfl⟩
      obtain ⟨y, hy⟩ : ∃ y, l2.getD i plc0 = y := ⟨_, rfl⟩
      obtain ⟨pa, rfl, -, -, -, e0, e1, e2, e3⟩ := pl_at (Kd.C_below HC.out HB.out) i hlt hx
      obtain ⟨pb, rfl, -, -, -, b0, b1, b2, b3⟩ := pl_at (Kd.C_below GC.out HB.out) i hlt hy
      have HX := Aside0.mk hx
      have HY := Aside0.mk hy
      clear hx hy
      have hi0 : (0 : Int) ≤ (i : Int) := by omega
      have hi1 : (i : Int) < (n : Int) := by omega
      obtain ⟨bb, hbb⟩ : ∃ bb, decide (x = y) = bb := ⟨_, rfl⟩
      have heq := fun w => eqPlcB w x y bb hbb
      unfold plV at heq
      have HBB := Aside0.mk hbb
      have hgu : ∀ (X Y : Operand) (xs ys : Array Value) (w : World), (eqGuard .neq 88 X Y (.agg xs) (.agg ys)).run Try.prog w = .ok () w := fun X Y xs ys w => run_eqGuard_agg w .neq _ X Y xs ys (by kernel_rfl)
      clear hbb
      go_wp2
      go_quiet (fail)
      clear heq hgu
      cases bb with
      | true =>
        go_wp2
        go_roundg (gk - 1)
        case measure => have := HK.out; omega
        case rel =>
          refine ⟨i + 1, k + nq, by congr 1, by omega, ⟨by have := HK.out; omega⟩, ⟨fun j hj => ?_⟩, by first | rfl | rw [World.drewN_drewN]⟩
          by_cases hji : j < i
          · exact HS.out j hji
          · obtain rfl : j = i := by omega
            rw [HX.out, HY.out]
            exact of_decide_eq_true HBB.out
      | false =>
        have HNE := Aside0.mk (show ¬ l1 = l2 from fun hh => by
          have := of_decide_eq_false HBB.out
          apply this
          rw [← HX.out, ← HY.out, hh])
        go_wp2
        go_ret
        exact ⟨by rw [decide_eq_false (fun hh => HNE.out hh.2)]; rfl, pw_below_drewN (pw_below_drewN HB.out k) nq⟩
    · obtain rfl : i = n := by omega
      have hd0 : decide ((i : Int) < (i : Int)) = false := decide_eq_false (by omega)
      go_wp2
      go_ret
      have he : l1 = l2 := csame_nat (by rw [HL.out, GL.out]) (fun j hj => HS.out j (by rw [HL.out] at hj; exact hj))
      exact ⟨by rw [decide_eq_true ⟨HQ.out, he⟩]; rfl, pw_below_drewN HB.out k⟩
end Go.Proofs.Ytkmeipblgdahoaa.Ck
namespace Go.Proofs.Ytkmeipblgdahoaa.Ck
open Go.RowKit Go.Proofs.YtkmeipblgdahoaaW.PrintWords Go.Proofs.YtkmeipblgdahoaaW.PrintMore Go.Proofs.Ytkmeipblgdahoaa.Base
set_option maxRecDepth 1000000
set_option linter.unusedVariables false
set_option linter.unusedSimpArgs false
def stK : Kd (Nat × List Plc) := Kd.pair (nat .u64) (Kd.slice 88 plK)
theorem opn_st : Opn Try.prog 27 stK :=
  Opn.struct Try.underlying27 (by kernel_rfl) (OpnFs.cons rfl (by kernel_rfl) (Opn.nat Try.underlying24 (fun n h => (wf_u64' h).1)) (OpnFs.last rfl (by kernel_rfl) (Opn.slice Try.underlying25 (by kernel_rfl) opn_plc)))
def StArg (W : World) (s : Nat × List Plc × Option Addr × Nat × Nat) : Prop := s.1 < 18446744073709551616 ∧ plK.C W s.2.2.1 s.2.2.2.1 s.2.1 ∧ s.2.2.2.1 ≤ s.2.2.2.2
theorem open_st {H : Type} {enc : TypeId × Value → H} {W : World} {r : Reach} {b0 base : Nat} {sp : Nat → Bool} {held : Bool} {v : Value} {x : DataW H} {p : List MemPlace}
    (hv : Value.okWide Try.prog W r b0 27 v) (h : DataW.Trod enc Try.prog W base sp held 27 v x p) :
    ∃ s : Nat × List Plc × Option Addr × Nat × Nat, v = .agg #[.int .u64 (s.1 : Int), .slice s.2.2.1 s.2.2.2.1 s.2.2.2.2] ∧ StArg W s := by
  obtain ⟨s, cs, rfl, hK⟩ := open_agg_kd Try.underlying27 opn_st hv h
  obtain ⟨c0, c1, hc, ⟨rfl, h0⟩, A, c, rfl, hl, hC⟩ := hK
  refine ⟨(s.1, s.2, A, s.2.length, c), ?_, by have := wf_u64' h0; dsimp only; omega, hC, hl⟩
  rw [← Array.toArray_toList (xs := cs), hc]
  rfl
end Go.Proofs.Ytkmeipblgdahoaa.Ck
namespace Go.Proofs.Ytkmeipblgdahoaa.Ck
open Go.RowKit Go.Proofs.YtkmeipblgdahoaaW.PrintWords Go.Proofs.YtkmeipblgdahoaaW.PrintMore Go.Proofs.Ytkmeipblgdahoaa.Base Go.Proofs.Ytkmeipblgdahoaa.Shp
open Go.Proofs.Ytkmeipblgdahoaa.Dv (Dev Prt Zn Chg flat ZInv rfluF new_calls)
set_option maxRecDepth 100000
set_option linter.unusedVariables false
set_option linter.unusedSimpArgs false
section
variable {w0 w w1 : World} {xb B : Nat} {z r : Int} {zbn bn : Nat} {zs zs' : List Zn} {v : Value} {D : Nat → Prop}
end
theorem shc4 {w : World} {g : Nat} {z zb b r : Int} (h : w.heap[g]? = some (.cells #[.int .i64 z, .int .i64 zb, .int .i64 b, .int .i64 r] 23 (0, 0))) :
    w.cell? ⟨g, 0, none⟩ = some (.int .i64 z) ∧ w.cell? ⟨g, 1, none⟩ = some (.int .i64 zb) ∧ w.cell? ⟨g, 2, none⟩ = some (.int .i64 b) ∧ w.cell? ⟨g, 3, none⟩ = some (.int .i64 r) :=
  ⟨by simp [World.cell?, h], by simp [World.cell?, h], by simp [World.cell?, h], by simp [World.cell?, h]⟩
theorem shc4_below {w w' : World} {g : Nat} {z zb b r : Int} (hb : Below w.heap.size w w') (h : w.cell? ⟨g, 0, none⟩ = some (.int .i64 z) ∧ w.cell? ⟨g, 1, none⟩ = some (.int .i64 zb) ∧ w.cell? ⟨g, 2, none⟩ = some (.int .i64 b) ∧ w.cell? ⟨g, 3, none⟩ = some (.int .i64 r)) :
    w'.cell? ⟨g, 0, none⟩ = some (.int .i64 z) ∧ w'.cell? ⟨g, 1, none⟩ = some (.int .i64 zb) ∧ w'.cell? ⟨g, 2, none⟩ = some (.int .i64 b) ∧ w'.cell? ⟨g, 3, none⟩ = some (.int .i64 r) :=
  ⟨pw_cell_below hb h.1, pw_cell_below hb h.2.1, pw_cell_below hb h.2.2.1, pw_cell_below hb h.2.2.2⟩
end Go.Proofs.Ytkmeipblgdahoaa.Ck
namespace Go.Proofs.Ytkmeipblgdahoaa.Dv
open Go.RowKit Go.Shelf Go.Proofs.YtkmeipblgdahoaaW.PrintWords Go.Proofs.YtkmeipblgdahoaaW.PrintMore Go.Proofs.Ytkmeipblgdahoaa.Base Go.Proofs.Ytkmeipblgdahoaa.Shp
set_option maxRecDepth 100000
set_option linter.unusedVariables false
set_option linter.unusedSimpArgs false
attribute [local go_sem] Oper.semAt_some
/-- What holds at a round's head. -/
structure ZRel (w W : World) (m bn : Nat) (ps : List Prt) (i : Nat) (vo : Value) (ds : List Deferred) (So : Nat → Prop) : Prop where
  le : i ≤ m
  out : Kd.N zoneK 77 W w.heap.size So vo ((ps.take i).map (partZ bn))
  ft : ∀ k, So k → w.heap.size ≤ k ∧ k < W.heap.size ∧ ∀ d ∈ ds, d.target ≠ .collected k
  marks : Marks w.heap.size W ds
  bel : Below w.heap.size w W
def WZ (w : World) (xb m cp bn : Nat) (A0 : Option Addr) (ps : List Prt) (a : Act) (W : World) : Prop :=
  ∃ (i : Nat) (vo : Value) (ds : List Deferred) (u4 u5 u6 u7 u14 u15 u16 u17 u18 u19 u20 u21 u22 u23 u24 u25 u26 u27 u28 u29 u30 u31 u32 u33 u34 u35 u36 u37 u38 u39 u40 u41 : Value), (∃ So, ZRel w W m bn ps i vo ds So) ∧ a = { tmps := #[Value.pointer (some ⟨xb, 0, none⟩), undef, .slice none 0 0, vo, u4, u5, u6, u7, .pointer (some ⟨xb, 0, none⟩), .pointer (some ⟨xb, 0, none⟩), .pointer (some ⟨xb, 4, none⟩), .slice A0 m cp, .int .i64 (m : Int), .int .i64 (i : Int), u14, u15, u16, u17, u18, u19, u20, u21, u22, u23, u24, u25, u26, u27, u28, u29, u30, u31, u32, u33, u34, u35, u36, u37, u38, u39, u40, u41], defers := ds }
def WM (m : Nat) (a : Act) (_ : World) : Nat := m - (intOf (a.tmps.getD 13 undef)).toNat
set_option maxRecDepth 100000 in
set_option maxHeartbeats 4000000 in
theorem zones_calls (xb base : Nat) (ok : Nat → Prop) (z zb r : Int) (bn : Nat) (hb1 : 1 ≤ bn) (hb2 : bn ≤ 4096) (ps : List Prt) (v : Value) (w : World) (h : Dev w xb base ok z zb bn r ps v) (hw : Whole bn 4096 ps) (hn : ps.length ≤ 256) :
    Calls Try.prog 32 #[.pointer (some ⟨xb, 0, none⟩)] w fun e w' => ∃ v', e = .returned v' ∧ Kd.N zoneK 77 w' w.heap.size (fun k => w.heap.size ≤ k ∧ k < w'.heap.size) v' (ps.map (partZ bn)) ∧ Below w.heap.size w w' := by
  have HD := Aside0.mk h
  obtain ⟨-, -, -, -, k4⟩ := h.cells
  obtain ⟨A0, m, cp, rfl, hm, hmc, -, hmm⟩ := h.form
  have HM := Aside0.mk hm
  have HWH := Aside0.mk hw
  clear h hm hw
  refine (callsIn_wide (n := 9)).1 (callsIn_of_wp_marks Try.func32 rfl trivial ?_ rfl)
  refine wpIn_wide.2 ?_
  simp only [Try.ntmps32, List.size_toArray, List.length_cons, List.length_nil, Nat.reduceAdd, Nat.reduceSub, Array.replicate_succ, Array.replicate_zero, List.push_toArray, List.append_toArray, List.nil_append, List.cons_append]
  go_wp2
  clear k4
  refine wp_loop (WZ w xb m cp bn A0 ps) (WM m) ⟨0, .slice none 0 0, [], undef, undef, undef, undef, undef, undef, undef, undef, undef, undef, undef, undef, undef, undef, undef, undef, undef, undef, undef, undef, undef, undef, undef, undef, undef, undef, undef, undef, undef, undef, undef, undef, ⟨fun _ => False, Nat.zero_le _, Kd.N_nil _ _ _ _ _, fun _ h => h.elim, trivial, Below.refl _ _⟩, rfl⟩ ?_
  rintro a W ⟨i, vo, ds, u4, hI⟩
  obtain ⟨u5, hI⟩ := hI
  obtain ⟨u6, hI⟩ := hI
  obtain ⟨u7, u14, u15, u16, u17, u18, u19, u20, hI⟩ := hI
  obtain ⟨u21, u22, u23, u24, u25, u26, u27, u28, hI⟩ := hI
  obtain ⟨u29, u30, u31, u32, u33, u34, u35, u36, hI⟩ := hI
  obtain ⟨u37, u38, u39, u40, u41, ⟨So, hrel⟩, rfl⟩ := hI
  have hle := hrel.le
  have HR := Aside0.mk hrel
  have HDW := Aside0.mk (HD.out.below hrel.bel)
  clear hrel
  by_cases hlt : i < m
  · obtain ⟨p, hp⟩ : ∃ p, ps.getD i ([], 0) = p := ⟨_, rfl⟩
    obtain ⟨-, -, k2, -, k4⟩ := HDW.out.cells
    obtain ⟨ad, cp', B, k, oki, hv, c0, c1, hk, hI, hB, f0, f1, hoa, hax, hal, hR, hoki, -, -⟩ := HDW.out.part (j := i) (by rw [← HM.out]; exact hlt) hp
    obtain ⟨rfl, rfl⟩ : A0 = some ad ∧ cp = cp' := by simp only [Value.slice.injEq] at hv; exact ⟨hv.1, hv.2.2⟩
    have HP := Aside0.mk hp
    have HI := Aside0.mk hI
    obtain ⟨cnt, hcnt4, hlen⟩ := HWH.out.get (i := i) (by rw [← HM.out]; exact hlt)
    rw [hp] at hlen
    have HLEN := Aside0.mk hlen
    have hpm : p.1.length ≤ 100000000 := by
      have : cnt * bn ≤ 4096 * 4096 := Nat.mul_le_mul hcnt4 hb2
      omega
    have K2 := Aside0.mk k2
    have K4 := Aside0.mk k4
    have hlt' : (i : Int) < (m : Int) := by omega
    have hd0 : decide ((i : Int) < (m : Int)) = true := decide_eq_true hlt'
    have HCAP := Aside0.mk hk
    have HRB := Aside0.mk (Kd.R_bound hR)
    clear hp hv hI hB hR hoki hlen f0 f1 hoa hax hal
    go_wp2
    obtain ⟨W2, hW2⟩ : ∃ W2, (W.alloc (.cells #[.slice B p.1.length k, .int .i64 p.2] 108)).alloc (.cells #[.slice none 0 0, .int .i64 p.2] 77) = W2 := ⟨_, rfl⟩
    obtain ⟨gp, hgp⟩ : ∃ gp, W.heap.size = gp := ⟨_, rfl⟩
    have hb2w : Below W.heap.size W W2 := by rw [← hW2]; exact ((Below.refl _ _).alloc (Nat.le_refl _) _).alloc (by simp) _
    have hs2 : W2.heap.size = gp + 2 := by rw [← hW2, ← hgp]; simp
    have p0 : W2.cell? ⟨gp, 0, none⟩ = some (.slice B p.1.length k) := by rw [← hW2, ← hgp]; exact (pw_cell_below (alloc_below _ _) (part_cells rfl (blk_here rfl)).1)
    have hbz : W2.heap[gp + 1]? = some (.cells #[.slice none 0 0, .int .i64 p.2] 77 (0, 0)) := by rw [← hW2, ← hgp]; exact blk_here (by simp)
    have k2 := pw_cell_below hb2w k2
    rw [hW2, hgp]
    have HB2 := Aside0.mk hb2w
    have HS2 := Aside0.mk hs2
    have HBZ := Aside0.mk hbz
    have HGP := Aside0.mk hgp
    have HD2 := Aside0.mk (HDW.out.below hb2w)
    clear hW2 hgp hb2w hs2 hbz c0 c1 k4 hk
    go_region_held3 (fun w' => w'.cell? ⟨gp, 0, none⟩ = some (.slice B p.1.length k) ∧ w'.cell? ⟨xb, 2, none⟩ = some (.int .i64 (bn : Int)))
      (first | exact ⟨p0, k2⟩ | exact ⟨pw_cell_below (((Below.refl _ _).alloc (Nat.le_refl _) _).alloc (by simp) _) p0, pw_cell_below (((Below.refl _ _).alloc (Nat.le_refl _) _).alloc (by simp) _) k2⟩)
      (first | (go_at_call 63; (with_reducible refine (chunk_calls B p.1.length k (bn : Int) (by omega) _).mono ?_); rintro e w8 ⟨rfl, rfl⟩))
    go_wp2
    obtain ⟨gb, hgb⟩ : ∃ gb, W2.heap.size = gb := ⟨_, rfl⟩
    obtain ⟨W3, hW3⟩ : ∃ W3, ((W2.alloc (.cells #[.slice B p.1.length k] 39)).alloc (.cells #[.int .i64 (bn : Int)] 3)).drew = W3 := ⟨_, rfl⟩
    have hb3 : Below W2.heap.size W2 W3 := by rw [← hW3]; exact below_drew (((Below.refl _ _).alloc (Nat.le_refl _) _).alloc (by simp) _)
    have hs3 : W3.heap.size = gb + 2 := by
      rw [← hW3, ← hgb]
      show ((W2.alloc (.cells #[.slice B p.1.length k] 39)).alloc (.cells #[.int .i64 (bn : Int)] 3)).heap.size = _
      simp
    have bx0 : W3.cell? ⟨gb, 0, none⟩ = some (.slice B p.1.length k) := by
      rw [← hW3, ← hgb]
      show ((W2.alloc (.cells #[.slice B p.1.length k] 39)).alloc (.cells #[.int .i64 (bn : Int)] 3)).cell? _ = _
      go_simp
    have bx1 : W3.cell? ⟨gb + 1, 0, none⟩ = some (.int .i64 (bn : Int)) := by
      rw [← hW3, ← hgb]
      show ((W2.alloc (.cells #[.slice B p.1.length k] 39)).alloc (.cells #[.int .i64 (bn : Int)] 3)).cell? _ = _
      go_simp
    rw [hgb, hW3]
    have HGB := Aside0.mk (show gb = gp + 2 by rw [← hgb]; exact HS2.out)
    have HB3 := Aside0.mk hb3
    have HS3 := Aside0.mk hs3
    have HBZ3 := Aside0.mk (show W3.heap[gp + 1]? = some (.cells #[.slice none 0 0, .int .i64 p.2] 77 (0, 0)) from (hb3.block _ (by rw [HS2.out]; omega)).trans HBZ.out)
    have HD3 := Aside0.mk (((HDW.out.tight (ok' := fun j => ok j ∧ j < W.heap.size) (fun j hj h1 h2 => ⟨hj, h2⟩)).below HB2.out).below hb3)
    have HBX := Aside0.mk (And.intro bx0 bx1)
    clear hgb hW3 hb3 hs3 bx0 bx1 p0 k2
    refine (wpIn_wide (n := 9)).1 ?_
    refine wpIn_rangeFunc_ownG (α := Fin cnt) rfl (by decide) (gf := 78) (lb := #[.pointer (some ⟨gb, 0, none⟩), .pointer (some ⟨gb + 1, 0, none⟩)]) rfl trivial (enters_of Try.func78 (by kernel_rfl) rfl)
      (chunk_stops _ gb B p.1.length k bn cnt hb1 HLEN.out HCAP.out hpm W3 (by rw [HS3.out]; omega) HBX.out.1 HBX.out.2) KpB.trans ?hKb (Below.refl _ _) (fun _ => rfl)
      (fun pre Wx => ∃ vz S, ZI W3 Wx (gp + 1) p.2 vz (pre.map fun x => piece bn p.1 x.1) S) (fun _ _ _ => False)
      (fun s A B row hs hg hr => by obtain ⟨vz, S, hz⟩ := hs; exact ⟨vz, S, hz.grown (by rw [HS3.out, HGB.out]; omega) hg hr⟩)
      (fun _ _ _ _ _ hs _ _ => hs) ⟨.slice none 0 0, fun _ => False, HBZ3.out, Kd.N_nil _ _ _ _ _, fun _ h => h.elim, Chg.refl _ _⟩ ?a1 ?assign ?body ?done ?stop
    case assign =>
      intro l x Wx K hK
      gi_wp2
      exact hK
    case hKb =>
      intro Wx l o o' hl ho _ _ j hj
      have hlt := (Array.getElem?_eq_some_iff.1 ho).1
      have := HS3.out
      exact (grownBy_putObj' Wx l o').block j (by omega) (fun e => by injection e with e; omega)
    case body =>
      rintro l pre x Wq ⟨vq, S, hz⟩ hlen
      have HZ := Aside0.mk hz
      clear hz
      have hgl : gp + 1 < W3.heap.size := by rw [HS3.out, HGB.out]; omega
      have hxg : xb ≠ gp + 1 := by
        have h1 := (Array.getElem?_eq_some_iff.1 HDW.out.blk).1
        have h2 := HGP.out
        omega
      have hcap : p.1.length ≤ k ∧ byte.C Wq B p.1.length p.1 := by
        have h1 := Kd.R_below (Kd.R_below HRB.out HB2.out) HB3.out
        have h2 := Kd.R_kept h1 HZ.out.chg.kept (fun j hj e => by have := hj.2.2.1; have := HGP.out; omega)
        have h3 := Kd.R_reads' h2
        exact ⟨h3.2.1, h3.2.2⟩
      have hxl : x.1 * bn + bn ≤ p.1.length := by
        rw [HLEN.out, ← Nat.succ_mul]
        exact Nat.mul_le_mul_right bn x.2
      have HPC := Aside0.mk (show byte.C Wq (B.map (·.add (x.1 * bn))) bn (piece bn p.1 x.1) from by
        have h1 := C_drop hcap.2 hcap.1 (x.1 * bn) (by omega)
        rw [if_neg (by have := hcap.1; omega)] at h1
        have h2 := C_take h1 bn (by omega)
        rw [show x.1 * bn * byte.sz = x.1 * bn from Nat.mul_one _] at h2
        exact h2)
      obtain ⟨Aq, nq, cq, rfl, -, hCq⟩ := N_open HZ.out.row
      have HNQ := Aside0.mk (show (pre.map fun x => piece bn p.1 x.1).length ≤ 100000 by rw [List.length_map]; omega)
      obtain ⟨z0, -, zf, -⟩ : Wq.cell? ⟨gp + 1, 0, none⟩ = some (.slice Aq nq cq) ∧ Wq.cell? ⟨gp + 1, 1, none⟩ = some (.int .i64 p.2) ∧ Wq.frozen? ⟨gp + 1, 0, none⟩ = false ∧ Wq.frozen? ⟨gp + 1, 1, none⟩ = false := by
        have := HZ.out.blk
        exact ⟨by simp [World.cell?, this], by simp [World.cell?, this], by simp [World.frozen?, this], by simp [World.frozen?, this]⟩
      have HZ0 := Aside0.mk z0
      clear hcap hCq zf hxg
      gi_wp2
      refine Brg.region_in (by kernel_rfl) (by simp) (by rintro ⟨a, w, h⟩; exact h) ?_
      unfold chunkV
      refine wpAny_take (i := 0) (oi := { dst := some 29, op := Op.fieldAddr 77 (Operand.tmp 6) 0, type := 0, pos := "zone.go:154", after := #[], guard := none }) (v := ?_) rfl (by kernel_rfl) (by kernel_rfl) (by kernel_rfl) (fun _ _ _ h => h) (Or.inl ⟨by rfl, ?_⟩) ?_
      rotate_left
      · (intro w; go_simp; (try with_reducible rfl))
      (try simp only [Act.put, List.setIfInBounds_toArray, List.set_cons_zero, List.set_cons_succ])
      refine wpAny_take (i := 2) (oi := { dst := some 31, op := Op.move (Operand.tmp 7), type := 39, pos := "zone.go:154", after := #[], guard := none }) (v := ?_) rfl (by kernel_rfl) (by kernel_rfl) (by kernel_rfl) (fun _ _ _ h => h) (Or.inl ⟨by rfl, ?_⟩) ?_
      rotate_left
      · (intro w; go_simp; (try with_reducible rfl))
      (try simp only [Act.put, List.setIfInBounds_toArray, List.set_cons_zero, List.set_cons_succ])
      refine wpAny_ready (rs := [1, 3]) (by kernel_rfl) (by simp) ?_
      refine AllReady.cons (o := { dst := some 30, op := Op.load 28 (Operand.tmp 29), type := 28, pos := "zone.go:154", after := #[{ on := 0, ground := Ground.data }], guard := none }) rfl (fun K hK => ?_) (AllReady.cons (o := { dst := some 32, op := Op.call { callee := Callee.value (Operand.func 64), args := #[Operand.tmp 31], argTypes := #[39] }, type := 39, pos := "zone.go:154", after := #[{ on := 2, ground := Ground.data }], guard := none }) rfl (fun K hK => ?_) AllReady.nil)
      · go_simp
        refine hK _ _ ?_
        clear hK K
        (try simp only [Act.put, List.setIfInBounds_toArray, List.set_cons_zero, List.set_cons_succ])
        refine wpAny_ready (rs := [3]) (by kernel_rfl) (by simp) ?_
        refine AllReady.cons (o := { dst := some 32, op := Op.call { callee := Callee.value (Operand.func 64), args := #[Operand.tmp 31], argTypes := #[39] }, type := 39, pos := "zone.go:154", after := #[{ on := 2, ground := Ground.data }], guard := none }) rfl (fun K hK => ?_) AllReady.nil
        go_simp
        refine (clone_calls _ bn bn _ (by omega) _ (Kd.C_below HPC.out (below_drew (Below.refl _ _)))).mono ?_
        rintro e w8 ⟨v8, rfl, hO8, hw8⟩
        obtain ⟨A8, n8, c8, rfl, -, hC8⟩ := hO8.reads
        have HO8 := Aside0.mk hO8
        have hb8 : Below Wq.heap.size Wq w8 := Below.trans (below_drew (Below.refl _ _)) hw8
        have HZ8 := Aside0.mk (HZ.out.below hgl hb8)
        have HKF8 := Aside0.mk hb8
        have z0 := pw_cell_below hb8 HZ0.out
        clear hO8 hw8 hC8 hb8
        refine hK _ _ ?_
        clear hK K
        (try simp only [Act.put, List.setIfInBounds_toArray, List.set_cons_zero, List.set_cons_succ])
        refine wpAny_ready (rs := [4]) (by kernel_rfl) (by simp) ?_
        refine AllReady.cons (o := { dst := some 33, op := Op.buildSlice 28 1 #[(0, Operand.tmp 32)], type := 28, pos := "zone.go:154", after := #[{ on := 3, ground := Ground.data }], guard := none }) rfl (fun K hK => ?_) AllReady.nil
        go_simp
        refine hK _ _ ?_
        clear hK K
        (try simp only [Act.put, List.setIfInBounds_toArray, List.set_cons_zero, List.set_cons_succ])
        refine wpAny_ready (rs := [5]) (by kernel_rfl) (by simp) ?_
        refine AllReady.cons (o := { dst := some 34, op := Op.call { callee := Callee.builtin Builtin.append, args := #[Operand.tmp 30, Operand.tmp 33], argTypes := #[28, 28] }, type := 28, pos := "zone.go:154", after := #[{ on := 1, ground := Ground.data }, { on := 4, ground := Ground.data }, { on := 3, ground := Ground.chain }], guard := none }) rfl (fun K hK => ?_) AllReady.nil
        refine app_blk_step W3.heap.size S (fun j => some j = (Value.slice A8 n8 c8).ownBlock) (.tmp 30) (.tmp 33) (by rfl) rfl (.slice Aq nq cq) (pre.map fun x => piece bn p.1 x.1) (piece bn p.1 x.1) A8 n8 c8 (own_FK HO8.out) (fun j hj e => by have h1 := Kd.N_lt HZ.out.row j e.symm; have h2 := Kd.R_base HO8.out j hj.symm; have h3 : Wq.drew.heap.size = Wq.heap.size := rfl; omega) rfl (by simp [Act.eval]) HZ8.out.row (Nat.le_trans HZ.out.chg.kept.1 HKF8.out.size) HNQ.out ?_
        intro v9 w9 hN9 hg9
        obtain ⟨A9, n9, c9, rfl, -, -⟩ := N_open hN9
        have HZ9 := Aside0.mk (HZ8.out.add (Wq := Wq) hgl HZ.out.chg.kept.1 hN9 hg9 (fun j hj => Kd.R_base HO8.out j hj.symm) (Nat.le_trans HZ.out.chg.kept.1 HKF8.out.size))
        have hz9 : w9.heap[gp + 1]? = some (.cells #[.slice Aq nq cq, .int .i64 p.2] 77 (0, 0)) := (hg9.block _ HZ8.out.blkEq (fun e => by have := Kd.N_base HZ8.out.row _ e.symm; omega)).trans HZ8.out.blk
        have z9 : w9.cell? ⟨gp + 1, 0, none⟩ = some (.slice Aq nq cq) := by simp [World.cell?, hz9]
        have zf9 : w9.frozen? ⟨gp + 1, 0, none⟩ = false := by simp [World.frozen?, hz9]
        have HG9 := Aside0.mk hg9
        clear hz9 hN9 hg9
        refine hK _ _ ?_
        clear hK K
        (try simp only [Act.put, List.setIfInBounds_toArray, List.set_cons_zero, List.set_cons_succ])
        refine wpAny_take (i := 6) (oi := { dst := some 35, op := Op.fieldAddr 77 (Operand.tmp 6) 0, type := 0, pos := "zone.go:154", after := #[{ on := 0, ground := Ground.phase }, { on := 1, ground := Ground.phase }, { on := 2, ground := Ground.phase }, { on := 3, ground := Ground.phase }, { on := 4, ground := Ground.phase }, { on := 5, ground := Ground.phase }], guard := none }) (v := ?_) rfl (by kernel_rfl) (by kernel_rfl) (by kernel_rfl) (fun _ _ _ h => h) (Or.inl ⟨by rfl, ?_⟩) ?_
        rotate_left
        · (intro w; go_simp; (try with_reducible rfl))
        (try simp only [Act.put, List.setIfInBounds_toArray, List.set_cons_zero, List.set_cons_succ])
        refine wpAny_ready (rs := [7]) (by kernel_rfl) (by simp) ?_
        refine AllReady.cons (o := { dst := none, op := Op.store 28 (Operand.tmp 35) (Operand.tmp 34), type := 0, pos := "zone.go:154", after := #[{ on := 6, ground := Ground.data }, { on := 5, ground := Ground.data }, { on := 5, ground := Ground.chain }, { on := 0, ground := Ground.phase }, { on := 1, ground := Ground.phase }, { on := 2, ground := Ground.phase }, { on := 3, ground := Ground.phase }, { on := 4, ground := Ground.phase }, { on := 5, ground := Ground.phase }], guard := none }) rfl (fun K hK => ?_) AllReady.nil
        go_simp
        refine hK _ _ ?_
        clear hK K
        (try simp only [Act.put, List.setIfInBounds_toArray, List.set_cons_zero, List.set_cons_succ])
        refine wpAny_done (by kernel_rfl) ?_ _
        obtain ⟨S9, hz⟩ := HZ9.out
        have hkk : KeepsOthers Wq (w9.setCell ⟨gp + 1, 0, none⟩ (.slice A9 n9 c9)) := ((KeepsOthers.of_grownBy (row := none) ⟨HKF8.out.os, HKF8.out.tape, HKF8.out.output, HKF8.out.size, fun k hk _ => HKF8.out.block k hk⟩ (fun j o e => by cases e)).trans (KeepsOthers.of_grownBy HG9.out (fun j o e ho => by obtain ⟨cells, hc⟩ := Kd.N_typed HZ8.out.row j e; rw [hc] at ho; injection ho with ho; rw [← ho]; rfl))).trans (KeepsOthers.setCell _ _ _)
        refine ⟨hkk.from _, fun j hj => ?_, ⟨_, S9, by rw [List.map_append]; exact hz⟩⟩
        have hj3 : j < W3.heap.size ∧ j ≠ gp + 1 := by have := HS3.out; have := HGB.out; omega
        rw [Below.heap_setCell _ _ _ _ hj3.2, HG9.out.block j (by have := HZ.out.chg.kept.1; have := HKF8.out.size; omega) (fun e => by have := Kd.N_base HZ8.out.row j e.symm; omega)]
        exact HKF8.out.block j (by have := HZ.out.chg.kept.1; omega)
      · go_simp
        refine (clone_calls _ bn bn _ (by omega) _ (Kd.C_below HPC.out (below_drew (Below.refl _ _)))).mono ?_
        rintro e w8 ⟨v8, rfl, hO8, hw8⟩
        obtain ⟨A8, n8, c8, rfl, -, hC8⟩ := hO8.reads
        have HO8 := Aside0.mk hO8
        have hb8 : Below Wq.heap.size Wq w8 := Below.trans (below_drew (Below.refl _ _)) hw8
        have HZ8 := Aside0.mk (HZ.out.below hgl hb8)
        have HKF8 := Aside0.mk hb8
        have z0 := pw_cell_below hb8 HZ0.out
        clear hO8 hw8 hC8 hb8
        refine hK _ _ ?_
        clear hK K
        (try simp only [Act.put, List.setIfInBounds_toArray, List.set_cons_zero, List.set_cons_succ])
        refine wpAny_ready (rs := [1, 4]) (by kernel_rfl) (by simp) ?_
        refine AllReady.cons (o := { dst := some 30, op := Op.load 28 (Operand.tmp 29), type := 28, pos := "zone.go:154", after := #[{ on := 0, ground := Ground.data }], guard := none }) rfl (fun K hK => ?_) (AllReady.cons (o := { dst := some 33, op := Op.buildSlice 28 1 #[(0, Operand.tmp 32)], type := 28, pos := "zone.go:154", after := #[{ on := 3, ground := Ground.data }], guard := none }) rfl (fun K hK => ?_) AllReady.nil)
        · go_simp
          refine hK _ _ ?_
          clear hK K
          (try simp only [Act.put, List.setIfInBounds_toArray, List.set_cons_zero, List.set_cons_succ])
          refine wpAny_ready (rs := [4]) (by kernel_rfl) (by simp) ?_
          refine AllReady.cons (o := { dst := some 33, op := Op.buildSlice 28 1 #[(0, Operand.tmp 32)], type := 28, pos := "zone.go:154", after := #[{ on := 3, ground := Ground.data }], guard := none }) rfl (fun K hK => ?_) AllReady.nil
          go_simp
          refine hK _ _ ?_
          clear hK K
          (try simp only [Act.put, List.setIfInBounds_toArray, List.set_cons_zero, List.set_cons_succ])
          refine wpAny_ready (rs := [5]) (by kernel_rfl) (by simp) ?_
          refine AllReady.cons (o := { dst := some 34, op := Op.call { callee := Callee.builtin Builtin.append, args := #[Operand.tmp 30, Operand.tmp 33], argTypes := #[28, 28] }, type := 28, pos := "zone.go:154", after := #[{ on := 1, ground := Ground.data }, { on := 4, ground := Ground.data }, { on := 3, ground := Ground.chain }], guard := none }) rfl (fun K hK => ?_) AllReady.nil
          refine app_blk_step W3.heap.size S (fun j => some j = (Value.slice A8 n8 c8).ownBlock) (.tmp 30) (.tmp 33) (by rfl) rfl (.slice Aq nq cq) (pre.map fun x => piece bn p.1 x.1) (piece bn p.1 x.1) A8 n8 c8 (own_FK HO8.out) (fun j hj e => by have h1 := Kd.N_lt HZ.out.row j e.symm; have h2 := Kd.R_base HO8.out j hj.symm; have h3 : Wq.drew.heap.size = Wq.heap.size := rfl; omega) rfl (by simp [Act.eval]) HZ8.out.row (Nat.le_trans HZ.out.chg.kept.1 HKF8.out.size) HNQ.out ?_
          intro v9 w9 hN9 hg9
          obtain ⟨A9, n9, c9, rfl, -, -⟩ := N_open hN9
          have HZ9 := Aside0.mk (HZ8.out.add (Wq := Wq) hgl HZ.out.chg.kept.1 hN9 hg9 (fun j hj => Kd.R_base HO8.out j hj.symm) (Nat.le_trans HZ.out.chg.kept.1 HKF8.out.size))
          have hz9 : w9.heap[gp + 1]? = some (.cells #[.slice Aq nq cq, .int .i64 p.2] 77 (0, 0)) := (hg9.block _ HZ8.out.blkEq (fun e => by have := Kd.N_base HZ8.out.row _ e.symm; omega)).trans HZ8.out.blk
          have z9 : w9.cell? ⟨gp + 1, 0, none⟩ = some (.slice Aq nq cq) := by simp [World.cell?, hz9]
          have zf9 : w9.frozen? ⟨gp + 1, 0, none⟩ = false := by simp [World.frozen?, hz9]
          have HG9 := Aside0.mk hg9
          clear hz9 hN9 hg9
          refine hK _ _ ?_
          clear hK K
          (try simp only [Act.put, List.setIfInBounds_toArray, List.set_cons_zero, List.set_cons_succ])
          refine wpAny_take (i := 6) (oi := { dst := some 35, op := Op.fieldAddr 77 (Operand.tmp 6) 0, type := 0, pos := "zone.go:154", after := #[{ on := 0, ground := Ground.phase }, { on := 1, ground := Ground.phase }, { on := 2, ground := Ground.phase }, { on := 3, ground := Ground.phase }, { on := 4, ground := Ground.phase }, { on := 5, ground := Ground.phase }], guard := none }) (v := ?_) rfl (by kernel_rfl) (by kernel_rfl) (by kernel_rfl) (fun _ _ _ h => h) (Or.inl ⟨by rfl, ?_⟩) ?_
          rotate_left
          · (intro w; go_simp; (try with_reducible rfl))
          (try simp only [Act.put, List.setIfInBounds_toArray, List.set_cons_zero, List.set_cons_succ])
          refine wpAny_ready (rs := [7]) (by kernel_rfl) (by simp) ?_
          refine AllReady.cons (o := { dst := none, op := Op.store 28 (Operand.tmp 35) (Operand.tmp 34), type := 0, pos := "zone.go:154", after := #[{ on := 6, ground := Ground.data }, { on := 5, ground := Ground.data }, { on := 5, ground := Ground.chain }, { on := 0, ground := Ground.phase }, { on := 1, ground := Ground.phase }, { on := 2, ground := Ground.phase }, { on := 3, ground := Ground.phase }, { on := 4, ground := Ground.phase }, { on := 5, ground := Ground.phase }], guard := none }) rfl (fun K hK => ?_) AllReady.nil
          go_simp
          refine hK _ _ ?_
          clear hK K
          (try simp only [Act.put, List.setIfInBounds_toArray, List.set_cons_zero, List.set_cons_succ])
          refine wpAny_done (by kernel_rfl) ?_ _
          obtain ⟨S9, hz⟩ := HZ9.out
          have hkk : KeepsOthers Wq (w9.setCell ⟨gp + 1, 0, none⟩ (.slice A9 n9 c9)) := ((KeepsOthers.of_grownBy (row := none) ⟨HKF8.out.os, HKF8.out.tape, HKF8.out.output, HKF8.out.size, fun k hk _ => HKF8.out.block k hk⟩ (fun j o e => by cases e)).trans (KeepsOthers.of_grownBy HG9.out (fun j o e ho => by obtain ⟨cells, hc⟩ := Kd.N_typed HZ8.out.row j e; rw [hc] at ho; injection ho with ho; rw [← ho]; rfl))).trans (KeepsOthers.setCell _ _ _)
          refine ⟨hkk.from _, fun j hj => ?_, ⟨_, S9, by rw [List.map_append]; exact hz⟩⟩
          have hj3 : j < W3.heap.size ∧ j ≠ gp + 1 := by have := HS3.out; have := HGB.out; omega
          rw [Below.heap_setCell _ _ _ _ hj3.2, HG9.out.block j (by have := HZ.out.chg.kept.1; have := HKF8.out.size; omega) (fun e => by have := Kd.N_base HZ8.out.row j e.symm; omega)]
          exact HKF8.out.block j (by have := HZ.out.chg.kept.1; omega)
        · go_simp
          refine hK _ _ ?_
          clear hK K
          (try simp only [Act.put, List.setIfInBounds_toArray, List.set_cons_zero, List.set_cons_succ])
          refine wpAny_ready (rs := [1]) (by kernel_rfl) (by simp) ?_
          refine AllReady.cons (o := { dst := some 30, op := Op.load 28 (Operand.tmp 29), type := 28, pos := "zone.go:154", after := #[{ on := 0, ground := Ground.data }], guard := none }) rfl (fun K hK => ?_) AllReady.nil
          have z0 := pw_cell_below (alloc_below w8 (.cells #[.slice A8 n8 c8] 39)) z0
          go_simp
          refine hK _ _ ?_
          clear hK K
          (try simp only [Act.put, List.setIfInBounds_toArray, List.set_cons_zero, List.set_cons_succ])
          refine wpAny_ready (rs := [5]) (by kernel_rfl) (by simp) ?_
          refine AllReady.cons (o := { dst := some 34, op := Op.call { callee := Callee.builtin Builtin.append, args := #[Operand.tmp 30, Operand.tmp 33], argTypes := #[28, 28] }, type := 28, pos := "zone.go:154", after := #[{ on := 1, ground := Ground.data }, { on := 4, ground := Ground.data }, { on := 3, ground := Ground.chain }], guard := none }) rfl (fun K hK => ?_) AllReady.nil
          refine app_blk_step W3.heap.size S (fun j => some j = (Value.slice A8 n8 c8).ownBlock) (.tmp 30) (.tmp 33) (by rfl) rfl (.slice Aq nq cq) (pre.map fun x => piece bn p.1 x.1) (piece bn p.1 x.1) A8 n8 c8 (own_FK HO8.out) (fun j hj e => by have h1 := Kd.N_lt HZ.out.row j e.symm; have h2 := Kd.R_base HO8.out j hj.symm; have h3 : Wq.drew.heap.size = Wq.heap.size := rfl; omega) rfl (by simp [Act.eval]) HZ8.out.row (Nat.le_trans HZ.out.chg.kept.1 HKF8.out.size) HNQ.out ?_
          intro v9 w9 hN9 hg9
          obtain ⟨A9, n9, c9, rfl, -, -⟩ := N_open hN9
          have HZ9 := Aside0.mk (HZ8.out.add (Wq := Wq) hgl HZ.out.chg.kept.1 hN9 hg9 (fun j hj => Kd.R_base HO8.out j hj.symm) (Nat.le_trans HZ.out.chg.kept.1 HKF8.out.size))
          have hz9 : w9.heap[gp + 1]? = some (.cells #[.slice Aq nq cq, .int .i64 p.2] 77 (0, 0)) := (hg9.block _ HZ8.out.blkEq (fun e => by have := Kd.N_base HZ8.out.row _ e.symm; omega)).trans HZ8.out.blk
          have z9 : w9.cell? ⟨gp + 1, 0, none⟩ = some (.slice Aq nq cq) := by simp [World.cell?, hz9]
          have zf9 : w9.frozen? ⟨gp + 1, 0, none⟩ = false := by simp [World.frozen?, hz9]
          have HG9 := Aside0.mk hg9
          clear hz9 hN9 hg9
          refine hK _ _ ?_
          clear hK K
          (try simp only [Act.put, List.setIfInBounds_toArray, List.set_cons_zero, List.set_cons_succ])
          refine wpAny_take (i := 6) (oi := { dst := some 35, op := Op.fieldAddr 77 (Operand.tmp 6) 0, type := 0, pos := "zone.go:154", after := #[{ on := 0, ground := Ground.phase }, { on := 1, ground := Ground.phase }, { on := 2, ground := Ground.phase }, { on := 3, ground := Ground.phase }, { on := 4, ground := Ground.phase }, { on := 5, ground := Ground.phase }], guard := none }) (v := ?_) rfl (by kernel_rfl) (by kernel_rfl) (by kernel_rfl) (fun _ _ _ h => h) (Or.inl ⟨by rfl, ?_⟩) ?_
          rotate_left
          · (intro w; go_simp; (try with_reducible rfl))
          (try simp only [Act.put, List.setIfInBounds_toArray, List.set_cons_zero, List.set_cons_succ])
          refine wpAny_ready (rs := [7]) (by kernel_rfl) (by simp) ?_
          refine AllReady.cons (o := { dst := none, op := Op.store 28 (Operand.tmp 35) (Operand.tmp 34), type := 0, pos := "zone.go:154", after := #[{ on := 6, ground := Ground.data }, { on := 5, ground := Ground.data }, { on := 5, ground := Ground.chain }, { on := 0, ground := Ground.phase }, { on := 1, ground := Ground.phase }, { on := 2, ground := Ground.phase }, { on := 3, ground := Ground.phase }, { on := 4, ground := Ground.phase }, { on := 5, ground := Ground.phase }], guard := none }) rfl (fun K hK => ?_) AllReady.nil
          go_simp
          refine hK _ _ ?_
          clear hK K
          (try simp only [Act.put, List.setIfInBounds_toArray, List.set_cons_zero, List.set_cons_succ])
          refine wpAny_done (by kernel_rfl) ?_ _
          obtain ⟨S9, hz⟩ := HZ9.out
          have hkk : KeepsOthers Wq (w9.setCell ⟨gp + 1, 0, none⟩ (.slice A9 n9 c9)) := ((KeepsOthers.of_grownBy (row := none) ⟨HKF8.out.os, HKF8.out.tape, HKF8.out.output, HKF8.out.size, fun k hk _ => HKF8.out.block k hk⟩ (fun j o e => by cases e)).trans (KeepsOthers.of_grownBy HG9.out (fun j o e ho => by obtain ⟨cells, hc⟩ := Kd.N_typed HZ8.out.row j e; rw [hc] at ho; injection ho with ho; rw [← ho]; rfl))).trans (KeepsOthers.setCell _ _ _)
          refine ⟨hkk.from _, fun j hj => ?_, ⟨_, S9, by rw [List.map_append]; exact hz⟩⟩
          have hj3 : j < W3.heap.size ∧ j ≠ gp + 1 := by have := HS3.out; have := HGB.out; omega
          rw [Below.heap_setCell _ _ _ _ hj3.2, HG9.out.block j (by have := HZ.out.chg.kept.1; have := HKF8.out.size; omega) (fun e => by have := Kd.N_base HZ8.out.row j e.symm; omega)]
          exact HKF8.out.block j (by have := HZ.out.chg.kept.1; omega)
    case done =>
      rintro D xs Wd hD rfl ⟨vz, S, hz⟩ hK
      have HZ := Aside0.mk hz
      have HK := Aside0.mk hK
      obtain ⟨Az, nz, cz, rfl, hcz, -⟩ := N_open hz.row
      have hzb := hz.blk
      obtain ⟨z0, z1⟩ : Wd.cell? ⟨gp + 1, 0, none⟩ = some (.slice Az nz cz) ∧ Wd.cell? ⟨gp + 1, 1, none⟩ = some (.int .i64 p.2) := ⟨by simp [World.cell?, hzb], by simp [World.cell?, hzb]⟩
      clear hz hK hzb
      have hWd : ∀ j, j < W.heap.size → Wd.heap[j]? = W.heap[j]? := fun j hj => by
        have h1 := HGP.out
        have h2 := HS2.out
        have h3 := HGB.out
        have h4 := HS3.out
        rw [HZ.out.chg.kept.2 j (by omega) (by omega), HB3.out.block j (by omega)]
        exact HB2.out.block j hj
      have HWD := Aside0.mk hWd
      have HWS := Aside0.mk (show W.heap.size ≤ W3.heap.size ∧ W3.heap.size ≤ Wd.heap.size from ⟨by have h1 := HGP.out; have h3 := HGB.out; have h4 := HS3.out; omega, HZ.out.chg.kept.1⟩)
      have HOut := Aside0.mk (Kd.N_step HR.out.out (fun j hj hlt => HWD.out j hlt))
      have HSW := Aside0.mk HR.out.bel.size
      have HNZ := Aside0.mk (Kd.N_reads' HZ.out.row)
      have HFZ := Aside0.mk (show Kd.FK zoneK Wd S (((List.finRange cnt).map fun x => piece bn p.1 x.1), p.2) [.slice Az nz cz, .int .i64 p.2] from by
        have h1 := HNZ.out.1
        have h2 := Kd.N_F HZ.out.row
        subst h1
        exact zone_K h2 HNZ.out.2.1 HI.out)
      clear hWd
      go_wp2_with (at_builtin; (refine app_zone w.heap.size So S (.tmp 36) (.tmp 38) rfl rfl vo ((ps.take i).map (partZ bn)) ((List.finRange cnt).map fun x => piece bn p.1 x.1) p.2 Az nz cz HFZ.out (fun j hj e => by have h1 := (HZ.out.ft j hj).1; have h2 := Kd.N_lt HR.out.out j e.symm; have h3 := HWS.out.1; omega) rfl (by simp [Act.eval]) HOut.out (Nat.le_trans HSW.out (Nat.le_trans HWS.out.1 HWS.out.2)) (by rw [List.length_map, List.length_take]; omega) ?_; intro v9 w9 hN9 hg9); (have HN9 := Aside0.mk hN9; have HG9 := Aside0.mk hg9; clear hN9 hg9))
      clear z0 z1
      refine ⟨?_, by simp [WM, intOf]; omega⟩
      refine ⟨i + 1, v9, _, _, _, _, _, _, _, _, _, _, _, _, _, _, _, _, _, _, _, _, _, _, _, _, _, _, _, _, _, _, _, _, _, ?_, rfl⟩
      have hWl := (Array.getElem?_eq_some_iff.1 HK.out).1
      have hDw : W.heap.size ≤ D := Nat.le_trans HWS.out.1 hD
      have hvo : ∀ j, vo.ownBlock = some j → So j := HR.out.out.1
      have hs9 := HG9.out.size
      have hne : ∀ j, So j → j ≠ D := fun j hj e => by have := (HR.out.ft j hj).2.1; omega
      have hbW9 : ∀ j, j < W.heap.size → some j ≠ vo.ownBlock → w9.heap[j]? = W.heap[j]? := fun j hj h1 => by
        have h2 := HWS.out
        exact (HG9.out.block j (by omega) h1).trans (HWD.out j hj)
      have hsW := HSW.out
      refine ⟨fun k => (So k ∨ S k ∨ Wd.heap.size ≤ k) ∧ k < w9.heap.size, by omega, ?_, ?_, ?_, ?_⟩
      · have hil : i < ps.length := by rw [← HM.out]; exact hlt
        have e : (ps.take (i + 1)).map (partZ bn) = (ps.take i).map (partZ bn) ++ [((List.finRange cnt).map fun x => piece bn p.1 x.1, p.2)] := by
          have hp := HP.out
          rw [List.getD_eq_getElem?_getD, List.getElem?_eq_getElem hil] at hp
          rw [List.take_add_one, List.getElem?_eq_getElem hil, List.map_append]
          have hp' : ps[i] = p := hp
          simp only [hp', Option.toList, List.map_cons, List.map_nil, partZ, pieces]
          rw [HLEN.out, Nat.mul_div_cancel _ (by omega)]
        rw [e]
        exact Kd.N_bound HN9.out
      · rintro j ⟨hj, hj9⟩
        refine ⟨?_, hj9, fun d hd e => ?_⟩
        · rcases hj with h1 | h1 | h1
          · exact (HR.out.ft j h1).1
          · have := (HZ.out.ft j h1).1; have := HWS.out; omega
          · have := HWS.out; omega
        · have hjm : (W.heap.size ≤ j → j = D) ∧ (j < W.heap.size → ∃ d ∈ ds, d.target = .collected j) := by
            rcases List.mem_cons.1 hd with rfl | hd
            · injection e with e
              exact ⟨fun _ => e.symm, fun h => by omega⟩
            · have := (HR.out.marks.lt d hd j e).2.1
              exact ⟨fun h => by omega, fun _ => ⟨d, hd, e⟩⟩
          rcases hj with h1 | h1 | h1
          · obtain ⟨d', hd', e'⟩ := hjm.2 (HR.out.ft j h1).2.1
            exact (HR.out.ft j h1).2.2 d' hd' e'
          · have h2 := (HZ.out.ft j h1).1
            have h3 := HWS.out
            have h4 := hjm.1 (by omega)
            subst h4
            obtain ⟨o, h5, h6⟩ := (HZ.out.ft _ h1).2.2
            have := HK.out
            rw [this] at h5
            injection h5 with h5
            rw [← h5] at h6
            cases h6
          · have h3 := HWS.out
            have h4 := hjm.1 (by omega)
            omega
      · refine ⟨⟨D, rfl, by omega, ?_, fun d' hd' e => ?_⟩, ?_⟩
        · rw [HG9.out.block D hWl (fun e => hne D (hvo D e.symm) rfl)]
          exact HK.out
        · have := (HR.out.marks.lt d' hd' D e).2.1
          omega
        · refine (HR.out.marks.below (W' := Wd) ⟨?_, ?_, ?_, by have := HWS.out; omega, HWD.out⟩).grown HG9.out (fun r e d' hd' e' => (HR.out.ft r (hvo r e)).2.2 d' hd' e')
          · exact HZ.out.chg.os.trans (HB3.out.os.trans HB2.out.os)
          · exact HZ.out.chg.tape.trans (HB3.out.tape.trans HB2.out.tape)
          · exact HZ.out.chg.output.trans (HB3.out.output.trans HB2.out.output)
      · refine ⟨?_, ?_, ?_, by have := HWS.out; omega, fun k hk => ?_⟩
        · exact HG9.out.os.trans (HZ.out.chg.os.trans (HB3.out.os.trans (HB2.out.os.trans HR.out.bel.os)))
        · exact HG9.out.tape.trans (HZ.out.chg.tape.trans (HB3.out.tape.trans (HB2.out.tape.trans HR.out.bel.tape)))
        · exact HG9.out.output.trans (HZ.out.chg.output.trans (HB3.out.output.trans (HB2.out.output.trans HR.out.bel.output)))
        · exact (hbW9 k (by omega) (fun e => by have := (HR.out.ft k (hvo k e.symm)).1; omega)).trans (HR.out.bel.block k hk)
    case stop =>
      rintro D c pre Wx _ _ h _
      exact h.elim
  · have hd0 : decide ((i : Int) < (m : Int)) = false := decide_eq_false (by omega)
    go_wp2
    have him : i = ps.length := by have := HM.out; omega
    have hN : Kd.N zoneK 77 W w.heap.size So vo (ps.map (partZ bn)) := by
      have h1 := HR.out.out
      rw [him, List.take_length] at h1
      exact h1
    refine leaves_marks ds W HR.out.marks (fun W' hs ho ht hou hk => ?_)
    have hmk : ∀ k, k < w.heap.size → ∀ d ∈ ds, d.target ≠ .collected k := fun k hk d hd e => by
      have := (HR.out.marks.lt d hd k e).1
      omega
    refine ⟨_, results_tmp Try.results32 _ _ _, _, rfl, ?_, ?_⟩
    · exact Kd.N_mono (Kd.N_step hN (fun j hj hlt => hk j hlt (HR.out.ft j hj).2.2)) (fun k hk => ⟨(HR.out.ft k hk).1, by have := (HR.out.ft k hk).2.1; omega⟩)
    · exact ⟨ho.trans HR.out.bel.os, ht.trans HR.out.bel.tape, hou.trans HR.out.bel.output, by have := HR.out.bel.size; omega, fun k hlt => (hk k (by have := HR.out.bel.size; omega) (hmk k hlt)).trans (HR.out.bel.block k hlt)⟩
end Go.Proofs.Ytkmeipblgdahoaa.Dv
namespace Go.Proofs.Ytkmeipblgdahoaa.Dv
open Go.RowKit Go.Shelf Go.Proofs.YtkmeipblgdahoaaW.PrintWords Go.Proofs.YtkmeipblgdahoaaW.PrintMore Go.Proofs.Ytkmeipblgdahoaa.Base Go.Proofs.Ytkmeipblgdahoaa.Shp
set_option maxRecDepth 100000
set_option linter.unusedVariables false
set_option linter.unusedSimpArgs false
theorem take_same {α : Type} [DecidableEq α] {xs ys : List α} {i : Nat} (d : α) (h1 : i < xs.length) (h2 : i < ys.length) (h : xs.take i = ys.take i) (he : xs.getD i d = ys.getD i d) : xs.take (i + 1) = ys.take (i + 1) := by
  rw [List.getD_eq_getElem?_getD, List.getElem?_eq_getElem h1, List.getD_eq_getElem?_getD, List.getElem?_eq_getElem h2] at he
  rw [List.take_succ_eq_append_getElem h1, List.take_succ_eq_append_getElem h2, h]
  exact congrArg _ (congrArg (· :: []) he)
theorem ne_at {α : Type} {xs ys : List α} {i : Nat} (d : α) (he : xs.getD i d ≠ ys.getD i d) : xs ≠ ys := fun e => he (by rw [e])
set_option maxHeartbeats 4000000 in
theorem sblocks_calls (A B : Option Addr) (n k c d : Nat) (xs ys : List (List UInt8)) (w : World) (h : bytesK.C w A n xs) (h2 : bytesK.C w B k ys) :
    Calls Try.prog 13 #[.slice A n c, .slice B k d] w fun e w' => e = .returned (.bool (decide (xs = ys))) ∧ ∃ m, w' = w.drewN m := by
  obtain ⟨hl, hm⟩ := C_len h
  obtain ⟨hl2, hm2⟩ := C_len h2
  have HL := Aside0.mk hl
  have HL2 := Aside0.mk hl2
  have HC := Aside0.mk h
  have HC2 := Aside0.mk h2
  clear h hl h2 hl2
  by_cases hnk : n = k
  · subst hnk
    go_enter Try.func13, Try.ntmps13
    go_wp2
    go_loopg [5] n (fun g v5 wr => ∃ i m : Nat, v5 = .int .i64 (i : Int) ∧ i ≤ n ∧ Aside0 (g + i = n) ∧ Aside0 (xs.take i = ys.take i) ∧ wr = w.drewN m)
    case atStart => exact ⟨0, 0, rfl, by omega, ⟨rfl⟩, ⟨rfl⟩, rfl⟩
    case round =>
      obtain ⟨i, m, rfl, hi, HK, HS, rfl⟩ := hrel
      by_cases hlt : i < n
      · obtain ⟨pa, A0, c0, rfl, e0, hk0, hC0⟩ := bytes_at HC.out i hlt
        obtain ⟨pb, B0, d0, rfl, f0, hj0, hD0⟩ := bytes_at HC2.out i hlt
        obtain ⟨x, hx⟩ : ∃ x, xs.getD i [] = x := ⟨_, rfl⟩
        obtain ⟨y, hy⟩ : ∃ y, ys.getD i [] = y := ⟨_, rfl⟩
        rw [hx] at e0 hk0 hC0
        rw [hy] at f0 hj0 hD0
        have HX := Aside0.mk hx
        have HY := Aside0.mk hy
        have g1 := fun k : Nat => conv_bytes (w.drewN k) A0 x.length c0 x (Kd.C_below hC0 (pw_below_drewN (Below.refl _ _) k))
        have g2 := fun k : Nat => conv_bytes (w.drewN k) B0 y.length d0 y (Kd.C_below hD0 (pw_below_drewN (Below.refl _ _) k))
        have hlt' : (i : Int) < (n : Int) := by omega
        have hd0 : decide ((i : Int) < (n : Int)) = true := decide_eq_true hlt'
        clear hx hy hC0 hD0
        by_cases hxy : x = y
        · subst hxy
          go_wp2
          go_quiet (fail)
          go_wp2
          go_roundg (gk - 1)
          case measure => have := HK.out; omega
          case rel => exact ⟨i + 1, _, by congr 1, by omega, ⟨by have := HK.out; omega⟩, ⟨take_same [] (by rw [HL.out]; exact hlt) (by rw [HL2.out]; exact hlt) HS.out (by rw [HX.out, HY.out])⟩, rfl⟩
        · have hxb : (x == y) = false := by simpa using hxy
          have HN := Aside0.mk (ne_at (xs := xs) (ys := ys) (i := i) [] (by rw [HX.out, HY.out]; exact hxy))
          clear hxy
          go_wp2
          go_quiet (fail)
          go_wp2
          go_ret
          exact ⟨by rw [decide_eq_false HN.out]; rfl, _, World.drewN_drewN _ _ _⟩
      · obtain rfl : i = n := by omega
        have hd0 : decide ((i : Int) < (i : Int)) = false := decide_eq_false (by omega)
        go_wp2
        go_ret
        have e := HS.out
        rw [List.take_of_length_le (by rw [HL.out]; omega), List.take_of_length_le (by rw [HL2.out]; omega)] at e
        exact ⟨by rw [decide_eq_true e]; rfl, _, rfl⟩
  · have hd0 : decide ((n : Int) = (k : Int)) = false := decide_eq_false (by omega)
    go_enter Try.func13, Try.ntmps13
    go_wp2
    go_ret
    exact ⟨by rw [decide_eq_false (fun e => hnk (by rw [← HL.out, ← HL2.out, e]))]; rfl, 0, rfl⟩
theorem zones_at {w : World} {A : Option Addr} {n : Nat} {xs : List Zn} (h : zoneK.C w A n xs) (i : Nat) (hi : i < n) {p : Zn} (hp : xs.getD i ([], 0) = p) :
    ∃ ad A0 c0, A = some ad ∧ w.cell? (ad.add (i * 2)) = some (.slice A0 p.1.length c0) ∧ w.cell? ⟨(ad.add (i * 2)).block, (ad.add (i * 2)).off + 1, none⟩ = some (.int .i64 p.2) ∧ p.1.length ≤ c0 ∧ bytesK.C w A0 p.1.length p.1 ∧ IsI p.2 := by
  obtain ⟨ad, c, e, _, hK, hc⟩ := ReadsRow.get_ h ([], 0) (i : Int) (by omega) (by omega)
  rw [Int.toNat_natCast] at hc hK
  rw [hp] at hK
  obtain ⟨c0, c1, rfl, ⟨A0, k, rfl, h1, h2⟩, ⟨rfl, h3⟩⟩ := hK
  refine ⟨ad, A0, k, e, ?_, ?_, h1, h2, wf_i64 h3⟩
  · exact hc 0 _ rfl
  · exact cell_fld (hc 1 _ rfl) (by omega)
set_option maxRecDepth 100000 in
set_option maxHeartbeats 4000000 in
theorem szones_calls (A B : Option Addr) (n k c d : Nat) (xs ys : List Zn) (w : World) (h : zoneK.C w A n xs) (h2 : zoneK.C w B k ys) :
    Calls Try.prog 31 #[.slice A n c, .slice B k d] w fun e w' => e = .returned (.bool (decide (xs = ys))) ∧ ∃ m, w' = w.drewN m := by
  obtain ⟨hl, hm⟩ := C_len h
  obtain ⟨hl2, hm2⟩ := C_len h2
  have HL := Aside0.mk hl
  have HL2 := Aside0.mk hl2
  have HC := Aside0.mk h
  have HC2 := Aside0.mk h2
  clear h hl h2 hl2
  by_cases hnk : n = k
  · subst hnk
    go_enter Try.func31, Try.ntmps31
    go_wp2
    go_loopg [5, 6] n (fun g v5 v6 wr => ∃ i : Nat, v5 = .int .i64 (i : Int) ∧ i ≤ n ∧ Aside0 (g + i = n) ∧ Aside0 (xs.take i = ys.take i) ∧ Aside0 (∃ m, wr = w.drewN m))
    case atStart => exact ⟨0, rfl, by omega, ⟨rfl⟩, ⟨rfl⟩, ⟨0, rfl⟩⟩
    case round =>
      obtain ⟨i, rfl, hi, HK, HS, HM⟩ := hrel
      rename World => W
      have hbw : Below w.heap.size w W := by
        obtain ⟨m, e⟩ := HM.out
        rw [e]
        exact pw_below_drewN (Below.refl _ _) m
      have HCW := Aside0.mk (Kd.C_below HC.out hbw)
      have HCW2 := Aside0.mk (Kd.C_below HC2.out hbw)
      have HM1 : ∀ k : Nat, ∃ m, W.drewN k = w.drewN m := fun k => by
        obtain ⟨m, e⟩ := HM.out
        exact ⟨_, by rw [e]; exact World.drewN_drewN _ _ _⟩
      have HM2 := Aside0.mk HM1
      clear hbw HM1
      by_cases hlt : i < n
      · obtain ⟨x, hx⟩ : ∃ x, xs.getD i ([], 0) = x := ⟨_, rfl⟩
        obtain ⟨y, hy⟩ : ∃ y, ys.getD i ([], 0) = y := ⟨_, rfl⟩
        obtain ⟨pa, A0, c0, rfl, e0, e1, hk0, hC0, -⟩ := zones_at HCW.out i hlt hx
        obtain ⟨pb, B0, d0, rfl, f0, f1, hj0, hD0, -⟩ := zones_at HCW2.out i hlt hy
        have HX := Aside0.mk hx
        have HY := Aside0.mk hy
        have HC0 := Aside0.mk hC0
        have HD0 := Aside0.mk hD0
        have hlt' : (i : Int) < (n : Int) := by omega
        have hd0 : decide ((i : Int) < (n : Int)) = true := decide_eq_true hlt'
        have q0 : ∀ v : Nat, Calls Try.prog 13 #[.slice A0 x.1.length c0, .slice B0 y.1.length d0] (W.drewN v) fun e w' => e = .returned (.bool (decide (x.1 = y.1))) ∧ ∃ m, w' = W.drewN m := fun v => (sblocks_calls A0 B0 x.1.length y.1.length c0 d0 x.1 y.1 (W.drewN v) (Kd.C_below HC0.out (pw_below_drewN (Below.refl _ _) v)) (Kd.C_below HD0.out (pw_below_drewN (Below.refl _ _) v))).mono fun e w' hh => by
          obtain ⟨h1, m, h2⟩ := hh
          exact ⟨h1, _, by rw [h2]; exact World.drewN_drewN _ _ _⟩
        clear hx hy hC0 hD0
        by_cases hxy : x.1 = y.1
        · have HXY := Aside0.mk hxy
          rw [decide_eq_true hxy] at q0
          clear hxy
          go_wp2
          go_quiet (exact q0 _)
          by_cases hd : x.2 = y.2
          · rw [hd] at e1
            go_wp2
            go_quiet (fail)
            go_wp2
            go_roundg (gk - 1)
            case measure => have := HK.out; omega
            case rel => exact ⟨i + 1, by congr 1, by omega, ⟨by have := HK.out; omega⟩, ⟨take_same ([], 0) (by rw [HL.out]; exact hlt) (by rw [HL2.out]; exact hlt) HS.out (by rw [HX.out, HY.out]; exact Prod.ext HXY.out hd)⟩, ⟨by first | exact HM2.out _ | (rw [World.drewN_drewN]; exact HM2.out _)⟩⟩
          · have hd1 : (x.2 != y.2) = true := by simpa using hd
            have HN := Aside0.mk (ne_at (xs := xs) (ys := ys) (i := i) ([], 0) (by rw [HX.out, HY.out]; exact fun e => hd (congrArg Prod.snd e)))
            clear hd
            go_wp2
            go_quiet (fail)
            go_wp2
            go_ret
            exact ⟨by rw [decide_eq_false HN.out]; rfl, by first | exact HM2.out _ | (rw [World.drewN_drewN]; exact HM2.out _)⟩
        · have HN := Aside0.mk (ne_at (xs := xs) (ys := ys) (i := i) ([], 0) (by rw [HX.out, HY.out]; exact fun e => hxy (congrArg Prod.fst e)))
          rw [decide_eq_false hxy] at q0
          clear hxy
          go_wp2
          go_quiet (exact q0 _)
          go_wp2
          go_quiet (fail)
          go_wp2
          go_ret
          exact ⟨by rw [decide_eq_false HN.out]; rfl, by first | exact HM2.out _ | (rw [World.drewN_drewN]; exact HM2.out _)⟩
      · obtain rfl : i = n := by omega
        have hd0 : decide ((i : Int) < (i : Int)) = false := decide_eq_false (by omega)
        go_wp2
        go_ret
        have e := HS.out
        rw [List.take_of_length_le (by rw [HL.out]; omega), List.take_of_length_le (by rw [HL2.out]; omega)] at e
        exact ⟨by rw [decide_eq_true e]; rfl, HM.out⟩
  · have hd0 : decide ((n : Int) = (k : Int)) = false := decide_eq_false (by omega)
    go_enter Try.func31, Try.ntmps31
    go_wp2
    go_ret
    exact ⟨by rw [decide_eq_false (fun e => hnk (by rw [← HL.out, ← HL2.out, e]))]; rfl, 0, rfl⟩
end Go.Proofs.Ytkmeipblgdahoaa.Dv
namespace Go.Proofs.Ytkmeipblgdahoaa.Dv
open Go.RowKit Go.Shelf Go.Proofs.YtkmeipblgdahoaaW.PrintWords Go.Proofs.YtkmeipblgdahoaaW.PrintMore Go.Proofs.Ytkmeipblgdahoaa.Base Go.Proofs.Ytkmeipblgdahoaa.Shp
set_option maxRecDepth 100000
set_option linter.unusedVariables false
set_option linter.unusedSimpArgs false
theorem take_one {α : Type} {xs : List α} {i : Nat} (d : α) {x : α} (h : i < xs.length) (hx : xs.getD i d = x) : xs.take (i + 1) = xs.take i ++ [x] := by
  rw [List.take_succ_eq_append_getElem h]
  rw [List.getD_eq_getElem?_getD, List.getElem?_eq_getElem h] at hx
  exact congrArg _ (congrArg (· :: []) hx)
set_option maxRecDepth 100000 in
set_option maxHeartbeats 4000000 in
theorem lentz_calls (A : Option Addr) (n c : Nat) (xs : List Zn) (hn : n ≤ 1000) (hxs : ∀ p ∈ xs, p.1.length ≤ 5000 ∧ ∀ x ∈ p.1, x.length ≤ 100000000) (w : World) (h : zoneK.C w A n xs) :
    Calls Try.prog 65 #[.slice A n c] w fun e w' => ∃ v, e = .returned v ∧ Kd.N zoneK 77 w' w.heap.size (fun k => w.heap.size ≤ k ∧ k < w'.heap.size) v xs ∧ Below w.heap.size w w' := by
  obtain ⟨hl, hm⟩ := C_len h
  have HL := Aside0.mk hl
  have HC := Aside0.mk h
  have HXS := Aside0.mk hxs
  clear h hl hxs
  go_enter Try.func65, Try.ntmps65
  go_wp2
  go_loopg [3, 4, 5, 6] n (fun g v3 v4 v5 v6 wr => ∃ i : Nat, v4 = .int .i64 (i : Int) ∧ i ≤ n ∧ Aside0 (g + i = n) ∧ Aside0 (Kd.N zoneK 77 wr w.heap.size (fun k => w.heap.size ≤ k) v3 (xs.take i) ∧ Below w.heap.size w wr))
  case atStart => exact ⟨0, rfl, by omega, ⟨rfl⟩, ⟨by rw [List.take_zero]; exact Kd.N_nil _ _ _ _ _, Below.refl _ _⟩⟩
  case round =>
    obtain ⟨i, rfl, hi, HK, HS⟩ := hrel
    rename World => W
    obtain ⟨g1, rfl⟩ : ∃ g1 : Nat, g1 = gk := ⟨_, rfl⟩
    by_cases hlt : i < n
    · obtain ⟨p, hp⟩ : ∃ p, xs.getD i ([], 0) = p := ⟨_, rfl⟩
      obtain ⟨pa, B0, c0, rfl, e0, e1, hk0, hB, hI⟩ := zones_at (Kd.C_below HC.out HS.out.2) i hlt hp
      have hpm : p ∈ xs := by
        rw [← hp, List.getD_eq_getElem?_getD, List.getElem?_eq_getElem (show i < xs.length by rw [HL.out]; exact hlt)]
        exact List.getElem_mem _
      have HP := Aside0.mk hp
      have HI := Aside0.mk hI
      obtain ⟨hp5, hpx⟩ := HXS.out p hpm
      have HPX := Aside0.mk hpx
      have hlt' : (i : Int) < (n : Int) := by omega
      have hd0 : decide ((i : Int) < (n : Int)) = true := decide_eq_true hlt'
      clear hp hB hI hk0 hpm hpx
      go_wp2
      obtain ⟨W1, hW1⟩ : ∃ W1, W.alloc (.cells #[.slice none 0 0, .int .i64 p.2] 77) = W1 := ⟨_, rfl⟩
      obtain ⟨gz, hgz⟩ : ∃ gz, W.heap.size = gz := ⟨_, rfl⟩
      have HBZ := Aside0.mk (show W1.heap[gz]? = some (.cells #[.slice none 0 0, .int .i64 p.2] 77 (0, 0)) by rw [← hW1, ← hgz]; exact blk_here rfl)
      have HS1 := Aside0.mk (show W1.heap.size = gz + 1 by rw [← hW1, ← hgz]; simp)
      have HB1 := Aside0.mk (show Below W.heap.size W W1 by rw [← hW1]; exact alloc_below _ _)
      have HGZ := Aside0.mk hgz
      have hwg : w.heap.size ≤ gz := by rw [← hgz]; exact HS.out.2.size
      rw [hW1, hgz]
      clear hW1 hgz e0 e1
      go_loopg [6] p.1.length (fun gk2 v6 wq => ∃ q : Nat, v6 = .int .i64 (q : Int) ∧ q ≤ p.1.length ∧ Aside0 (gk2 + q = p.1.length) ∧ Aside0 (∃ vz S, ZI W1 wq gz p.2 vz (p.1.take q) S))
      case atStart => exact ⟨0, rfl, by omega, ⟨rfl⟩, ⟨.slice none 0 0, fun _ => False, HBZ.out, by rw [List.take_zero]; exact Kd.N_nil _ _ _ _ _, fun _ h => h.elim, Chg.refl _ _⟩⟩
      case round =>
        obtain ⟨q, rfl, hq, HK2, HZZ⟩ := hrel
        rename World => Wq
        obtain ⟨vq, S, hz⟩ := HZZ.out
        have HZ := Aside0.mk hz
        have HBQ := Aside0.mk (show Below w.heap.size w Wq from by
          have h1 := HS.out.2
          have h2 := HB1.out
          have h3 := hz.chg
          have h4 := HS1.out
          have h5 := HGZ.out
          have h6 := h1.size
          exact ⟨h3.os.trans (h2.os.trans h1.os), h3.tape.trans (h2.tape.trans h1.tape), h3.output.trans (h2.output.trans h1.output), by have := h3.kept.1; omega, fun k hk => by
            rw [h3.kept.2 k (by omega) (by omega), h2.block k (by omega)]
            exact h1.block k hk⟩)
        obtain ⟨Aq, nq, cq, rfl, -, hCq⟩ := N_open hz.row
        obtain ⟨z0, z1, zf, -⟩ : Wq.cell? ⟨gz, 0, none⟩ = some (.slice Aq nq cq) ∧ Wq.cell? ⟨gz, 1, none⟩ = some (.int .i64 p.2) ∧ Wq.frozen? ⟨gz, 0, none⟩ = false ∧ Wq.frozen? ⟨gz, 1, none⟩ = false := by
          have := hz.blk
          exact ⟨by simp [World.cell?, this], by simp [World.cell?, this], by simp [World.frozen?, this], by simp [World.frozen?, this]⟩
        obtain ⟨pa', B1, c1, hpa, e0, e1, hk1, hB1, -⟩ := zones_at (Kd.C_below HC.out HBQ.out) i hlt HP.out
        obtain rfl : pa = pa' := by injection hpa
        have HZ0 := Aside0.mk z0
        clear hz hCq hpa zf
        by_cases hql : q < p.1.length
        · obtain ⟨pb, X0, cx, rfl, f0, hcx, hXC⟩ := bytes_at hB1 q hql
          obtain ⟨x, hx⟩ : ∃ x, p.1.getD q [] = x := ⟨_, rfl⟩
          rw [hx] at f0 hcx hXC
          have hxl : x.length ≤ 100000000 := HPX.out x (by rw [← hx, List.getD_eq_getElem?_getD, List.getElem?_eq_getElem hql]; exact List.getElem_mem _)
          have HXC := Aside0.mk hXC
          have HTK := Aside0.mk (take_one [] hql hx)
          have HNQ := Aside0.mk (show (p.1.take q).length ≤ 100000 by rw [List.length_take]; omega)
          have hqlt : (q : Int) < (p.1.length : Int) := by omega
          have hd1 : decide ((q : Int) < (p.1.length : Int)) = true := decide_eq_true hqlt
          clear hx hcx hXC hB1 hk1
          go_wp2
          refine wp_region_any (by kernel_rfl) ?_
          rw [show ({ Wq with drawn := Wq.drawn + 1 } : World) = Wq.drew from rfl]
          refine wpAny_take (i := 0) (oi := { dst := some 29, op := Op.fieldAddr 77 (Operand.tmp 5) 0, type := 0, pos := "ref.go:42", after := #[], guard := none }) (v := ?_) rfl (by kernel_rfl) (by kernel_rfl) (by kernel_rfl) (fun _ _ _ h => h) (Or.inl ⟨by rfl, ?_⟩) ?_
          rotate_left
          · (intro w; go_simp; (try with_reducible rfl))
          (try simp only [Act.put, List.setIfInBounds_toArray, List.set_cons_zero, List.set_cons_succ])
          refine wpAny_take (i := 2) (oi := { dst := some 31, op := Op.move (Operand.tmp 0), type := 64, pos := "ref.go:42", after := #[], guard := none }) (v := ?_) rfl (by kernel_rfl) (by kernel_rfl) (by kernel_rfl) (fun _ _ _ h => h) (Or.inl ⟨by rfl, ?_⟩) ?_
          rotate_left
          · (intro w; go_simp; (try with_reducible rfl))
          (try simp only [Act.put, List.setIfInBounds_toArray, List.set_cons_zero, List.set_cons_succ])
          refine wpAny_take (i := 3) (oi := { dst := some 32, op := Op.move (Operand.tmp 4), type := 3, pos := "ref.go:42", after := #[], guard := none }) (v := ?_) rfl (by kernel_rfl) (by kernel_rfl) (by kernel_rfl) (fun _ _ _ h => h) (Or.inl ⟨by rfl, ?_⟩) ?_
          rotate_left
          · (intro w; go_simp; (try with_reducible rfl))
          (try simp only [Act.put, List.setIfInBounds_toArray, List.set_cons_zero, List.set_cons_succ])
          refine wpAny_take (i := 4) (oi := { dst := some 33, op := Op.indexAddr 64 (Operand.tmp 31) (Operand.tmp 32), type := 0, pos := "ref.go:42", after := #[{ on := 2, ground := Ground.data }, { on := 3, ground := Ground.data }], guard := none }) (v := ?_) rfl (by kernel_rfl) (by kernel_rfl) (by kernel_rfl) (fun _ _ _ h => h) (Or.inl ⟨by rfl, ?_⟩) ?_
          rotate_left
          · (intro w; go_simp; (try with_reducible rfl))
          (try simp only [Act.put, List.setIfInBounds_toArray, List.set_cons_zero, List.set_cons_succ])
          refine wpAny_take (i := 5) (oi := { dst := some 34, op := Op.fieldAddr 77 (Operand.tmp 33) 0, type := 0, pos := "ref.go:42", after := #[{ on := 4, ground := Ground.data }], guard := none }) (v := ?_) rfl (by kernel_rfl) (by kernel_rfl) (by kernel_rfl) (fun _ _ _ h => h) (Or.inl ⟨by rfl, ?_⟩) ?_
          rotate_left
          · (intro w; go_simp; (try with_reducible rfl))
          (try simp only [Act.put, List.setIfInBounds_toArray, List.set_cons_zero, List.set_cons_succ])
          refine wpAny_take (i := 7) (oi := { dst := some 36, op := Op.move (Operand.tmp 6), type := 3, pos := "ref.go:42", after := #[], guard := none }) (v := ?_) rfl (by kernel_rfl) (by kernel_rfl) (by kernel_rfl) (fun _ _ _ h => h) (Or.inl ⟨by rfl, ?_⟩) ?_
          rotate_left
          · (intro w; go_simp; (try with_reducible rfl))
          (try simp only [Act.put, List.setIfInBounds_toArray, List.set_cons_zero, List.set_cons_succ])
          refine wpAny_ready (rs := [1, 6]) (by kernel_rfl) (by simp) ?_
          refine (AllReady.cons (o := { dst := some 30, op := Op.load 28 (Operand.tmp 29), type := 28, pos := "ref.go:42", after := #[{ on := 0, ground := Ground.data }], guard := none }) rfl (fun K hK => ?_) (AllReady.cons (o := { dst := some 35, op := Op.load 28 (Operand.tmp 34), type := 28, pos := "ref.go:42", after := #[{ on := 5, ground := Ground.data }], guard := none }) rfl (fun K hK => ?_) AllReady.nil))
          · go_simp
            refine hK _ _ ?_
            clear hK K
            (try simp only [Act.put, List.setIfInBounds_toArray, List.set_cons_zero, List.set_cons_succ])
            refine wpAny_ready (rs := [6]) (by kernel_rfl) (by simp) ?_
            refine (AllReady.cons (o := { dst := some 35, op := Op.load 28 (Operand.tmp 34), type := 28, pos := "ref.go:42", after := #[{ on := 5, ground := Ground.data }], guard := none }) rfl (fun K hK => ?_) AllReady.nil)
            go_simp
            refine hK _ _ ?_
            clear hK K
            (try simp only [Act.put, List.setIfInBounds_toArray, List.set_cons_zero, List.set_cons_succ])
            refine wpAny_take (i := 8) (oi := { dst := some 37, op := Op.indexAddr 28 (Operand.tmp 35) (Operand.tmp 36), type := 0, pos := "ref.go:42", after := #[{ on := 6, ground := Ground.data }, { on := 7, ground := Ground.data }], guard := none }) (v := ?_) rfl (by kernel_rfl) (by kernel_rfl) (by kernel_rfl) (fun _ _ _ h => h) (Or.inl ⟨by rfl, ?_⟩) ?_
            rotate_left
            · (intro w; go_simp; (try with_reducible rfl))
            (try simp only [Act.put, List.setIfInBounds_toArray, List.set_cons_zero, List.set_cons_succ])
            refine wpAny_ready (rs := [9]) (by kernel_rfl) (by simp) ?_
            refine (AllReady.cons (o := { dst := some 38, op := Op.load 39 (Operand.tmp 37), type := 39, pos := "ref.go:42", after := #[{ on := 8, ground := Ground.data }], guard := none }) rfl (fun K hK => ?_) AllReady.nil)
            go_simp
            refine hK _ _ ?_
            clear hK K
            (try simp only [Act.put, List.setIfInBounds_toArray, List.set_cons_zero, List.set_cons_succ])
            refine wpAny_ready (rs := [10]) (by kernel_rfl) (by simp) ?_
            refine (AllReady.cons (o := { dst := some 39, op := Op.call { callee := Callee.value (Operand.func 77), args := #[Operand.tmp 38], argTypes := #[39] }, type := 39, pos := "ref.go:42", after := #[{ on := 9, ground := Ground.data }], guard := none }) rfl (fun K hK => ?_) AllReady.nil)
            go_simp
            refine (lent_calls X0 x.length cx x (by omega) _ (Kd.C_below HXC.out (below_drew (Below.refl _ _)))).mono ?_
            rintro e w8 ⟨v8, rfl, hO8, hw8⟩
            obtain ⟨A8, n8, c8, rfl, -, hC8⟩ := hO8.reads
            have HO8 := Aside0.mk hO8
            have hb8 : Below Wq.heap.size Wq w8 := Below.trans (below_drew (Below.refl _ _)) hw8
            have HZ8 := Aside0.mk (HZ.out.below (by rw [HS1.out]; omega) hb8)
            have HKF8 := Aside0.mk hb8
            have z0 := pw_cell_below hb8 HZ0.out
            clear hO8 hw8 hC8 hb8
            refine hK _ _ ?_
            clear hK K
            (try simp only [Act.put, List.setIfInBounds_toArray, List.set_cons_zero, List.set_cons_succ])
            refine wpAny_ready (rs := [11]) (by kernel_rfl) (by simp) ?_
            refine (AllReady.cons (o := { dst := some 40, op := Op.buildSlice 28 1 #[(0, Operand.tmp 39)], type := 28, pos := "ref.go:42", after := #[{ on := 10, ground := Ground.data }], guard := none }) rfl (fun K hK => ?_) AllReady.nil)
            go_simp
            refine hK _ _ ?_
            clear hK K
            (try simp only [Act.put, List.setIfInBounds_toArray, List.set_cons_zero, List.set_cons_succ])
            refine wpAny_ready (rs := [12]) (by kernel_rfl) (by simp) ?_
            refine (AllReady.cons (o := { dst := some 41, op := Op.call { callee := Callee.builtin Builtin.append, args := #[Operand.tmp 30, Operand.tmp 40], argTypes := #[28, 28] }, type := 28, pos := "ref.go:42", after := #[{ on := 1, ground := Ground.data }, { on := 11, ground := Ground.data }, { on := 10, ground := Ground.chain }], guard := none }) rfl (fun K hK => ?_) AllReady.nil)
            refine app_blk_step W1.heap.size S (fun j => some j = (Value.slice A8 n8 c8).ownBlock) (.tmp 30) (.tmp 40) (by rfl) rfl (.slice Aq nq cq) (p.1.take q) x A8 n8 c8 (own_FK HO8.out) (fun j hj e => by have h1 := Kd.N_lt HZ.out.row j e.symm; have h2 := Kd.R_base HO8.out j hj.symm; have h3 : Wq.drew.heap.size = Wq.heap.size := rfl; omega) rfl (by simp [Act.eval]) HZ8.out.row (Nat.le_trans HZ.out.chg.kept.1 HKF8.out.size) HNQ.out ?_
            intro v9 w9 hN9 hg9
            obtain ⟨A9, n9, c9, rfl, -, -⟩ := N_open hN9
            have HZ9 := Aside0.mk (HZ8.out.add (Wq := Wq) (by rw [HS1.out]; omega) HZ.out.chg.kept.1 hN9 hg9 (fun j hj => Kd.R_base HO8.out j hj.symm) (Nat.le_trans HZ.out.chg.kept.1 HKF8.out.size))
            have hz9 : w9.heap[gz]? = some (.cells #[.slice Aq nq cq, .int .i64 p.2] 77 (0, 0)) := (hg9.block _ HZ8.out.blkEq (fun e => by have := Kd.N_base HZ8.out.row _ e.symm; have := HS1.out; omega)).trans HZ8.out.blk
            have z9 : w9.cell? ⟨gz, 0, none⟩ = some (.slice Aq nq cq) := by simp [World.cell?, hz9]
            have zf9 : w9.frozen? ⟨gz, 0, none⟩ = false := by simp [World.frozen?, hz9]
            have HG9 := Aside0.mk hg9
            clear hz9 hN9 hg9
            refine hK _ _ ?_
            clear hK K
            (try simp only [Act.put, List.setIfInBounds_toArray, List.set_cons_zero, List.set_cons_succ])
            refine wpAny_take (i := 13) (oi := { dst := some 42, op := Op.fieldAddr 77 (Operand.tmp 5) 0, type := 0, pos := "ref.go:42", after := #[{ on := 0, ground := Ground.phase }, { on := 1, ground := Ground.phase }, { on := 2, ground := Ground.phase }, { on := 3, ground := Ground.phase }, { on := 4, ground := Ground.phase }, { on := 5, ground := Ground.phase }, { on := 6, ground := Ground.phase }, { on := 7, ground := Ground.phase }, { on := 8, ground := Ground.phase }, { on := 9, ground := Ground.phase }, { on := 10, ground := Ground.phase }, { on := 11, ground := Ground.phase }, { on := 12, ground := Ground.phase }], guard := none }) (v := ?_) rfl (by kernel_rfl) (by kernel_rfl) (by kernel_rfl) (fun _ _ _ h => h) (Or.inl ⟨by rfl, ?_⟩) ?_
            rotate_left
            · (intro w; go_simp; (try with_reducible rfl))
            (try simp only [Act.put, List.setIfInBounds_toArray, List.set_cons_zero, List.set_cons_succ])
            refine wpAny_ready (rs := [14]) (by kernel_rfl) (by simp) ?_
            refine (AllReady.cons (o := { dst := none, op := Op.store 28 (Operand.tmp 42) (Operand.tmp 41), type := 0, pos := "ref.go:42", after := #[{ on := 13, ground := Ground.data }, { on := 12, ground := Ground.data }, { on := 12, ground := Ground.chain }, { on := 0, ground := Ground.phase }, { on := 1, ground := Ground.phase }, { on := 2, ground := Ground.phase }, { on := 3, ground := Ground.phase }, { on := 4, ground := Ground.phase }, { on := 5, ground := Ground.phase }, { on := 6, ground := Ground.phase }, { on := 7, ground := Ground.phase }, { on := 8, ground := Ground.phase }, { on := 9, ground := Ground.phase }, { on := 10, ground := Ground.phase }, { on := 11, ground := Ground.phase }, { on := 12, ground := Ground.phase }], guard := none }) rfl (fun K hK => ?_) AllReady.nil)
            go_simp
            refine hK _ _ ?_
            clear hK K
            (try simp only [Act.put, List.setIfInBounds_toArray, List.set_cons_zero, List.set_cons_succ])
            refine wpAny_done (by kernel_rfl) ?_ _
            go_wp2
            go_roundg (gk - 1)
            case measure => have := HK2.out; omega
            case rel =>
              refine ⟨q + 1, by congr 1, by omega, ⟨by have := HK2.out; omega⟩, ⟨?_⟩⟩
              obtain ⟨S9, hz⟩ := HZ9.out
              rw [← HTK.out] at hz
              exact ⟨_, S9, hz⟩
          · go_simp
            refine hK _ _ ?_
            clear hK K
            (try simp only [Act.put, List.setIfInBounds_toArray, List.set_cons_zero, List.set_cons_succ])
            refine wpAny_take (i := 8) (oi := { dst := some 37, op := Op.indexAddr 28 (Operand.tmp 35) (Operand.tmp 36), type := 0, pos := "ref.go:42", after := #[{ on := 6, ground := Ground.data }, { on := 7, ground := Ground.data }], guard := none }) (v := ?_) rfl (by kernel_rfl) (by kernel_rfl) (by kernel_rfl) (fun _ _ _ h => h) (Or.inl ⟨by rfl, ?_⟩) ?_
            rotate_left
            · (intro w; go_simp; (try with_reducible rfl))
            (try simp only [Act.put, List.setIfInBounds_toArray, List.set_cons_zero, List.set_cons_succ])
            refine wpAny_ready (rs := [1, 9]) (by kernel_rfl) (by simp) ?_
            refine (AllReady.cons (o := { dst := some 30, op := Op.load 28 (Operand.tmp 29), type := 28, pos := "ref.go:42", after := #[{ on := 0, ground := Ground.data }], guard := none }) rfl (fun K hK => ?_) (AllReady.cons (o := { dst := some 38, op := Op.load 39 (Operand.tmp 37), type := 39, pos := "ref.go:42", after := #[{ on := 8, ground := Ground.data }], guard := none }) rfl (fun K hK => ?_) AllReady.nil))
            · go_simp
              refine hK _ _ ?_
              clear hK K
              (try simp only [Act.put, List.setIfInBounds_toArray, List.set_cons_zero, List.set_cons_succ])
              refine wpAny_ready (rs := [9]) (by kernel_rfl) (by simp) ?_
              refine (AllReady.cons (o := { dst := some 38, op := Op.load 39 (Operand.tmp 37), type := 39, pos := "ref.go:42", after := #[{ on := 8, ground := Ground.data }], guard := none }) rfl (fun K hK => ?_) AllReady.nil)
              go_simp
              refine hK _ _ ?_
              clear hK K
              (try simp only [Act.put, List.setIfInBounds_toArray, List.set_cons_zero, List.set_cons_succ])
              refine wpAny_ready (rs := [10]) (by kernel_rfl) (by simp) ?_
              refine (AllReady.cons (o := { dst := some 39, op := Op.call { callee := Callee.value (Operand.func 77), args := #[Operand.tmp 38], argTypes := #[39] }, type := 39, pos := "ref.go:42", after := #[{ on := 9, ground := Ground.data }], guard := none }) rfl (fun K hK => ?_) AllReady.nil)
              go_simp
              refine (lent_calls X0 x.length cx x (by omega) _ (Kd.C_below HXC.out (below_drew (Below.refl _ _)))).mono ?_
              rintro e w8 ⟨v8, rfl, hO8, hw8⟩
              obtain ⟨A8, n8, c8, rfl, -, hC8⟩ := hO8.reads
              have HO8 := Aside0.mk hO8
              have hb8 : Below Wq.heap.size Wq w8 := Below.trans (below_drew (Below.refl _ _)) hw8
              have HZ8 := Aside0.mk (HZ.out.below (by rw [HS1.out]; omega) hb8)
              have HKF8 := Aside0.mk hb8
              have z0 := pw_cell_below hb8 HZ0.out
              clear hO8 hw8 hC8 hb8
              refine hK _ _ ?_
              clear hK K
              (try simp only [Act.put, List.setIfInBounds_toArray, List.set_cons_zero, List.set_cons_succ])
              refine wpAny_ready (rs := [11]) (by kernel_rfl) (by simp) ?_
              refine (AllReady.cons (o := { dst := some 40, op := Op.buildSlice 28 1 #[(0, Operand.tmp 39)], type := 28, pos := "ref.go:42", after := #[{ on := 10, ground := Ground.data }], guard := none }) rfl (fun K hK => ?_) AllReady.nil)
              go_simp
              refine hK _ _ ?_
              clear hK K
              (try simp only [Act.put, List.setIfInBounds_toArray, List.set_cons_zero, List.set_cons_succ])
              refine wpAny_ready (rs := [12]) (by kernel_rfl) (by simp) ?_
              refine (AllReady.cons (o := { dst := some 41, op := Op.call { callee := Callee.builtin Builtin.append, args := #[Operand.tmp 30, Operand.tmp 40], argTypes := #[28, 28] }, type := 28, pos := "ref.go:42", after := #[{ on := 1, ground := Ground.data }, { on := 11, ground := Ground.data }, { on := 10, ground := Ground.chain }], guard := none }) rfl (fun K hK => ?_) AllReady.nil)
              refine app_blk_step W1.heap.size S (fun j => some j = (Value.slice A8 n8 c8).ownBlock) (.tmp 30) (.tmp 40) (by rfl) rfl (.slice Aq nq cq) (p.1.take q) x A8 n8 c8 (own_FK HO8.out) (fun j hj e => by have h1 := Kd.N_lt HZ.out.row j e.symm; have h2 := Kd.R_base HO8.out j hj.symm; have h3 : Wq.drew.heap.size = Wq.heap.size := rfl; omega) rfl (by simp [Act.eval]) HZ8.out.row (Nat.le_trans HZ.out.chg.kept.1 HKF8.out.size) HNQ.out ?_
              intro v9 w9 hN9 hg9
              obtain ⟨A9, n9, c9, rfl, -, -⟩ := N_open hN9
              have HZ9 := Aside0.mk (HZ8.out.add (Wq := Wq) (by rw [HS1.out]; omega) HZ.out.chg.kept.1 hN9 hg9 (fun j hj => Kd.R_base HO8.out j hj.symm) (Nat.le_trans HZ.out.chg.kept.1 HKF8.out.size))
              have hz9 : w9.heap[gz]? = some (.cells #[.slice Aq nq cq, .int .i64 p.2] 77 (0, 0)) := (hg9.block _ HZ8.out.blkEq (fun e => by have := Kd.N_base HZ8.out.row _ e.symm; have := HS1.out; omega)).trans HZ8.out.blk
              have z9 : w9.cell? ⟨gz, 0, none⟩ = some (.slice Aq nq cq) := by simp [World.cell?, hz9]
              have zf9 : w9.frozen? ⟨gz, 0, none⟩ = false := by simp [World.frozen?, hz9]
              have HG9 := Aside0.mk hg9
              clear hz9 hN9 hg9
              refine hK _ _ ?_
              clear hK K
              (try simp only [Act.put, List.setIfInBounds_toArray, List.set_cons_zero, List.set_cons_succ])
              refine wpAny_take (i := 13) (oi := { dst := some 42, op := Op.fieldAddr 77 (Operand.tmp 5) 0, type := 0, pos := "ref.go:42", after := #[{ on := 0, ground := Ground.phase }, { on := 1, ground := Ground.phase }, { on := 2, ground := Ground.phase }, { on := 3, ground := Ground.phase }, { on := 4, ground := Ground.phase }, { on := 5, ground := Ground.phase }, { on := 6, ground := Ground.phase }, { on := 7, ground := Ground.phase }, { on := 8, ground := Ground.phase }, { on := 9, ground := Ground.phase }, { on := 10, ground := Ground.phase }, { on := 11, ground := Ground.phase }, { on := 12, ground := Ground.phase }], guard := none }) (v := ?_) rfl (by kernel_rfl) (by kernel_rfl) (by kernel_rfl) (fun _ _ _ h => h) (Or.inl ⟨by rfl, ?_⟩) ?_
              rotate_left
              · (intro w; go_simp; (try with_reducible rfl))
              (try simp only [Act.put, List.setIfInBounds_toArray, List.set_cons_zero, List.set_cons_succ])
              refine wpAny_ready (rs := [14]) (by kernel_rfl) (by simp) ?_
              refine (AllReady.cons (o := { dst := none, op := Op.store 28 (Operand.tmp 42) (Operand.tmp 41), type := 0, pos := "ref.go:42", after := #[{ on := 13, ground := Ground.data }, { on := 12, ground := Ground.data }, { on := 12, ground := Ground.chain }, { on := 0, ground := Ground.phase }, { on := 1, ground := Ground.phase }, { on := 2, ground := Ground.phase }, { on := 3, ground := Ground.phase }, { on := 4, ground := Ground.phase }, { on := 5, ground := Ground.phase }, { on := 6, ground := Ground.phase }, { on := 7, ground := Ground.phase }, { on := 8, ground := Ground.phase }, { on := 9, ground := Ground.phase }, { on := 10, ground := Ground.phase }, { on := 11, ground := Ground.phase }, { on := 12, ground := Ground.phase }], guard := none }) rfl (fun K hK => ?_) AllReady.nil)
              go_simp
              refine hK _ _ ?_
              clear hK K
              (try simp only [Act.put, List.setIfInBounds_toArray, List.set_cons_zero, List.set_cons_succ])
              refine wpAny_done (by kernel_rfl) ?_ _
              go_wp2
              go_roundg (gk - 1)
              case measure => have := HK2.out; omega
              case rel =>
                refine ⟨q + 1, by congr 1, by omega, ⟨by have := HK2.out; omega⟩, ⟨?_⟩⟩
                obtain ⟨S9, hz⟩ := HZ9.out
                rw [← HTK.out] at hz
                exact ⟨_, S9, hz⟩
            · go_simp
              refine hK _ _ ?_
              clear hK K
              (try simp only [Act.put, List.setIfInBounds_toArray, List.set_cons_zero, List.set_cons_succ])
              refine wpAny_ready (rs := [1, 10]) (by kernel_rfl) (by simp) ?_
              refine (AllReady.cons (o := { dst := some 30, op := Op.load 28 (Operand.tmp 29), type := 28, pos := "ref.go:42", after := #[{ on := 0, ground := Ground.data }], guard := none }) rfl (fun K hK => ?_) (AllReady.cons (o := { dst := some 39, op := Op.call { callee := Callee.value (Operand.func 77), args := #[Operand.tmp 38], argTypes := #[39] }, type := 39, pos := "ref.go:42", after := #[{ on := 9, ground := Ground.data }], guard := none }) rfl (fun K hK => ?_) AllReady.nil))
              · go_simp
                refine hK _ _ ?_
                clear hK K
                (try simp only [Act.put, List.setIfInBounds_toArray, List.set_cons_zero, List.set_cons_succ])
                refine wpAny_ready (rs := [10]) (by kernel_rfl) (by simp) ?_
                refine (AllReady.cons (o := { dst := some 39, op := Op.call { callee := Callee.value (Operand.func 77), args := #[Operand.tmp 38], argTypes := #[39] }, type := 39, pos := "ref.go:42", after := #[{ on := 9, ground := Ground.data }], guard := none }) rfl (fun K hK => ?_) AllReady.nil)
                go_simp
                refine (lent_calls X0 x.length cx x (by omega) _ (Kd.C_below HXC.out (below_drew (Below.refl _ _)))).mono ?_
                rintro e w8 ⟨v8, rfl, hO8, hw8⟩
                obtain ⟨A8, n8, c8, rfl, -, hC8⟩ := hO8.reads
                have HO8 := Aside0.mk hO8
                have hb8 : Below Wq.heap.size Wq w8 := Below.trans (below_drew (Below.refl _ _)) hw8
                have HZ8 := Aside0.mk (HZ.out.below (by rw [HS1.out]; omega) hb8)
                have HKF8 := Aside0.mk hb8
                have z0 := pw_cell_below hb8 HZ0.out
                clear hO8 hw8 hC8 hb8
                refine hK _ _ ?_
                clear hK K
                (try simp only [Act.put, List.setIfInBounds_toArray, List.set_cons_zero, List.set_cons_succ])
                refine wpAny_ready (rs := [11]) (by kernel_rfl) (by simp) ?_
                refine (AllReady.cons (o := { dst := some 40, op := Op.buildSlice 28 1 #[(0, Operand.tmp 39)], type := 28, pos := "ref.go:42", after := #[{ on := 10, ground := Ground.data }], guard := none }) rfl (fun K hK => ?_) AllReady.nil)
                go_simp
                refine hK _ _ ?_
                clear hK K
                (try simp only [Act.put, List.setIfInBounds_toArray, List.set_cons_zero, List.set_cons_succ])
                refine wpAny_ready (rs := [12]) (by kernel_rfl) (by simp) ?_
                refine (AllReady.cons (o := { dst := some 41, op := Op.call { callee := Callee.builtin Builtin.append, args := #[Operand.tmp 30, Operand.tmp 40], argTypes := #[28, 28] }, type := 28, pos := "ref.go:42", after := #[{ on := 1, ground := Ground.data }, { on := 11, ground := Ground.data }, { on := 10, ground := Ground.chain }], guard := none }) rfl (fun K hK => ?_) AllReady.nil)
                refine app_blk_step W1.heap.size S (fun j => some j = (Value.slice A8 n8 c8).ownBlock) (.tmp 30) (.tmp 40) (by rfl) rfl (.slice Aq nq cq) (p.1.take q) x A8 n8 c8 (own_FK HO8.out) (fun j hj e => by have h1 := Kd.N_lt HZ.out.row j e.symm; have h2 := Kd.R_base HO8.out j hj.symm; have h3 : Wq.drew.heap.size = Wq.heap.size := rfl; omega) rfl (by simp [Act.eval]) HZ8.out.row (Nat.le_trans HZ.out.chg.kept.1 HKF8.out.size) HNQ.out ?_
                intro v9 w9 hN9 hg9
                obtain ⟨A9, n9, c9, rfl, -, -⟩ := N_open hN9
                have HZ9 := Aside0.mk (HZ8.out.add (Wq := Wq) (by rw [HS1.out]; omega) HZ.out.chg.kept.1 hN9 hg9 (fun j hj => Kd.R_base HO8.out j hj.symm) (Nat.le_trans HZ.out.chg.kept.1 HKF8.out.size))
                have hz9 : w9.heap[gz]? = some (.cells #[.slice Aq nq cq, .int .i64 p.2] 77 (0, 0)) := (hg9.block _ HZ8.out.blkEq (fun e => by have := Kd.N_base HZ8.out.row _ e.symm; have := HS1.out; omega)).trans HZ8.out.blk
                have z9 : w9.cell? ⟨gz, 0, none⟩ = some (.slice Aq nq cq) := by simp [World.cell?, hz9]
                have zf9 : w9.frozen? ⟨gz, 0, none⟩ = false := by simp [World.frozen?, hz9]
                have HG9 := Aside0.mk hg9
                clear hz9 hN9 hg9
                refine hK _ _ ?_
                clear hK K
                (try simp only [Act.put, List.setIfInBounds_toArray, List.set_cons_zero, List.set_cons_succ])
                refine wpAny_take (i := 13) (oi := { dst := some 42, op := Op.fieldAddr 77 (Operand.tmp 5) 0, type := 0, pos := "ref.go:42", after := #[{ on := 0, ground := Ground.phase }, { on := 1, ground := Ground.phase }, { on := 2, ground := Ground.phase }, { on := 3, ground := Ground.phase }, { on := 4, ground := Ground.phase }, { on := 5, ground := Ground.phase }, { on := 6, ground := Ground.phase }, { on := 7, ground := Ground.phase }, { on := 8, ground := Ground.phase }, { on := 9, ground := Ground.phase }, { on := 10, ground := Ground.phase }, { on := 11, ground := Ground.phase }, { on := 12, ground := Ground.phase }], guard := none }) (v := ?_) rfl (by kernel_rfl) (by kernel_rfl) (by kernel_rfl) (fun _ _ _ h => h) (Or.inl ⟨by rfl, ?_⟩) ?_
                rotate_left
                · (intro w; go_simp; (try with_reducible rfl))
                (try simp only [Act.put, List.setIfInBounds_toArray, List.set_cons_zero, List.set_cons_succ])
                refine wpAny_ready (rs := [14]) (by kernel_rfl) (by simp) ?_
                refine (AllReady.cons (o := { dst := none, op := Op.store 28 (Operand.tmp 42) (Operand.tmp 41), type := 0, pos := "ref.go:42", after := #[{ on := 13, ground := Ground.data }, { on := 12, ground := Ground.data }, { on := 12, ground := Ground.chain }, { on := 0, ground := Ground.phase }, { on := 1, ground := Ground.phase }, { on := 2, ground := Ground.phase }, { on := 3, ground := Ground.phase }, { on := 4, ground := Ground.phase }, { on := 5, ground := Ground.phase }, { on := 6, ground := Ground.phase }, { on := 7, ground := Ground.phase }, { on := 8, ground := Ground.phase }, { on := 9, ground := Ground.phase }, { on := 10, ground := Ground.phase }, { on := 11, ground := Ground.phase }, { on := 12, ground := Ground.phase }], guard := none }) rfl (fun K hK => ?_) AllReady.nil)
                go_simp
                refine hK _ _ ?_
                clear hK K
                (try simp only [Act.put, List.setIfInBounds_toArray, List.set_cons_zero, List.set_cons_succ])
                refine wpAny_done (by kernel_rfl) ?_ _
                go_wp2
                go_roundg (gk - 1)
                case measure => have := HK2.out; omega
                case rel =>
                  refine ⟨q + 1, by congr 1, by omega, ⟨by have := HK2.out; omega⟩, ⟨?_⟩⟩
                  obtain ⟨S9, hz⟩ := HZ9.out
                  rw [← HTK.out] at hz
                  exact ⟨_, S9, hz⟩
              · go_simp
                refine (lent_calls X0 x.length cx x (by omega) _ (Kd.C_below HXC.out (below_drew (Below.refl _ _)))).mono ?_
                rintro e w8 ⟨v8, rfl, hO8, hw8⟩
                obtain ⟨A8, n8, c8, rfl, -, hC8⟩ := hO8.reads
                have HO8 := Aside0.mk hO8
                have hb8 : Below Wq.heap.size Wq w8 := Below.trans (below_drew (Below.refl _ _)) hw8
                have HZ8 := Aside0.mk (HZ.out.below (by rw [HS1.out]; omega) hb8)
                have HKF8 := Aside0.mk hb8
                have z0 := pw_cell_below hb8 HZ0.out
                clear hO8 hw8 hC8 hb8
                refine hK _ _ ?_
                clear hK K
                (try simp only [Act.put, List.setIfInBounds_toArray, List.set_cons_zero, List.set_cons_succ])
                refine wpAny_ready (rs := [1, 11]) (by kernel_rfl) (by simp) ?_
                refine (AllReady.cons (o := { dst := some 30, op := Op.load 28 (Operand.tmp 29), type := 28, pos := "ref.go:42", after := #[{ on := 0, ground := Ground.data }], guard := none }) rfl (fun K hK => ?_) (AllReady.cons (o := { dst := some 40, op := Op.buildSlice 28 1 #[(0, Operand.tmp 39)], type := 28, pos := "ref.go:42", after := #[{ on := 10, ground := Ground.data }], guard := none }) rfl (fun K hK => ?_) AllReady.nil))
                · go_simp
                  refine hK _ _ ?_
                  clear hK K
                  (try simp only [Act.put, List.setIfInBounds_toArray, List.set_cons_zero, List.set_cons_succ])
                  refine wpAny_ready (rs := [11]) (by kernel_rfl) (by simp) ?_
                  refine (AllReady.cons (o := { dst := some 40, op := Op.buildSlice 28 1 #[(0, Operand.tmp 39)], type := 28, pos := "ref.go:42", after := #[{ on := 10, ground := Ground.data }], guard := none }) rfl (fun K hK => ?_) AllReady.nil)
                  go_simp
                  refine hK _ _ ?_
                  clear hK K
                  (try simp only [Act.put, List.setIfInBounds_toArray, List.set_cons_zero, List.set_cons_succ])
                  refine wpAny_ready (rs := [12]) (by kernel_rfl) (by simp) ?_
                  refine (AllReady.cons (o := { dst := some 41, op := Op.call { callee := Callee.builtin Builtin.append, args := #[Operand.tmp 30, Operand.tmp 40], argTypes := #[28, 28] }, type := 28, pos := "ref.go:42", after := #[{ on := 1, ground := Ground.data }, { on := 11, ground := Ground.data }, { on := 10, ground := Ground.chain }], guard := none }) rfl (fun K hK => ?_) AllReady.nil)
                  refine app_blk_step W1.heap.size S (fun j => some j = (Value.slice A8 n8 c8).ownBlock) (.tmp 30) (.tmp 40) (by rfl) rfl (.slice Aq nq cq) (p.1.take q) x A8 n8 c8 (own_FK HO8.out) (fun j hj e => by have h1 := Kd.N_lt HZ.out.row j e.symm; have h2 := Kd.R_base HO8.out j hj.symm; have h3 : Wq.drew.heap.size = Wq.heap.size := rfl; omega) rfl (by simp [Act.eval]) HZ8.out.row (Nat.le_trans HZ.out.chg.kept.1 HKF8.out.size) HNQ.out ?_
                  intro v9 w9 hN9 hg9
                  obtain ⟨A9, n9, c9, rfl, -, -⟩ := N_open hN9
                  have HZ9 := Aside0.mk (HZ8.out.add (Wq := Wq) (by rw [HS1.out]; omega) HZ.out.chg.kept.1 hN9 hg9 (fun j hj => Kd.R_base HO8.out j hj.symm) (Nat.le_trans HZ.out.chg.kept.1 HKF8.out.size))
                  have hz9 : w9.heap[gz]? = some (.cells #[.slice Aq nq cq, .int .i64 p.2] 77 (0, 0)) := (hg9.block _ HZ8.out.blkEq (fun e => by have := Kd.N_base HZ8.out.row _ e.symm; have := HS1.out; omega)).trans HZ8.out.blk
                  have z9 : w9.cell? ⟨gz, 0, none⟩ = some (.slice Aq nq cq) := by simp [World.cell?, hz9]
                  have zf9 : w9.frozen? ⟨gz, 0, none⟩ = false := by simp [World.frozen?, hz9]
                  have HG9 := Aside0.mk hg9
                  clear hz9 hN9 hg9
                  refine hK _ _ ?_
                  clear hK K
                  (try simp only [Act.put, List.setIfInBounds_toArray, List.set_cons_zero, List.set_cons_succ])
                  refine wpAny_take (i := 13) (oi := { dst := some 42, op := Op.fieldAddr 77 (Operand.tmp 5) 0, type := 0, pos := "ref.go:42", after := #[{ on := 0, ground := Ground.phase }, { on := 1, ground := Ground.phase }, { on := 2, ground := Ground.phase }, { on := 3, ground := Ground.phase }, { on := 4, ground := Ground.phase }, { on := 5, ground := Ground.phase }, { on := 6, ground := Ground.phase }, { on := 7, ground := Ground.phase }, { on := 8, ground := Ground.phase }, { on := 9, ground := Ground.phase }, { on := 10, ground := Ground.phase }, { on := 11, ground := Ground.phase }, { on := 12, ground := Ground.phase }], guard := none }) (v := ?_) rfl (by kernel_rfl) (by kernel_rfl) (by kernel_rfl) (fun _ _ _ h => h) (Or.inl ⟨by rfl, ?_⟩) ?_
                  rotate_left
                  · (intro w; go_simp; (try with_reducible rfl))
                  (try simp only [Act.put, List.setIfInBounds_toArray, List.set_cons_zero, List.set_cons_succ])
                  refine wpAny_ready (rs := [14]) (by kernel_rfl) (by simp) ?_
                  refine (AllReady.cons (o := { dst := none, op := Op.store 28 (Operand.tmp 42) (Operand.tmp 41), type := 0, pos := "ref.go:42", after := #[{ on := 13, ground := Ground.data }, { on := 12, ground := Ground.data }, { on := 12, ground := Ground.chain }, { on := 0, ground := Ground.phase }, { on := 1, ground := Ground.phase }, { on := 2, ground := Ground.phase }, { on := 3, ground := Ground.phase }, { on := 4, ground := Ground.phase }, { on := 5, ground := Ground.phase }, { on := 6, ground := Ground.phase }, { on := 7, ground := Ground.phase }, { on := 8, ground := Ground.phase }, { on := 9, ground := Ground.phase }, { on := 10, ground := Ground.phase }, { on := 11, ground := Ground.phase }, { on := 12, ground := Ground.phase }], guard := none }) rfl (fun K hK => ?_) AllReady.nil)
                  go_simp
                  refine hK _ _ ?_
                  clear hK K
                  (try simp only [Act.put, List.setIfInBounds_toArray, List.set_cons_zero, List.set_cons_succ])
                  refine wpAny_done (by kernel_rfl) ?_ _
                  go_wp2
                  go_roundg (gk - 1)
                  case measure => have := HK2.out; omega
                  case rel =>
                    refine ⟨q + 1, by congr 1, by omega, ⟨by have := HK2.out; omega⟩, ⟨?_⟩⟩
                    obtain ⟨S9, hz⟩ := HZ9.out
                    rw [← HTK.out] at hz
                    exact ⟨_, S9, hz⟩
                · go_simp
                  refine hK _ _ ?_
                  clear hK K
                  (try simp only [Act.put, List.setIfInBounds_toArray, List.set_cons_zero, List.set_cons_succ])
                  have z0 := pw_cell_below (alloc_below w8 (.cells #[.slice A8 n8 c8] 39)) z0
                  refine wpAny_ready (rs := [1]) (by kernel_rfl) (by simp) ?_
                  refine (AllReady.cons (o := { dst := some 30, op := Op.load 28 (Operand.tmp 29), type := 28, pos := "ref.go:42", after := #[{ on := 0, ground := Ground.data }], guard := none }) rfl (fun K hK => ?_) AllReady.nil)
                  go_simp
                  refine hK _ _ ?_
                  clear hK K
                  (try simp only [Act.put, List.setIfInBounds_toArray, List.set_cons_zero, List.set_cons_succ])
                  refine wpAny_ready (rs := [12]) (by kernel_rfl) (by simp) ?_
                  refine (AllReady.cons (o := { dst := some 41, op := Op.call { callee := Callee.builtin Builtin.append, args := #[Operand.tmp 30, Operand.tmp 40], argTypes := #[28, 28] }, type := 28, pos := "ref.go:42", after := #[{ on := 1, ground := Ground.data }, { on := 11, ground := Ground.data }, { on := 10, ground := Ground.chain }], guard := none }) rfl (fun K hK => ?_) AllReady.nil)
                  refine app_blk_step W1.heap.size S (fun j => some j = (Value.slice A8 n8 c8).ownBlock) (.tmp 30) (.tmp 40) (by rfl) rfl (.slice Aq nq cq) (p.1.take q) x A8 n8 c8 (own_FK HO8.out) (fun j hj e => by have h1 := Kd.N_lt HZ.out.row j e.symm; have h2 := Kd.R_base HO8.out j hj.symm; have h3 : Wq.drew.heap.size = Wq.heap.size := rfl; omega) rfl (by simp [Act.eval]) HZ8.out.row (Nat.le_trans HZ.out.chg.kept.1 HKF8.out.size) HNQ.out ?_
                  intro v9 w9 hN9 hg9
                  obtain ⟨A9, n9, c9, rfl, -, -⟩ := N_open hN9
                  have HZ9 := Aside0.mk (HZ8.out.add (Wq := Wq) (by rw [HS1.out]; omega) HZ.out.chg.kept.1 hN9 hg9 (fun j hj => Kd.R_base HO8.out j hj.symm) (Nat.le_trans HZ.out.chg.kept.1 HKF8.out.size))
                  have hz9 : w9.heap[gz]? = some (.cells #[.slice Aq nq cq, .int .i64 p.2] 77 (0, 0)) := (hg9.block _ HZ8.out.blkEq (fun e => by have := Kd.N_base HZ8.out.row _ e.symm; have := HS1.out; omega)).trans HZ8.out.blk
                  have z9 : w9.cell? ⟨gz, 0, none⟩ = some (.slice Aq nq cq) := by simp [World.cell?, hz9]
                  have zf9 : w9.frozen? ⟨gz, 0, none⟩ = false := by simp [World.frozen?, hz9]
                  have HG9 := Aside0.mk hg9
                  clear hz9 hN9 hg9
                  refine hK _ _ ?_
                  clear hK K
                  (try simp only [Act.put, List.setIfInBounds_toArray, List.set_cons_zero, List.set_cons_succ])
                  refine wpAny_take (i := 13) (oi := { dst := some 42, op := Op.fieldAddr 77 (Operand.tmp 5) 0, type := 0, pos := "ref.go:42", after := #[{ on := 0, ground := Ground.phase }, { on := 1, ground := Ground.phase }, { on := 2, ground := Ground.phase }, { on := 3, ground := Ground.phase }, { on := 4, ground := Ground.phase }, { on := 5, ground := Ground.phase }, { on := 6, ground := Ground.phase }, { on := 7, ground := Ground.phase }, { on := 8, ground := Ground.phase }, { on := 9, ground := Ground.phase }, { on := 10, ground := Ground.phase }, { on := 11, ground := Ground.phase }, { on := 12, ground := Ground.phase }], guard := none }) (v := ?_) rfl (by kernel_rfl) (by kernel_rfl) (by kernel_rfl) (fun _ _ _ h => h) (Or.inl ⟨by rfl, ?_⟩) ?_
                  rotate_left
                  · (intro w; go_simp; (try with_reducible rfl))
                  (try simp only [Act.put, List.setIfInBounds_toArray, List.set_cons_zero, List.set_cons_succ])
                  refine wpAny_ready (rs := [14]) (by kernel_rfl) (by simp) ?_
                  refine (AllReady.cons (o := { dst := none, op := Op.store 28 (Operand.tmp 42) (Operand.tmp 41), type := 0, pos := "ref.go:42", after := #[{ on := 13, ground := Ground.data }, { on := 12, ground := Ground.data }, { on := 12, ground := Ground.chain }, { on := 0, ground := Ground.phase }, { on := 1, ground := Ground.phase }, { on := 2, ground := Ground.phase }, { on := 3, ground := Ground.phase }, { on := 4, ground := Ground.phase }, { on := 5, ground := Ground.phase }, { on := 6, ground := Ground.phase }, { on := 7, ground := Ground.phase }, { on := 8, ground := Ground.phase }, { on := 9, ground := Ground.phase }, { on := 10, ground := Ground.phase }, { on := 11, ground := Ground.phase }, { on := 12, ground := Ground.phase }], guard := none }) rfl (fun K hK => ?_) AllReady.nil)
                  go_simp
                  refine hK _ _ ?_
                  clear hK K
                  (try simp only [Act.put, List.setIfInBounds_toArray, List.set_cons_zero, List.set_cons_succ])
                  refine wpAny_done (by kernel_rfl) ?_ _
                  go_wp2
                  go_roundg (gk - 1)
                  case measure => have := HK2.out; omega
                  case rel =>
                    refine ⟨q + 1, by congr 1, by omega, ⟨by have := HK2.out; omega⟩, ⟨?_⟩⟩
                    obtain ⟨S9, hz⟩ := HZ9.out
                    rw [← HTK.out] at hz
                    exact ⟨_, S9, hz⟩
        · obtain rfl : q = p.1.length := by omega
          have hd1 : decide ((p.1.length : Int) < (p.1.length : Int)) = false := decide_eq_false (by omega)
          clear hB1 hk1
          have hz0 := HZ.out.row
          rw [List.take_length] at hz0
          have HNZ := Kd.N_reads' hz0
          have HFZ := Aside0.mk (show Kd.FK zoneK Wq S (p.1, p.2) [.slice Aq nq cq, .int .i64 p.2] from by
            have h1 := HNZ.1
            have h2 := Kd.N_F hz0
            subst h1
            exact zone_K h2 HNZ.2.1 HI.out)
          have hWq : ∀ k, k < W.heap.size → Wq.heap[k]? = W.heap[k]? := fun k hk => by
            have h4 := HS1.out
            have h5 := HGZ.out
            rw [HZ.out.chg.kept.2 k (by omega) (by omega)]
            exact HB1.out.block k hk
          have HOut := Aside0.mk (Kd.N_step (Kd.N_bound HS.out.1) (fun j hj hlt => hWq j hlt))
          have HTK := Aside0.mk (take_one ([], 0) (by rw [HL.out]; exact hlt) HP.out)
          clear hz0 HNZ hWq
          go_wp2_with (at_builtin; (refine app_zone w.heap.size _ S (.tmp 43) (.tmp 45) rfl rfl u3 (xs.take i) p.1 p.2 Aq nq cq HFZ.out (fun j hj e => by have h1 := (HZ.out.ft j hj).1; have h2 := Kd.N_lt HS.out.1 j e.symm; have h3 := HS1.out; have h4 := HGZ.out; omega) rfl (by simp [Act.eval]) HOut.out HBQ.out.size (by rw [List.length_take]; omega) ?_; intro v9 w9 hN9 hg9); (have HN9 := Aside0.mk hN9; have HG9 := Aside0.mk hg9; clear hN9 hg9))
          clear z0 z1 e0 e1
          go_roundg (g1 - 1)
          case measure => have := HK.out; omega
          case rel =>
            refine ⟨i + 1, by congr 1, by omega, ⟨by have := HK.out; omega⟩, ⟨?_, ?_⟩⟩
            · rw [HTK.out]
              refine Kd.N_mono HN9.out (fun k hk => ?_)
              rcases hk with h1 | h1 | h1
              · exact h1.1
              · have := (HZ.out.ft k h1).1; have h3 := HS1.out; omega
              · have := HBQ.out.size; omega
            · exact HBQ.out.grown HG9.out HBQ.out.size (fun k hk => Kd.N_base HOut.out k hk)
    · obtain rfl : i = n := by omega
      have hd0 : decide ((i : Int) < (i : Int)) = false := decide_eq_false (by omega)
      go_wp2
      go_ret
      have h1 := HS.out.1
      rw [List.take_of_length_le (by rw [HL.out]; omega)] at h1
      exact ⟨_, rfl, Kd.N_bound h1, HS.out.2⟩
end Go.Proofs.Ytkmeipblgdahoaa.Dv
namespace Go.Proofs.Ytkmeipblgdahoaa.Dv
open Go.RowKit Go.Shelf Go.Proofs.YtkmeipblgdahoaaW.PrintWords Go.Proofs.YtkmeipblgdahoaaW.PrintMore Go.Proofs.Ytkmeipblgdahoaa.Base Go.Proofs.Ytkmeipblgdahoaa.Shp
set_option maxRecDepth 100000
set_option linter.unusedVariables false
set_option linter.unusedSimpArgs false
theorem partZ_flat {b zb : Nat} (hb : 0 < b) {zs : List Zn} (h : ZInv b zb zs) : (zs.map flat).map (partZ b) = zs := by
  rw [List.map_map]
  refine (List.map_congr_left (g := id) fun p hp => ?_).trans (List.map_id _)
  obtain ⟨_, _, h4⟩ := h p hp
  show (pieces b ((flat p).1.length / b) (flat p).1, (flat p).2) = p
  rw [flat_count hb h4]
  refine Prod.ext ?_ rfl
  refine List.ext_getElem (by simp [pieces]) fun i h1 h2 => ?_
  have h3 := flat_get (xs := p.1) (k := i) h2 h4
  rw [List.getD_eq_getElem?_getD, List.getElem?_eq_getElem h2] at h3
  show (pieces b p.1.length p.1.flatten)[i]'_ = p.1[i]
  simp only [pieces, List.getElem_map, piece, List.getElem_finRange, Fin.cast_mk]
  exact h3
section
variable {b zb : Nat} {zs zs' : List Zn} {ps' : List Prt}
end
/-- Both devices. -/
structure Two (w : World) (xb rb B : Nat) (z zb b r : Int) (ps : List Prt) (zs : List Zn) (v vr : Value) (D R : Nat → Prop) : Prop where
  dev : Dev w xb B D z zb b r ps v
  ref : RDv w rb B R z zb b r zs vr
  dl : ∀ k, D k → B ≤ k ∧ k < w.heap.size
  rl : ∀ k, R k → B ≤ k ∧ k < w.heap.size
  dr : ∀ k, D k → ¬ R k
  xr : xb ≠ rb
  drb : ¬ D rb
  rxb : ¬ R xb
  bx : B ≤ xb ∧ B ≤ rb
section
variable {w w1 : World} {xb rb B : Nat} {z zb b r : Int} {ps ps' : List Prt} {zs zs' : List Zn} {v vr : Value} {D R : Nat → Prop}
theorem Two.xlt (h : Two w xb rb B z zb b r ps zs v vr D R) : xb < w.heap.size ∧ rb < w.heap.size := ⟨(Array.getElem?_eq_some_iff.1 h.dev.blk).1, (Array.getElem?_eq_some_iff.1 h.ref.blk).1⟩
theorem Two.base (h : Two w xb rb B z zb b r ps zs v vr D R) : B ≤ w.heap.size := by have := h.xlt; have := h.bx; omega
theorem Two.below (h : Two w xb rb B z zb b r ps zs v vr D R) (hb : Below w.heap.size w w1) : Two w1 xb rb B z zb b r ps zs v vr D R :=
  ⟨h.dev.below hb, h.ref.below hb, fun k hk => ⟨(h.dl k hk).1, Nat.lt_of_lt_of_le (h.dl k hk).2 hb.size⟩, fun k hk => ⟨(h.rl k hk).1, Nat.lt_of_lt_of_le (h.rl k hk).2 hb.size⟩, h.dr, h.xr, h.drb, h.rxb, h.bx⟩
theorem Two.devop (h : Two w xb rb B z zb b r ps zs v vr D R) (hD : Dev w1 xb B (fun k => D k ∨ w.heap.size ≤ k) z zb b r ps' v) (hc : Chg w w1 (fun k => D k ∨ w.heap.size ≤ k)) :
    Two w1 xb rb B z zb b r ps' zs v vr (fun k => (D k ∨ w.heap.size ≤ k) ∧ B ≤ k ∧ k < w1.heap.size) R := by
  have hsz := hc.kept.1
  obtain ⟨hx, hr⟩ := h.xlt
  refine ⟨hD.tight (fun k hk h1 h2 => ⟨hk, h1, h2⟩), h.ref.chg hc (fun hs => hs.elim h.drb (fun h1 => by omega)) (fun k hk hs => hs.elim (fun h1 => h.dr k h1 hk) (fun h1 => by have := (h.rl k hk).2; omega)), fun k hk => hk.2, fun k hk => ⟨(h.rl k hk).1, by have := (h.rl k hk).2; omega⟩,
    fun k hk hr => hk.1.elim (fun h1 => h.dr k h1 hr) (fun h1 => by have := (h.rl k hr).2; omega), h.xr, fun hs => hs.1.elim h.drb (fun h1 => by omega), h.rxb, h.bx⟩
theorem Two.refop (h : Two w xb rb B z zb b r ps zs v vr D R) (hR : RDv w1 rb B (fun k => R k ∨ w.heap.size ≤ k) z zb b r zs' vr) (hc : Chg w w1 (fun k => R k ∨ w.heap.size ≤ k)) :
    Two w1 xb rb B z zb b r ps zs' v vr D (fun k => (R k ∨ w.heap.size ≤ k) ∧ B ≤ k ∧ k < w1.heap.size) := by
  have hsz := hc.kept.1
  obtain ⟨hx, hr⟩ := h.xlt
  have hbase : ∀ k, (R k ∨ w.heap.size ≤ k) → B ≤ k := fun k hk => hk.elim (fun h1 => (h.rl k h1).1) (fun h1 => Nat.le_trans h.base h1)
  refine ⟨h.dev.chg hc (fun hs => hs.elim h.rxb (fun h1 => by omega)) (fun k hk hs => hs.elim (fun h1 => h.dr k hk h1) (fun h1 => by have := (h.dl k hk).2; omega)), hR.mono (fun k hk hlt => ⟨hk, hbase k hk, hlt⟩), fun k hk => ⟨(h.dl k hk).1, by have := (h.dl k hk).2; omega⟩, fun k hk => hk.2,
    fun k hk hr => hr.1.elim (fun h1 => h.dr k hk h1) (fun h1 => by have := (h.dl k hk).2; omega), h.xr, h.drb, fun hs => hs.1.elim h.rxb (fun h1 => by omega), h.bx⟩
end
set_option maxHeartbeats 1000000 in
theorem rzones_calls (rb base : Nat) (ok : Nat → Prop) (z zb b r : Int) (zs : List Zn) (v : Value) (hn : zs.length ≤ 1000) (hxs : ∀ p ∈ zs, p.1.length ≤ 5000 ∧ ∀ x ∈ p.1, x.length ≤ 100000000) (w : World) (h : RDv w rb base ok z zb b r zs v) :
    Calls Try.prog 33 #[.pointer (some ⟨rb, 0, none⟩)] w fun e w' => ∃ v', e = .returned v' ∧ Kd.N zoneK 77 w' w.heap.size (fun k => w.heap.size ≤ k ∧ k < w'.heap.size) v' zs ∧ Below w.heap.size w w' := by
  obtain ⟨-, -, -, -, k4⟩ := h.cells
  obtain ⟨A, c, rfl, hc, hC⟩ := Kd.N_reads h.row
  have HC := Aside0.mk hC
  clear h hC
  go_enter Try.func33, Try.ntmps33
  go_wp2_with fail
  refine (lentz_calls A _ c zs hn hxs _ HC.out).mono ?_
  rintro e w2 ⟨v2, rfl, hN, hb⟩
  have HN := Aside0.mk hN
  have HB := Aside0.mk hb
  clear hN hb
  go_wp2
  go_ret
  exact ⟨_, rfl, HN.out, HB.out⟩
end Go.Proofs.Ytkmeipblgdahoaa.Dv
namespace Go.Proofs.Ytkmeipblgdahoaa.Dv
open Go.RowKit Go.Proofs.YtkmeipblgdahoaaW.PrintWords Go.Proofs.YtkmeipblgdahoaaW.PrintMore Go.Proofs.Ytkmeipblgdahoaa.Base Go.Proofs.Ytkmeipblgdahoaa.Shp
set_option maxRecDepth 100000
set_option linter.unusedVariables false
set_option linter.unusedSimpArgs false
/-- A shape in its box. -/
structure Box (w : World) (g : Nat) (z zb b r : Int) : Prop where
  d0 : w.cell? ⟨g, 0, none⟩ = some (.int .i64 z)
  d1 : w.cell? ⟨g, 1, none⟩ = some (.int .i64 zb)
  d2 : w.cell? ⟨g, 2, none⟩ = some (.int .i64 b)
  d3 : w.cell? ⟨g, 3, none⟩ = some (.int .i64 r)
theorem Box.below {w w1 : World} {g : Nat} {z zb b r : Int} (h : Box w g z zb b r) (hb : Below w.heap.size w w1) : Box w1 g z zb b r := ⟨pw_cell_below hb h.d0, pw_cell_below hb h.d1, pw_cell_below hb h.d2, pw_cell_below hb h.d3⟩
theorem Box.new (w : World) (z zb b r : Int) : Box (w.alloc (.cells #[.int .i64 z, .int .i64 zb, .int .i64 b, .int .i64 r] 23)) w.heap.size z zb b r := ⟨by go_simp, by go_simp, by go_simp, by go_simp⟩
theorem Box.belowB {w w1 : World} {g B : Nat} {z zb b r : Int} (h : Box w g z zb b r) (hb : Below B w w1) (hg : g < B) : Box w1 g z zb b r :=
  ⟨by rw [hb.cell hg]; exact h.d0, by rw [hb.cell hg]; exact h.d1, by rw [hb.cell hg]; exact h.d2, by rw [hb.cell hg]; exact h.d3⟩
end Go.Proofs.Ytkmeipblgdahoaa.Dv
namespace Go.Proofs.Ytkmeipblgdahoaa.Dv
open Go.RowKit Go.Proofs.YtkmeipblgdahoaaW.PrintWords Go.Proofs.YtkmeipblgdahoaaW.PrintMore Go.Proofs.Ytkmeipblgdahoaa.Base Go.Proofs.Ytkmeipblgdahoaa.Shp
set_option maxRecDepth 100000
set_option linter.unusedVariables false
set_option linter.unusedSimpArgs false
/-- What a call leaves. -/
def Both (w w' : World) (xb rb B zn zbn bn : Nat) (r : Int) (v vr : Value) : Prop := ∃ zs D R, Two w' xb rb B zn zbn bn r (zs.map flat) zs v vr D R ∧ ZInv bn zbn zs ∧ zs.length = zn ∧ Below B w w'
end Go.Proofs.Ytkmeipblgdahoaa.Dv
namespace Go.Proofs.Ytkmeipblgdahoaa.Dv
open Go.RowKit Go.Proofs.YtkmeipblgdahoaaW.PrintWords Go.Proofs.YtkmeipblgdahoaaW.PrintMore Go.Proofs.Ytkmeipblgdahoaa.Base Go.Proofs.Ytkmeipblgdahoaa.Shp
set_option maxRecDepth 100000
set_option linter.unusedVariables false
set_option linter.unusedSimpArgs false
theorem fit1_calls (g : Nat) (bn : Int) (A : Option Addr) (n c : Nat) (w : World) (h : w.cell? ⟨g, 2, none⟩ = some (.int .i64 bn)) :
    Calls Try.prog 80 #[.slice A n c, .pointer (some ⟨g, 0, none⟩)] w fun e w' => e = .returned (.bool (decide ((n : Int) ≠ bn))) ∧ w = w' := by
  by_cases hb : (n : Int) = bn
  · have hnb : ((n : Int) != bn) = false := by rw [bne_eq_false_iff_eq]; exact hb
    have HN := Aside0.mk hb
    clear hb
    go_enter Try.func80, Try.ntmps80
    go_wp2
    go_ret
    exact ⟨by rw [decide_eq_false (fun h => h HN.out)]; rfl, rfl⟩
  · have hnb : ((n : Int) != bn) = true := by rw [bne_iff_ne]; exact hb
    have HN := Aside0.mk hb
    clear hb
    go_enter Try.func80, Try.ntmps80
    go_wp2
    go_ret
    exact ⟨by rw [decide_eq_true HN.out]; rfl, rfl⟩
set_option maxHeartbeats 1000000 in
theorem index_calls (g : Nat) (bn : Int) (A : Option Addr) (n c : Nat) (xs : List (List UInt8)) (w : World) (h : bytesK.C w A n xs) (hg : w.cell? ⟨g, 2, none⟩ = some (.int .i64 bn)) :
    Calls Try.prog 89 #[.slice A n c, .func (.func 80) #[] #[.pointer (some ⟨g, 0, none⟩)]] w fun e w' => ∃ j : Int, e = .returned (.int .i64 j) ∧ ((j = -1 ∧ ∀ x ∈ xs, (x.length : Int) = bn) ∨ (0 ≤ j ∧ ¬ ∀ x ∈ xs, (x.length : Int) = bn)) ∧ w = w' := by
  obtain ⟨hl, hm⟩ := C_len h
  have HL := Aside0.mk hl
  have HC := Aside0.mk h
  have HG := Aside0.mk hg
  clear h hl hg
  go_enter Try.func89, Try.ntmps89
  go_wp2
  go_loopg [5, 8] n (fun g v5 v8 wr => ∃ i : Nat, v8 = .int .i64 (i : Int) ∧ i ≤ n ∧ Aside0 (g + i = n) ∧ Aside0 (∀ x ∈ xs.take i, (x.length : Int) = bn) ∧ w = wr)
  case atStart => exact ⟨0, rfl, by omega, ⟨rfl⟩, ⟨fun x hx => by simp at hx⟩, rfl⟩
  case round =>
    obtain ⟨i, rfl, hi, HK, HS, rfl⟩ := hrel
    by_cases hlt : i < n
    · obtain ⟨pa, A0, c0, rfl, e0, hk0, hC0⟩ := bytes_at HC.out i hlt
      obtain ⟨x, hx⟩ : ∃ x, xs.getD i [] = x := ⟨_, rfl⟩
      rw [hx] at e0 hk0 hC0
      have hil : i < xs.length := by rw [HL.out]; exact hlt
      have hxm : x ∈ xs := by
        rw [← hx, List.getD_eq_getElem?_getD, List.getElem?_eq_getElem hil]
        exact List.getElem_mem _
      have HTK := Aside0.mk (take_one [] hil hx)
      have HXM := Aside0.mk hxm
      have hlt' : (i : Int) < (n : Int) := by omega
      have hd0 : decide ((i : Int) < (n : Int)) = true := decide_eq_true hlt'
      clear hx hC0 hil hxm
      by_cases hxb : (x.length : Int) = bn
      · have HXB := Aside0.mk hxb
        clear hxb
        go_wp2_with fail
        refine (fit1_calls g bn A0 x.length c0 _ HG.out).mono ?_
        rintro e w2 ⟨rfl, rfl⟩
        rw [decide_eq_false (fun h => h HXB.out)]
        go_wp2
        go_roundg (gk - 1)
        case measure => have := HK.out; omega
        case rel =>
          refine ⟨i + 1, by congr 1, by omega, ⟨by have := HK.out; omega⟩, ⟨fun y hy => ?_⟩, rfl⟩
          rw [HTK.out] at hy
          rcases List.mem_append.1 hy with hy | hy
          · exact HS.out y hy
          · rw [List.mem_singleton.1 hy]; exact HXB.out
      · have HXB := Aside0.mk hxb
        clear hxb
        go_wp2_with fail
        refine (fit1_calls g bn A0 x.length c0 _ HG.out).mono ?_
        rintro e w2 ⟨rfl, rfl⟩
        rw [decide_eq_true HXB.out]
        go_wp2
        go_ret
        exact ⟨(i : Int), rfl, .inr ⟨by omega, fun h => HXB.out (h x HXM.out)⟩, rfl⟩
    · obtain rfl : i = n := by omega
      have hd0 : decide ((i : Int) < (i : Int)) = false := decide_eq_false (by omega)
      go_wp2
      go_ret
      have h9 := HS.out
      rw [List.take_of_length_le (by rw [HL.out]; omega)] at h9
      exact ⟨-1, rfl, .inl ⟨rfl, h9⟩, rfl⟩
theorem contains_calls (g : Nat) (bn : Int) (A : Option Addr) (n c : Nat) (xs : List (List UInt8)) (w : World) (h : bytesK.C w A n xs) (hg : w.cell? ⟨g, 2, none⟩ = some (.int .i64 bn)) (b : Bool) (hb : b = decide (¬ ∀ x ∈ xs, (x.length : Int) = bn)) :
    Calls Try.prog 79 #[.slice A n c, .func (.func 80) #[] #[.pointer (some ⟨g, 0, none⟩)]] w fun e w' => e = .returned (.bool b) ∧ w = w' := by
  have HB := Aside0.mk hb
  have HG := Aside0.mk hg
  clear hb hg
  go_enter Try.func79, Try.ntmps79
  go_wp2_with fail
  refine (index_calls g bn A n c xs _ h HG.out).mono ?_
  rintro e w2 ⟨j, rfl, ⟨rfl, h1⟩ | ⟨h0, h1⟩, rfl⟩
  · have hd : decide ((0 : Int) ≤ -1) = false := rfl
    have H1 := Aside0.mk h1
    clear h1
    go_wp2
    go_ret
    exact ⟨by rw [HB.out, decide_eq_false (fun h => h H1.out)]; rfl, rfl⟩
  · have hd : decide ((0 : Int) ≤ j) = true := decide_eq_true h0
    have H1 := Aside0.mk h1
    clear h1
    go_wp2
    go_ret
    exact ⟨by rw [HB.out, decide_eq_true H1.out]; rfl, rfl⟩
/-- May a zone be? -/
def FitZ (zb bn : Int) (p : Zn) : Prop := ((p.1.length : Nat) : Int) ≤ zb ∧ 0 ≤ p.2 ∧ p.2 ≤ ((p.1.length : Nat) : Int) ∧ ∀ x ∈ p.1, (x.length : Int) = bn
instance (zb bn : Int) (p : Zn) : Decidable (FitZ zb bn p) := by unfold FitZ; infer_instance
set_option maxHeartbeats 1000000 in
theorem fits_calls (z zb bn r : Int) (A : Option Addr) (c : Nat) (p : Zn) (w : World) (h : bytesK.C w A p.1.length p.1) :
    Calls Try.prog 66 #[.agg #[.int .i64 z, .int .i64 zb, .int .i64 bn, .int .i64 r], .agg #[.slice A p.1.length c, .int .i64 p.2]] w fun e w' => e = .returned (.bool (decide (FitZ zb bn p))) ∧ Below w.heap.size w w' := by
  have hm := (C_len h).2
  have HA := Aside0.mk (((Below.refl w.heap.size w).alloc (Nat.le_refl _) (.cells #[.int .i64 z, .int .i64 zb, .int .i64 bn, .int .i64 r] 23)).alloc (by simp) (.cells #[.slice A p.1.length c, .int .i64 p.2] 77))
  have HX := Aside0.mk ((Box.new w z zb bn r).below (alloc_below _ (.cells #[.slice A p.1.length c, .int .i64 p.2] 77)))
  have HC := Aside0.mk h
  clear h
  obtain ⟨n, hn⟩ : ∃ n, p.1.length = n := ⟨_, rfl⟩
  obtain ⟨d, hd⟩ : ∃ d, p.2 = d := ⟨_, rfl⟩
  have HN := Aside0.mk hn
  have HD := Aside0.mk hd
  rw [hn] at hm HA HX HC ⊢
  rw [hd] at HA HX ⊢
  clear hn hd
  by_cases h1 : zb < (n : Int)
  · have hd1 : decide (zb < (n : Int)) = true := decide_eq_true h1
    have H1 := Aside0.mk h1
    clear h1
    go_enter Try.func66, Try.ntmps66
    go_wp2
    go_ret
    exact ⟨by rw [decide_eq_false (fun h => by have h1 := h.1; have h2 := H1.out; have h3 := HN.out; omega)]; rfl, HA.out⟩
  have hd1 : decide (zb < (n : Int)) = false := decide_eq_false h1
  have H1 := Aside0.mk h1
  clear h1
  by_cases h2 : d < 0
  · have hd2 : decide (d < 0) = true := decide_eq_true h2
    have H2 := Aside0.mk h2
    clear h2
    go_enter Try.func66, Try.ntmps66
    go_wp2
    go_ret
    exact ⟨by rw [decide_eq_false (fun h => by have h1 := h.2.1; have h2 := H2.out; have h3 := HD.out; omega)]; rfl, HA.out⟩
  have hd2 : decide (d < 0) = false := decide_eq_false h2
  have H2 := Aside0.mk h2
  clear h2
  by_cases h3 : (n : Int) < d
  · have hd3 : decide ((n : Int) < d) = true := decide_eq_true h3
    have H3 := Aside0.mk h3
    clear h3
    go_enter Try.func66, Try.ntmps66
    go_wp2
    go_ret
    exact ⟨by rw [decide_eq_false (fun h => by have h1 := h.2.2.1; have h2 := H3.out; have h3 := HD.out; have h4 := HN.out; omega)]; rfl, HA.out⟩
  have hd3 : decide ((n : Int) < d) = false := decide_eq_false h3
  have H3 := Aside0.mk h3
  clear h3
  go_enter Try.func66, Try.ntmps66
  go_wp2_with fail
  obtain ⟨b, hb⟩ : ∃ b, decide (¬ ∀ x ∈ p.1, (x.length : Int) = bn) = b := ⟨_, rfl⟩
  refine (contains_calls w.heap.size bn A n c p.1 _ (Kd.C_below HC.out HA.out) HX.out.d2 b hb.symm).mono ?_
  rintro e w2 ⟨rfl, rfl⟩
  have HB := Aside0.mk hb
  clear hb
  have he : (!b) = decide (FitZ zb bn p) := by
    rw [← HB.out]
    by_cases h : ∀ x ∈ p.1, (x.length : Int) = bn
    · rw [decide_eq_false (fun hh => hh h), decide_eq_true (show FitZ zb bn p from ⟨by have := H1.out; have := HN.out; omega, by have := H2.out; have := HD.out; omega, by have := H3.out; have := HN.out; have := HD.out; omega, h⟩)]
      rfl
    · rw [decide_eq_true h, decide_eq_false (fun hh => h hh.2.2.2)]
      rfl
  have HE := Aside0.mk he
  clear he
  go_wp2
  go_ret
  exact ⟨by rw [← HE.out]; rfl, HA.out⟩
end Go.Proofs.Ytkmeipblgdahoaa.Dv
namespace Go.Proofs.Ytkmeipblgdahoaa.Dv
open Go.RowKit Go.Proofs.YtkmeipblgdahoaaW.PrintWords Go.Proofs.YtkmeipblgdahoaaW.PrintMore Go.Proofs.Ytkmeipblgdahoaa.Base Go.Proofs.Ytkmeipblgdahoaa.Shp
set_option maxRecDepth 100000
set_option linter.unusedVariables false
set_option linter.unusedSimpArgs false
set_option maxHeartbeats 1000000 in
theorem grow_calls (m : Nat) (hm : m ≤ 100000000) (w : World) :
    Calls Try.prog 81 #[.slice none 0 0, .int .i64 (m : Int)] w fun e w' => ∃ v, e = .returned v ∧ Go.Proofs.Ytkmeipblgdahoaa.Base.Own w' w.heap.size v [] ∧ Below w.heap.size w w' := by
  by_cases h0 : 0 < m
  · have hd0 : decide ((m : Int) < 0) = false := decide_eq_false (by omega)
    have hd1 : decide (0 < (m : Int)) = true := decide_eq_true (by omega)
    go_enter Try.func81, Try.ntmps81
    go_wp2_with (at_builtin; (refine Kd.R_append_zeros byte (w0 := w) w.heap.size rfl (.tmp 20) (.tmp 21) 39 3 5 (.int .u8 0) 1 rfl Try.underlying39 Try.underlying3 info_u8 rfl (by decide) (by decide) (.slice none 0 0) [] (0 : UInt8) (m : Int) anyB rfl rfl rfl (fun _ _ => trivial) (Kd.R_nil _ _ _ _ _) (by omega) (Below.refl _ _) (Nat.le_refl _) (by simp; omega) ?_); intro v1 w1 hR hB _ _; obtain ⟨A1, c1, rfl, hc1, -⟩ := Kd.R_reads hR; have HR := Aside0.mk hR; have HB := Aside0.mk hB; clear hR hB)
    go_ret
    exact ⟨_, rfl, Kd.R_take HR.out (Nat.zero_le _), HB.out⟩
  · obtain rfl : m = 0 := by omega
    go_enter Try.func81, Try.ntmps81
    go_wp2
    go_ret
    exact ⟨_, rfl, Go.Proofs.Ytkmeipblgdahoaa.Base.Own.nil _ _, Below.refl _ _⟩
theorem flat_len_take {xss : List (List UInt8)} {i : Nat} (h : i < xss.length) : (xss.take (i + 1)).flatten = (xss.take i).flatten ++ xss.getD i [] := by
  rw [take_one [] h rfl, List.flatten_append]
  simp
theorem flat_le {xss : List (List UInt8)} (i : Nat) : (xss.take i).flatten.length ≤ xss.flatten.length := by
  have h : xss.flatten = (xss.take i).flatten ++ (xss.drop i).flatten := by rw [← List.flatten_append, List.take_append_drop]
  rw [h, List.length_append]
  omega
set_option maxHeartbeats 4000000 in
theorem concat_calls (A : Option Addr) (n c : Nat) (xss : List (List UInt8)) (hf : xss.flatten.length ≤ 100000000) (w : World) (h : bytesK.C w A n xss) :
    Calls Try.prog 67 #[.slice A n c] w fun e w' => ∃ v, e = .returned v ∧ Go.Proofs.Ytkmeipblgdahoaa.Base.Own w' w.heap.size v xss.flatten ∧ Below w.heap.size w w' := by
  obtain ⟨hl, hm⟩ := C_len h
  have HL := Aside0.mk hl
  have HC := Aside0.mk h
  clear h hl
  go_enter Try.func67, Try.ntmps67
  go_wp2
  go_loopg [3, 5, 11] n (fun g v3 v5 v11 wr => ∃ i s : Nat, v11 = .int .i64 (i : Int) ∧ v3 = .int .i64 (s : Int) ∧ i ≤ n ∧ s ≤ 100000000 ∧ Aside0 (g + i = n) ∧ Aside0 (s = (xss.take i).flatten.length) ∧ w = wr)
  case atStart => exact ⟨0, 0, rfl, rfl, by omega, by omega, ⟨rfl⟩, ⟨by simp⟩, rfl⟩
  case round =>
    obtain ⟨i, s, rfl, rfl, hi, hs, HK, HS, rfl⟩ := hrel
    by_cases hlt : i < n
    · obtain ⟨pa, A0, c0, rfl, e0, hk0, hC0⟩ := bytes_at HC.out i hlt
      obtain ⟨x, hx⟩ : ∃ x, xss.getD i [] = x := ⟨_, rfl⟩
      rw [hx] at e0 hk0 hC0
      have hnew : (xss.take (i + 1)).flatten.length = s + x.length := by rw [flat_len_take (by rw [HL.out]; exact hlt), List.length_append, hx, HS.out]
      have hsx : s + x.length ≤ 100000000 := by have := flat_le (xss := xss) (i + 1); omega
      have HN := Aside0.mk hnew
      have hlt' : (i : Int) < (n : Int) := by omega
      have hd0 : decide ((i : Int) < (n : Int)) = true := decide_eq_true hlt'
      have hd1 : decide ((s : Int) + (x.length : Int) < 0) = false := decide_eq_false (by omega)
      clear hx hC0 hnew
      go_wp2
      go_roundg (gk - 1)
      case measure => have := HK.out; omega
      case rel => exact ⟨i + 1, s + x.length, by congr 1, by congr 1, by omega, by omega, ⟨by have := HK.out; omega⟩, ⟨HN.out.symm⟩, rfl⟩
    · obtain rfl : i = n := by omega
      have hd0 : decide ((i : Int) < (i : Int)) = false := decide_eq_false (by omega)
      go_wp2_with fail
      refine (grow_calls s hs _).mono ?_
      rintro e w2 ⟨v2, rfl, hO2, hw2⟩
      have HO2 := Aside0.mk hO2
      have HB2 := Aside0.mk hw2
      clear hO2 hw2
      go_wp2
      go_loopg [6, 8, 27] i (fun g v6 v8 v27 wr => ∃ q : Nat, v27 = .int .i64 (q : Int) ∧ q ≤ i ∧ Aside0 (g + q = i) ∧ Aside0 (Go.Proofs.Ytkmeipblgdahoaa.Base.Own wr w.heap.size v6 (xss.take q).flatten ∧ Below w.heap.size w wr))
      case atStart => exact ⟨0, rfl, by omega, ⟨rfl⟩, ⟨by rw [List.take_zero]; exact HO2.out, HB2.out⟩⟩
      case round =>
        obtain ⟨q, rfl, hq, HK2, HS2⟩ := hrel
        by_cases hql : q < i
        · obtain ⟨pa, A0, c0, rfl, e0, hk0, hC0⟩ := bytes_at (Kd.C_below HC.out HS2.out.2) q hql
          obtain ⟨x, hx⟩ : ∃ x, xss.getD q [] = x := ⟨_, rfl⟩
          rw [hx] at e0 hk0 hC0
          have HTK := Aside0.mk (flat_len_take (xss := xss) (i := q) (by rw [HL.out]; exact hql))
          have hsx : (xss.take q).flatten.length + x.length ≤ 100000000 := by
            have h1 := flat_le (xss := xss) (q + 1)
            rw [HTK.out, List.length_append, hx] at h1
            omega
          have HSX := Aside0.mk hsx
          have HXE := Aside0.mk hx
          have HCX := Aside0.mk hC0
          have hlt' : (q : Int) < (i : Int) := by omega
          have hd0 : decide ((q : Int) < (i : Int)) = true := decide_eq_true hlt'
          clear hx hC0 hsx
          go_wp2_with (at_builtin; (refine app_row (w0 := w) w.heap.size (.tmp 31) (.tmp 32) rfl rfl _ (xss.take q).flatten x A0 x.length c0 rfl rfl HS2.out.1 HCX.out HS2.out.2 HS2.out.2.size (by have := HSX.out; omega) ?_); intro v9 w9 hO9 hB9 _; have HO9 := Aside0.mk hO9; have HB9 := Aside0.mk hB9; clear hO9 hB9)
          go_roundg (gk - 1)
          case measure => have := HK2.out; omega
          case rel => exact ⟨q + 1, by congr 1, by omega, ⟨by have := HK2.out; omega⟩, ⟨by rw [HTK.out, HXE.out]; exact HO9.out, HB9.out⟩⟩
        · obtain rfl : q = i := by omega
          have hd0 : decide ((q : Int) < (q : Int)) = false := decide_eq_false (by omega)
          go_wp2
          go_ret
          have h9 := HS2.out
          rw [List.take_of_length_le (by rw [HL.out]; omega)] at h9
          exact ⟨_, rfl, h9.1, h9.2⟩
end Go.Proofs.Ytkmeipblgdahoaa.Dv
namespace Go.Proofs.Ytkmeipblgdahoaa.Dv
open Go.RowKit Go.Proofs.YtkmeipblgdahoaaW.PrintWords Go.Proofs.YtkmeipblgdahoaaW.PrintMore Go.Proofs.Ytkmeipblgdahoaa.Base Go.Proofs.Ytkmeipblgdahoaa.Shp
set_option maxRecDepth 100000
set_option linter.unusedVariables false
set_option linter.unusedSimpArgs false
def putF (zs : List Zn) (i : Nat) (_ : Prt) : Prt := flat (zs.getD i ([], 0))
theorem put_all {zs : List Zn} {n : Nat} (h : zs.length = n) : (List.replicate n (([], 0) : Prt)).mapIdx (putF zs) = zs.map flat := by
  apply List.ext_getElem?
  intro i
  rw [List.getElem?_mapIdx, List.getElem?_map, List.getElem?_replicate]
  by_cases hi : i < n
  · rw [if_pos hi, List.getElem?_eq_getElem (by omega)]
    show some (putF zs i ([], 0)) = some (flat _)
    unfold putF
    rw [List.getD_eq_getElem?_getD, List.getElem?_eq_getElem (by omega)]
    rfl
  · rw [if_neg hi, List.getElem?_eq_none (by omega)]
    rfl
end Go.Proofs.Ytkmeipblgdahoaa.Dv
namespace Go.Proofs.Ytkmeipblgdahoaa.Dv
open Go.RowKit Go.Proofs.YtkmeipblgdahoaaW.PrintWords Go.Proofs.YtkmeipblgdahoaaW.PrintMore Go.Proofs.Ytkmeipblgdahoaa.Base Go.Proofs.Ytkmeipblgdahoaa.Shp
set_option maxRecDepth 100000
set_option linter.unusedVariables false
set_option linter.unusedSimpArgs false
set_option maxRecDepth 100000 in
set_option maxHeartbeats 4000000 in
theorem open_gen (zn zbn bn : Nat) (r : Int) (hrt : Rt zn zbn bn r) (hI : IsI zn ∧ IsI zbn ∧ IsI bn ∧ IsI r) (hzb2 : zbn ≤ 4096) (hb1 : 64 ≤ bn) (hb2 : bn ≤ 4096) (A : Option Addr) (n c : Nat) (zs : List Zn) (hlz : zs.length = zn) (w : World) (hC : zoneK.C w A n zs) :
    Calls Try.prog 34 #[.agg #[.int .i64 (zn : Int), .int .i64 (zbn : Int), .int .i64 (bn : Int), .int .i64 r], .slice A n c] w
      fun e w' => (((∀ p ∈ zs, FitZ zbn bn p) ∧ ∃ xb v, e = .returned (.pointer (some ⟨xb, 0, none⟩)) ∧ Dev w' xb w.heap.size (fun k => w.heap.size ≤ k) zn zbn bn r (zs.map flat) v ∧ w.heap.size ≤ xb) ∨ ((¬ ∀ p ∈ zs, FitZ zbn bn p) ∧ e = .returned (.pointer none))) ∧ Below w.heap.size w w' := by
  obtain ⟨hl, hm⟩ := C_len hC
  obtain rfl : n = zn := by omega
  have HL := Aside0.mk hl
  have HC := Aside0.mk hC
  have HRT := Aside0.mk hrt
  have HII := Aside0.mk hI
  have HA := Aside0.mk (alloc_below w (.cells #[.int .i64 (n : Int), .int .i64 (zbn : Int), .int .i64 (bn : Int), .int .i64 r] 23))
  have HX := Aside0.mk (Box.new w n zbn bn r)
  obtain ⟨d0, d1, d2, d3⟩ := HX.out
  clear hl hlz hC hrt hI
  go_enter Try.func34, Try.ntmps34
  go_wp2_with fail
  obtain ⟨W, hW⟩ : ∃ W, (w.alloc (.cells #[.int .i64 (n : Int), .int .i64 (zbn : Int), .int .i64 (bn : Int), .int .i64 r] 23)) = W := ⟨_, rfl⟩
  obtain ⟨g, hg⟩ : ∃ g, w.heap.size = g := ⟨_, rfl⟩
  rw [hW] at HX HA ⊢
  rw [hg] at HX ⊢
  have HG := Aside0.mk hg
  clear hW hg d0 d1 d2 d3
  refine (new_calls (n : Int) (zbn : Int) (bn : Int) r HII.out.1 HII.out.2.1 HII.out.2.2.1 HII.out.2.2.2 _).mono ?_
  rintro e w1 ⟨⟨hn, _⟩ | ⟨_, xb, v, rfl, hD, hxb⟩, hw1⟩
  · exact absurd HRT.out hn
  obtain ⟨A1, m, cp, rfl, hm1, hmc, -, hmm⟩ := hD.form
  have hgB : g < W.heap.size := World.block_lt_of_cell? _ _ HX.out.d0
  have HD := Aside0.mk hD
  have HXB := Aside0.mk hxb
  have HB1 := Aside0.mk (below_go HA.out hw1)
  have HX1 := Aside0.mk (HX.out.below hw1)
  have HWB := Aside0.mk (show w.heap.size ≤ W.heap.size from HA.out.size)
  have HGB := Aside0.mk hgB
  obtain rfl : m = n := by rw [hm1, List.length_replicate]; omega
  obtain ⟨d0, d1, d2, d3⟩ := HX1.out
  clear hm1 hD hxb hw1 hgB
  go_wp2
  clear d0 d1 d2 d3
  go_loopg [6, 7, 21] m (fun gk v6 v7 v21 wr => ∃ i : Nat, v21 = .int .i64 (i : Int) ∧ i ≤ m ∧ Aside0 (gk + i = m) ∧ Aside0 (Dev wr xb W.heap.size (fun k => W.heap.size ≤ k) m zbn bn r (upto (putF zs) i (List.replicate m ([], 0))) (.slice A1 m cp) ∧ Below w.heap.size w wr ∧ Below W.heap.size w1 wr ∧ ∀ p ∈ zs.take i, FitZ zbn bn p))
  case atStart => exact ⟨0, rfl, by omega, ⟨rfl⟩, ⟨by rw [upto_zero]; exact HD.out, HB1.out, (Below.refl _ _), fun p hp => by simp at hp⟩⟩
  case round =>
    obtain ⟨i, rfl, hi, HK, HS⟩ := hrel
    rename World => wr
    obtain ⟨d0, d1, d2, d3⟩ := HX1.out.belowB HS.out.2.2.1 HGB.out
    by_cases hlt : i < m
    · obtain ⟨p, hp⟩ : ∃ p, zs.getD i ([], 0) = p := ⟨_, rfl⟩
      obtain ⟨pa, B0, k0, rfl, e0, e1, hk0, hB, hIp⟩ := zones_at (Kd.C_below HC.out HS.out.2.1) i hlt hp
      have hil : i < zs.length := by rw [HL.out]; exact hlt
      have HTK := Aside0.mk (take_one ([], 0) hil hp)
      have HPM := Aside0.mk (show p ∈ zs by rw [← hp, List.getD_eq_getElem?_getD, List.getElem?_eq_getElem hil]; exact List.getElem_mem _)
      clear hil
      have HP := Aside0.mk hp
      have HIP := Aside0.mk hIp
      have HBY := Aside0.mk hB
      have hlt' : (i : Int) < (m : Int) := by omega
      have hd9 : decide ((i : Int) < (m : Int)) = true := decide_eq_true hlt'
      have HAZ := Aside0.mk (alloc_below wr (.cells #[.slice B0 p.1.length k0, .int .i64 p.2] 77))
      have HZ0 := Aside0.mk (show (wr.alloc (.cells #[.slice B0 p.1.length k0, .int .i64 p.2] 77)).heap[wr.heap.size]? = some (.cells #[.slice B0 p.1.length k0, .int .i64 p.2] 77 (0, 0)) from blk_here rfl)
      clear hp hIp hB hk0
      have d0 := pw_cell_below HAZ.out d0
      have d1 := pw_cell_below HAZ.out d1
      have d2 := pw_cell_below HAZ.out d2
      have d3 := pw_cell_below HAZ.out d3
      go_wp2_with fail
      obtain ⟨V, hV⟩ : ∃ V, wr.alloc (.cells #[.slice B0 p.1.length k0, .int .i64 p.2] 77) = V := ⟨_, rfl⟩
      obtain ⟨gz, hgz⟩ : ∃ gz, wr.heap.size = gz := ⟨_, rfl⟩
      rw [hV] at HAZ HZ0 d0 d1 d2 d3 ⊢
      rw [hgz] at HZ0 ⊢
      clear hV hgz
      refine (fits_calls (m : Int) (zbn : Int) (bn : Int) r B0 k0 p _ (Kd.C_below HBY.out HAZ.out)).mono ?_
      rintro e w3 ⟨rfl, hw3⟩
      by_cases hfit : FitZ (zbn : Int) (bn : Int) p
      case neg =>
        rw [decide_eq_false hfit]
        have HNF := Aside0.mk hfit
        have HB3 := Aside0.mk (HS.out.2.1.trans ((below_go HAZ.out hw3).mono HS.out.2.1.size))
        clear hfit hw3 d0 d1 d2 d3
        go_wp2
        go_ret
        exact ⟨.inr ⟨fun h => HNF.out (h p HPM.out), rfl⟩, HB3.out⟩
      rw [decide_eq_true hfit]
      have HFIT := Aside0.mk hfit
      have hfl : p.1.flatten.length ≤ 100000000 := by
        rw [flat_len (b := bn) (fun x hx => by have := hfit.2.2.2 x hx; omega)]
        have : p.1.length * bn ≤ 4096 * 4096 := Nat.mul_le_mul (by have := hfit.1; omega) hb2
        omega
      clear hfit
      have hbz : Below wr.heap.size wr w3 := below_go HAZ.out hw3
      have hz3 : w3.heap[gz]? = some (.cells #[.slice B0 p.1.length k0, .int .i64 p.2] 77 (0, 0)) := (hw3.block gz (Array.getElem?_eq_some_iff.1 HZ0.out).1).trans HZ0.out
      obtain ⟨z0, z1⟩ : w3.cell? ⟨gz, 0, none⟩ = some (.slice B0 p.1.length k0) ∧ w3.cell? ⟨gz, 1, none⟩ = some (.int .i64 p.2) := ⟨by simp [World.cell?, hz3], by simp [World.cell?, hz3]⟩
      have HD3 := Aside0.mk (HS.out.1.below hbz)
      have HB3 := Aside0.mk hbz
      have HBY3 := Aside0.mk (Kd.C_below HBY.out hbz)
      obtain ⟨-, -, -, -, k4⟩ := HD3.out.cells
      obtain ⟨q, hq⟩ : ∃ q, (upto (putF zs) i (List.replicate m ([], 0))).getD i ([], 0) = q := ⟨_, rfl⟩
      obtain ⟨ad, cp', BB, kk, oki, hv, c0, c1, hkk, hI, hBB, f0, f1, hoa, hax, hal, -, -, -, -⟩ := HD3.out.part (j := i) (by rw [upto_len, List.length_replicate]; exact hlt) hq
      obtain ⟨rfl, rfl⟩ : A1 = some ad ∧ cp = cp' := by simp only [Value.slice.injEq] at hv; exact ⟨hv.1, hv.2.2⟩
      have hab : (ad.add (i * 2)).block = ad.block := add_block _ _
      have HAB := Aside0.mk hab
      have HAL := Aside0.mk hal
      have HOA := Aside0.mk hoa
      have hn1 : ad.add (i * 2) ≠ ⟨(ad.add (i * 2)).block, (ad.add (i * 2)).off + 1, none⟩ := fun e => by have := congrArg Addr.off e; simp at this
      have hn2 := hn1.symm
      clear hbz hz3 hq hv hI hBB hab hoa hax hal hkk hw3 d0 d1 d2 d3 e0 e1
      go_wp2
      go_region_with (go_at_call 67; go_loud (refine (concat_calls B0 p.1.length k0 p.1 hfl _ (Kd.C_below HBY3.out (below_drew (Below.refl _ _)))).mono ?_; rintro e w8 ⟨v8, rfl, hO8, hw8⟩; obtain ⟨A8, n8, c8, rfl, -, -⟩ := Go.Proofs.Ytkmeipblgdahoaa.Base.Own.reads hO8); go_loud (have k4 := pw_cell_below (w := w3.drew) hw8 k4; have z0 := pw_cell_below (w := w3.drew) hw8 z0; have z1 := pw_cell_below (w := w3.drew) hw8 z1; have c0 := pw_cell_below (w := w3.drew) hw8 c0; have c1 := pw_cell_below (w := w3.drew) hw8 c1; have f0 := pw_frozen_below (w := w3.drew) (p := ad.add (i * 2)) hw8 (by show (ad.add (i * 2)).block < _; rw [HAB.out]; exact HAL.out) f0; have f1 := pw_frozen_below (w := w3.drew) (p := ⟨(ad.add (i * 2)).block, (ad.add (i * 2)).off + 1, none⟩) hw8 (by show (ad.add (i * 2)).block < _; rw [HAB.out]; exact HAL.out) f1))
      all_goals
        have HO8 := Aside0.mk hO8
        have HW8 := Aside0.mk hw8
        clear k4 z0 z1 c0 c1 f0 f1 hO8 hw8 hn1 hn2
        go_wp2
        go_roundg (gk - 1)
        case measure => have := HK.out; omega
        case rel =>
          have hsz := HB3.out.size
          have hws := HWB.out
          have hwr := HS.out.2.2.1.size
          have hww : W.heap.size ≤ w1.heap.size := by have := (Array.getElem?_eq_some_iff.1 HD.out.blk).1; have := HXB.out; omega
          have hb8 : Below W.heap.size w1 w8 := HS.out.2.2.1.trans ((below_go HB3.out (Below.trans (below_drew (Below.refl _ _)) HW8.out)).mono (by omega))
          have hc8 : Below w.heap.size w w8 := HS.out.2.1.trans ((below_go HB3.out (Below.trans (below_drew (Below.refl _ _)) HW8.out)).mono (by omega))
          have hob : W.heap.size ≤ (ad.add (i * 2)).block := by rw [HAB.out]; exact HOA.out
          refine ⟨i + 1, by congr 1, by omega, ⟨by have := HK.out; omega⟩, ⟨?_, Below.setCell (Below.setCell hc8 (p := ad.add (i * 2)) (by omega) _) (p := ⟨(ad.add (i * 2)).block, (ad.add (i * 2)).off + 1, none⟩) (by show _ ≤ (ad.add (i * 2)).block; omega) _, Below.setCell (Below.setCell hb8 (p := ad.add (i * 2)) hob _) (p := ⟨(ad.add (i * 2)).block, (ad.add (i * 2)).off + 1, none⟩) hob _, fun y hy => by
            rw [HTK.out] at hy
            rcases List.mem_append.1 hy with hy | hy
            · exact HS.out.2.2.2 y hy
            · rw [List.mem_singleton.1 hy]; exact HFIT.out⟩⟩
          have h9 := (HD3.out.below (below_drew (Below.refl _ _))).put (j := i) (by rw [upto_len, List.length_replicate]; exact hlt) HW8.out HO8.out (fun k hk => by have h5 : w3.drew.heap.size = w3.heap.size := rfl; omega) (d := p.2) HIP.out
          rw [show ((p.1.flatten, p.2) : Prt) = putF zs i ((List.replicate m (([], 0) : Prt)).getD i ([], 0)) by unfold putF; rw [HP.out]; rfl, upto_set _ (by rw [List.length_replicate]; exact hlt)] at h9
          exact h9
    · obtain rfl : i = m := by omega
      have hd9 : decide ((i : Int) < (i : Int)) = false := decide_eq_false (by omega)
      go_wp2
      go_ret
      have h9 := HS.out.1
      rw [show upto (putF zs) i (List.replicate i ([], 0)) = (List.replicate i ([], 0)).mapIdx (putF zs) from by have := upto_all (putF zs) (List.replicate i ([], 0)); rwa [List.length_replicate] at this, put_all HL.out] at h9
      have h8 := HS.out.2.2.2
      rw [List.take_of_length_le (by rw [HL.out]; omega)] at h8
      exact ⟨.inl ⟨h8, xb, _, rfl, ⟨h9.blk, Kd.S_lower (Kd.S_mono h9.row (fun k hk => Nat.le_trans HWB.out hk)) HWB.out⟩, Nat.le_trans HWB.out HXB.out⟩, HS.out.2.1⟩
end Go.Proofs.Ytkmeipblgdahoaa.Dv
namespace Go.Proofs.Ytkmeipblgdahoaa.Dv
open Go.RowKit Go.Proofs.YtkmeipblgdahoaaW.PrintWords Go.Proofs.YtkmeipblgdahoaaW.PrintMore Go.Proofs.Ytkmeipblgdahoaa.Base Go.Proofs.Ytkmeipblgdahoaa.Shp
set_option maxRecDepth 100000
set_option linter.unusedVariables false
set_option linter.unusedSimpArgs false
set_option maxRecDepth 100000 in
set_option maxHeartbeats 4000000 in
theorem ropen_gen (zn zbn bn : Nat) (r : Int) (hrt : Rt zn zbn bn r) (hI : IsI zn ∧ IsI zbn ∧ IsI bn ∧ IsI r) (hz2 : zn ≤ 256) (hzb2 : zbn ≤ 4096) (hb1 : 64 ≤ bn) (hb2 : bn ≤ 4096) (A : Option Addr) (n c : Nat) (zs : List Zn) (hlz : zs.length = zn) (w : World) (hC : zoneK.C w A n zs) :
    Calls Try.prog 56 #[.agg #[.int .i64 (zn : Int), .int .i64 (zbn : Int), .int .i64 (bn : Int), .int .i64 r], .slice A n c] w
      fun e w' => (((∀ p ∈ zs, FitZ zbn bn p) ∧ ∃ rb v, e = .returned (.pointer (some ⟨rb, 0, none⟩)) ∧ RDv w' rb w.heap.size (fun k => w.heap.size ≤ k) zn zbn bn r zs v ∧ w.heap.size ≤ rb) ∨ ((¬ ∀ p ∈ zs, FitZ zbn bn p) ∧ e = .returned (.pointer none))) ∧ Below w.heap.size w w' := by
  obtain ⟨hl, hm⟩ := C_len hC
  obtain rfl : n = zn := by omega
  have HL := Aside0.mk hl
  have HC := Aside0.mk hC
  have HRT := Aside0.mk hrt
  have HII := Aside0.mk hI
  have HA := Aside0.mk (alloc_below w (.cells #[.int .i64 (n : Int), .int .i64 (zbn : Int), .int .i64 (bn : Int), .int .i64 r] 23))
  have HX := Aside0.mk (Box.new w n zbn bn r)
  obtain ⟨d0, d1, d2, d3⟩ := HX.out
  clear hl hlz hC hrt hI
  go_enter Try.func56, Try.ntmps56
  go_wp2_with fail
  obtain ⟨W, hW⟩ : ∃ W, (w.alloc (.cells #[.int .i64 (n : Int), .int .i64 (zbn : Int), .int .i64 (bn : Int), .int .i64 r] 23)) = W := ⟨_, rfl⟩
  obtain ⟨g, hg⟩ : ∃ g, w.heap.size = g := ⟨_, rfl⟩
  rw [hW] at HX HA ⊢
  rw [hg] at HX ⊢
  have HG := Aside0.mk hg
  clear hW hg d0 d1 d2 d3
  refine (ref_right_calls (n : Int) (zbn : Int) (bn : Int) r HII.out.1 HII.out.2.1 HII.out.2.2.1 HII.out.2.2.2 _).mono ?_
  rintro e w1 ⟨rfl, hw1⟩
  rw [decide_eq_true HRT.out]
  have HX1 := Aside0.mk (HX.out.below hw1)
  have HB1 := Aside0.mk (below_go HA.out hw1)
  have hgB : g < w1.heap.size := World.block_lt_of_cell? _ _ HX1.out.d0
  have HGB := Aside0.mk hgB
  obtain ⟨d0, d1, d2, d3⟩ := HX1.out
  clear hw1 hgB
  go_wp2
  clear d0 d1 d2 d3
  go_loopg [6, 7, 8] n (fun gk v6 v7 v8 wr => ∃ i : Nat, v6 = .int .i64 (i : Int) ∧ i ≤ n ∧ Aside0 (gk + i = n) ∧ Aside0 (Below w1.heap.size w1 wr ∧ ∀ p ∈ zs.take i, FitZ zbn bn p))
  case atStart => exact ⟨0, rfl, by omega, ⟨rfl⟩, ⟨Below.refl _ _, fun p hp => by simp at hp⟩⟩
  case round =>
    obtain ⟨i, rfl, hi, HK, HS⟩ := hrel
    obtain ⟨g1, rfl⟩ : ∃ g1 : Nat, g1 = gk := ⟨_, rfl⟩
    rename World => wr
    obtain ⟨d0, d1, d2, d3⟩ := HX1.out.below HS.out.1
    have HBR := Aside0.mk (HB1.out.trans (HS.out.1.mono HB1.out.size))
    by_cases hlt : i < n
    · obtain ⟨p, hp⟩ : ∃ p, zs.getD i ([], 0) = p := ⟨_, rfl⟩
      obtain ⟨pa, B0, k0, rfl, e0, e1, hk0, hB, hIp⟩ := zones_at (Kd.C_below HC.out HBR.out) i hlt hp
      have hpm := (C_len hB).2
      have hil : i < zs.length := by rw [HL.out]; exact hlt
      have HTK := Aside0.mk (take_one ([], 0) hil hp)
      have HPM := Aside0.mk (show p ∈ zs by rw [← hp, List.getD_eq_getElem?_getD, List.getElem?_eq_getElem hil]; exact List.getElem_mem _)
      have HBY := Aside0.mk hB
      have hlt' : (i : Int) < (n : Int) := by omega
      have hd9 : decide ((i : Int) < (n : Int)) = true := decide_eq_true hlt'
      clear hil hp hIp hB hk0
      by_cases h1 : zbn < p.1.length
      · have hd1 : decide (zbn < p.1.length) = true := decide_eq_true h1
        have H1 := Aside0.mk h1
        clear h1
        go_wp2
        go_ret
        exact ⟨.inr ⟨fun h => by have h2 := (h p HPM.out).1; have := H1.out; omega, rfl⟩, HBR.out⟩
      have hd1 : decide (zbn < p.1.length) = false := decide_eq_false h1
      by_cases h2 : p.2 < 0
      · have hd2 : decide (p.2 < 0) = true := decide_eq_true h2
        have H2 := Aside0.mk h2
        clear h2 h1
        go_wp2
        go_ret
        exact ⟨.inr ⟨fun h => by have h2 := (h p HPM.out).2.1; have := H2.out; omega, rfl⟩, HBR.out⟩
      have hd2 : decide (p.2 < 0) = false := decide_eq_false h2
      by_cases h3 : ((p.1.length : Nat) : Int) < p.2
      · have hd3 : decide (((p.1.length : Nat) : Int) < p.2) = true := decide_eq_true h3
        have H3 := Aside0.mk h3
        clear h3 h2 h1
        go_wp2
        go_ret
        exact ⟨.inr ⟨fun h => by have h2 := (h p HPM.out).2.2.1; have := H3.out; omega, rfl⟩, HBR.out⟩
      have hd3 : decide (((p.1.length : Nat) : Int) < p.2) = false := decide_eq_false h3
      have HH := Aside0.mk (And.intro h1 (And.intro h2 h3))
      clear h1 h2 h3
      go_wp2
      clear hd1 hd2 hd3 e0 e1 d0 d1 d2 d3
      go_loopg [8] p.1.length (fun gk v8 wq => ∃ q : Nat, v8 = .int .i64 (q : Int) ∧ q ≤ p.1.length ∧ Aside0 (gk + q = p.1.length) ∧ Aside0 (Below w1.heap.size w1 wq ∧ ∀ x ∈ p.1.take q, (x.length : Int) = (bn : Int)))
      case atStart => exact ⟨0, rfl, by omega, ⟨rfl⟩, ⟨HS.out.1, fun x hx => by simp at hx⟩⟩
      case round =>
        obtain ⟨q, rfl, hq, HK2, HS2⟩ := hrel
        rename World => wq
        obtain ⟨d0, d1, d2, d3⟩ := HX1.out.below HS2.out.1
        have HBQ := Aside0.mk (HB1.out.trans (HS2.out.1.mono HB1.out.size))
        by_cases hql : q < p.1.length
        · obtain ⟨pp, hpp⟩ : ∃ pp, zs.getD i ([], 0) = pp := ⟨_, rfl⟩
          have hp9 : zs.getD i ([], 0) = p := by
            have h9 := HTK.out
            have hil : i < zs.length := by rw [HL.out]; exact hlt
            rw [take_one ([], 0) hil rfl] at h9
            have := List.append_cancel_left h9
            simpa using this
          obtain ⟨pa', C0, k1, hpa, e0, e1, hk1, hB, -⟩ := zones_at (Kd.C_below HC.out HBQ.out) i hlt hp9
          obtain rfl : pa = pa' := by injection hpa
          obtain ⟨pb, D0, k2, rfl, f0, hk2, hD⟩ := bytes_at hB q hql
          obtain ⟨x, hx⟩ : ∃ x, p.1.getD q [] = x := ⟨_, rfl⟩
          rw [hx] at f0 hk2 hD
          have HTX := Aside0.mk (take_one [] hql hx)
          have HXM := Aside0.mk (show x ∈ p.1 by rw [← hx, List.getD_eq_getElem?_getD, List.getElem?_eq_getElem hql]; exact List.getElem_mem _)
          have hq' : (q : Int) < (p.1.length : Int) := by omega
          have hd3 : decide ((q : Int) < (p.1.length : Int)) = true := decide_eq_true hq'
          clear hpp hp9 hpa hk1 hB hk2 hD hx
          by_cases hxb : (x.length : Int) = (bn : Int)
          · have hnb : ((x.length : Int) != (bn : Int)) = false := by rw [bne_eq_false_iff_eq]; exact hxb
            have hnb2 : (x.length != bn) = false := by rw [bne_eq_false_iff_eq]; omega
            have HXB := Aside0.mk hxb
            clear hxb
            go_wp2
            go_quiet (fail)
            go_wp2
            go_roundg (gk - 1)
            case measure => have := HK2.out; omega
            case rel => exact ⟨q + 1, by congr 1, by omega, ⟨by have := HK2.out; omega⟩, ⟨pw_below_drewN HS2.out.1 nq, fun y hy => by
              rw [HTX.out] at hy
              rcases List.mem_append.1 hy with hy | hy
              · exact HS2.out.2 y hy
              · rw [List.mem_singleton.1 hy]; exact HXB.out⟩⟩
          · have hnb : ((x.length : Int) != (bn : Int)) = true := by rw [bne_iff_ne]; exact hxb
            have hnb2 : (x.length != bn) = true := by rw [bne_iff_ne]; omega
            have HXB := Aside0.mk hxb
            clear hxb
            go_wp2
            go_quiet (fail)
            go_wp2
            go_ret
            exact ⟨.inr ⟨fun h => HXB.out ((h p HPM.out).2.2.2 x HXM.out), rfl⟩, pw_below_drewN HBQ.out nq⟩
        · obtain rfl : q = p.1.length := by omega
          have hd3 : decide ((p.1.length : Int) < (p.1.length : Int)) = false := decide_eq_false (by omega)
          go_wp2
          go_roundg (g1 - 1)
          case measure => have := HK.out; omega
          case rel => exact ⟨i + 1, by congr 1, by omega, ⟨by have := HK.out; omega⟩, ⟨HS2.out.1, fun y hy => by
            rw [HTK.out] at hy
            rcases List.mem_append.1 hy with hy | hy
            · exact HS.out.2 y hy
            · rw [List.mem_singleton.1 hy]
              have h5 := HS2.out.2
              rw [List.take_length] at h5
              have h6 := HH.out
              exact ⟨by omega, by omega, by omega, h5⟩⟩⟩
    · obtain rfl : i = n := by omega
      have hd9 : decide ((i : Int) < (i : Int)) = false := decide_eq_false (by omega)
      have hall := HS.out.2
      rw [List.take_of_length_le (by rw [HL.out]; omega)] at hall
      have hxs : ∀ p ∈ zs, p.1.length ≤ 5000 ∧ ∀ x ∈ p.1, x.length ≤ 100000000 := fun p hp => ⟨by have := (hall p hp).1; omega, fun x hx => by have := (hall p hp).2.2.2 x hx; omega⟩
      have HALL := Aside0.mk hall
      have HXS := Aside0.mk hxs
      clear hall hxs
      go_wp2
      go_region_held3 (fun w' => w'.cell? ⟨g, 0, none⟩ = some (.int .i64 (i : Int)) ∧ w'.cell? ⟨g, 1, none⟩ = some (.int .i64 (zbn : Int)) ∧ w'.cell? ⟨g, 2, none⟩ = some (.int .i64 (bn : Int)) ∧ w'.cell? ⟨g, 3, none⟩ = some (.int .i64 r))
        (first | exact ⟨d0, d1, d2, d3⟩ | exact ⟨pw_cell_below hw8 d0, pw_cell_below hw8 d1, pw_cell_below hw8 d2, pw_cell_below hw8 d3⟩ | exact ⟨pw_cell_below (alloc_below _ _) (pw_cell_below hw8 d0), pw_cell_below (alloc_below _ _) (pw_cell_below hw8 d1), pw_cell_below (alloc_below _ _) (pw_cell_below hw8 d2), pw_cell_below (alloc_below _ _) (pw_cell_below hw8 d3)⟩)
        (first | (go_at_call 65; (with_reducible refine (lentz_calls A i c zs (by omega) HXS.out _ (Kd.C_below HC.out (below_drew HBR.out))).mono ?_); rintro e w8 ⟨v8, rfl, hN8, hw8⟩; obtain ⟨A8, n8, k8, rfl, -, -⟩ := N_open hN8; have HN8 := Aside0.mk hN8; clear hN8))
      have HW8 := Aside0.mk (show Below wr.heap.size wr w8 from Below.trans (below_drew (Below.refl _ _)) hw8)
      clear d0 d1 d2 d3 hw8
      go_wp2
      go_ret
      have hs1 := HBR.out.size
      have hs8 := HW8.out.size
      have hdr : wr.drew.heap.size = wr.heap.size := rfl
      refine ⟨.inl ⟨HALL.out, w8.heap.size, .slice A8 n8 k8, rfl, ⟨blk_here rfl, ?_⟩, by omega⟩, HBR.out.trans ((HW8.out.mono hs1).trans ((alloc_below w8 _).mono (by omega)))⟩
      exact Kd.N_lower (Kd.N_mono (Kd.N_below HN8.out (alloc_below w8 _)) (fun k hk => by have := hk.1; omega)) (by omega)
end Go.Proofs.Ytkmeipblgdahoaa.Dv
namespace Go.Proofs.Ytkmeipblgdahoaa.Dv
open Go.RowKit Go.Proofs.YtkmeipblgdahoaaW.PrintWords Go.Proofs.YtkmeipblgdahoaaW.PrintMore Go.Proofs.Ytkmeipblgdahoaa.Base Go.Proofs.Ytkmeipblgdahoaa.Shp
set_option maxRecDepth 100000
set_option linter.unusedVariables false
set_option linter.unusedSimpArgs false
set_option maxHeartbeats 1000000 in
theorem open_nil (z zb b r : Int) (hI : IsI z ∧ IsI zb ∧ IsI b ∧ IsI r) (A : Option Addr) (n c : Nat) (hno : ¬ Rt z zb b r ∨ (n : Int) ≠ z) (w : World) :
    Calls Try.prog 34 #[.agg #[.int .i64 z, .int .i64 zb, .int .i64 b, .int .i64 r], .slice A n c] w fun e w' => e = .returned (.pointer none) ∧ Below w.heap.size w w' := by
  have HII := Aside0.mk hI
  have HNO := Aside0.mk hno
  have HA := Aside0.mk (alloc_below w (.cells #[.int .i64 z, .int .i64 zb, .int .i64 b, .int .i64 r] 23))
  have HX := Aside0.mk (Box.new w z zb b r)
  obtain ⟨d0, d1, d2, d3⟩ := HX.out
  clear hI hno
  go_enter Try.func34, Try.ntmps34
  go_wp2_with fail
  refine (new_calls z zb b r HII.out.1 HII.out.2.1 HII.out.2.2.1 HII.out.2.2.2 _).mono ?_
  rintro e w1 ⟨⟨hn, rfl⟩ | ⟨hrt, xb, v, rfl, hD, hxb⟩, hw1⟩
  · have HB1 := Aside0.mk (below_go HA.out hw1)
    clear hn hw1 d0 d1 d2 d3
    go_wp2
    go_ret
    exact ⟨rfl, HB1.out⟩
  · have hnz : ((n : Int) != z) = true := by rw [bne_iff_ne]; exact HNO.out.resolve_left (fun h => h hrt)
    have HB1 := Aside0.mk (below_go HA.out hw1)
    obtain ⟨e0, e1, e2, e3⟩ := HX.out.below hw1
    clear hrt hD hxb hw1 d0 d1 d2 d3
    go_wp2
    go_ret
    exact ⟨rfl, HB1.out⟩
set_option maxHeartbeats 1000000 in
theorem ropen_nil (z zb b r : Int) (hI : IsI z ∧ IsI zb ∧ IsI b ∧ IsI r) (A : Option Addr) (n c : Nat) (hno : ¬ Rt z zb b r ∨ (n : Int) ≠ z) (w : World) :
    Calls Try.prog 56 #[.agg #[.int .i64 z, .int .i64 zb, .int .i64 b, .int .i64 r], .slice A n c] w fun e w' => e = .returned (.pointer none) ∧ Below w.heap.size w w' := by
  have HII := Aside0.mk hI
  have HNO := Aside0.mk hno
  have HA := Aside0.mk (alloc_below w (.cells #[.int .i64 z, .int .i64 zb, .int .i64 b, .int .i64 r] 23))
  have HX := Aside0.mk (Box.new w z zb b r)
  obtain ⟨d0, d1, d2, d3⟩ := HX.out
  clear hI hno
  go_enter Try.func56, Try.ntmps56
  go_wp2_with fail
  refine (ref_right_calls z zb b r HII.out.1 HII.out.2.1 HII.out.2.2.1 HII.out.2.2.2 _).mono ?_
  rintro e w1 ⟨rfl, hw1⟩
  have HB1 := Aside0.mk (below_go HA.out hw1)
  obtain ⟨e0, e1, e2, e3⟩ := HX.out.below hw1
  by_cases hrt : Rt z zb b r
  · rw [decide_eq_true hrt]
    have hnz : ((n : Int) != z) = true := by rw [bne_iff_ne]; exact HNO.out.resolve_left (fun h => h hrt)
    clear hrt hw1 d0 d1 d2 d3
    go_wp2
    go_ret
    exact ⟨rfl, HB1.out⟩
  · rw [decide_eq_false hrt]
    clear hrt hw1 d0 d1 d2 d3
    go_wp2
    go_ret
    exact ⟨rfl, HB1.out⟩
end Go.Proofs.Ytkmeipblgdahoaa.Dv
