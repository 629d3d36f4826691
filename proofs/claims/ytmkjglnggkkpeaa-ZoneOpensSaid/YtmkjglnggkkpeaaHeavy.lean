/- Calls, as a kind; heavy. -/
import Derived.Test.YtmkjglnggkkpeaaKnown
namespace Go.Proofs.Ytmkjglnggkkpeaa.Dv
open Go.RowKit Go.Proofs.YtmkjglnggkkpeaaW.PrintWords Go.Proofs.YtmkjglnggkkpeaaW.PrintMore Go.Proofs.Ytmkjglnggkkpeaa.Base Go.Proofs.Ytmkjglnggkkpeaa.Shp
set_option linter.unusedVariables false
set_option linter.unusedSimpArgs false
/-- A call: its kind, zone, n, fill, losses. -/
abbrev OpT := Int × Int × Int × List UInt8 × List (Int × Int)
def opK : Kd OpT := Kd.pair (num .u8) (Kd.pair (num .i64) (Kd.pair (num .i64) (Kd.pair (Kd.slice 5 byte) (Kd.slice 67 lossK))))
theorem opn_loss : Opn Try.prog 67 lossK :=
  Opn.struct Try.underlying67 (by kernel_rfl) (OpnFs.cons rfl (by kernel_rfl) (Opn.num Try.underlying3) (OpnFs.last rfl (by kernel_rfl) (Opn.num Try.underlying3)))
theorem opn_op : Opn Try.prog 35 opK :=
  Opn.struct Try.underlying35 (by kernel_rfl) (OpnFs.cons rfl (by kernel_rfl) (Opn.num Try.underlying5) (OpnFs.cons rfl (by kernel_rfl) (Opn.num Try.underlying3)
    (OpnFs.cons rfl (by kernel_rfl) (Opn.num Try.underlying3) (OpnFs.cons rfl (by kernel_rfl) (Opn.slice Try.underlying32 (by kernel_rfl) (Opn.byte Try.underlying5)) (OpnFs.last rfl (by kernel_rfl) (Opn.slice Try.underlying33 (by kernel_rfl) opn_loss))))))
abbrev op0 : OpT := (0, 0, 0, [], [])
theorem op_at {w : World} {A : Option Addr} {n : Nat} {xs : List OpT} (h : opK.C w A n xs) (i : Nat) (hi : i < n) {o : OpT} (ho : xs.getD i op0 = o) :
    ∃ ad F cf L cl, A = some ad ∧ w.cell? (ad.add (i * 5)) = some (.int .u8 o.1) ∧ w.cell? ⟨(ad.add (i * 5)).block, (ad.add (i * 5)).off + 1, none⟩ = some (.int .i64 o.2.1) ∧ w.cell? ⟨(ad.add (i * 5)).block, (ad.add (i * 5)).off + 2, none⟩ = some (.int .i64 o.2.2.1) ∧
      w.cell? ⟨(ad.add (i * 5)).block, (ad.add (i * 5)).off + 3, none⟩ = some (.slice F o.2.2.2.1.length cf) ∧ w.cell? ⟨(ad.add (i * 5)).block, (ad.add (i * 5)).off + 4, none⟩ = some (.slice L o.2.2.2.2.length cl) ∧
      (0 ≤ o.1 ∧ o.1 < 256) ∧ IsI o.2.1 ∧ IsI o.2.2.1 ∧ o.2.2.2.1.length ≤ cf ∧ byte.C w F o.2.2.2.1.length o.2.2.2.1 ∧ o.2.2.2.2.length ≤ cl ∧ lossK.C w L o.2.2.2.2.length o.2.2.2.2 := by
  subst ho
  obtain ⟨ad, c, e, _, hK, hc⟩ := ReadsRow.get_ h op0 (i : Int) (by omega) (by omega)
  obtain ⟨c0, c1, rfl, ⟨rfl, h0⟩, c2, c3, rfl, ⟨rfl, h1⟩, c4, c5, rfl, ⟨rfl, h2⟩, c6, c7, rfl, ⟨F, cf, rfl, h3, h4⟩, ⟨L, cl, rfl, h5, h6⟩⟩ := hK
  rw [Int.toNat_natCast] at hc h0 h1 h2 h3 h4 h5 h6
  exact ⟨ad, F, cf, L, cl, e, hc 0 _ rfl, cell_fld (hc 1 _ rfl) (by omega), cell_fld (hc 2 _ rfl) (by omega), cell_fld (hc 3 _ rfl) (by omega), cell_fld (hc 4 _ rfl) (by omega), wf_u8 h0, wf_i64 h1, wf_i64 h2, h3, h4, h5, h6⟩
def bigB (o : OpT) : Bool := decide (200 < o.2.2.2.1.length) || decide (20 < o.2.2.2.2.length)
def heavyB (l : List OpT) : Bool := decide (60 < l.length) || l.any bigB
theorem any_take {l : List OpT} {i : Nat} (h : i < l.length) (h0 : (l.take i).any bigB = false) (h1 : bigB (l.getD i op0) = false) : (l.take (i + 1)).any bigB = false := by
  rw [List.take_succ_eq_append_getElem h, List.any_append, h0, List.any_cons, List.any_nil, Bool.or_false, Bool.false_or]
  rwa [List.getD_eq_getElem?_getD, List.getElem?_eq_getElem h] at h1
theorem any_here {l : List OpT} {i : Nat} (h : i < l.length) (h1 : bigB (l.getD i op0) = true) : l.any bigB = true := by
  rw [List.any_eq_true]
  rw [List.getD_eq_getElem?_getD, List.getElem?_eq_getElem h] at h1
  exact ⟨_, List.getElem_mem h, h1⟩
set_option maxHeartbeats 1000000 in
theorem heavy_calls (A : Option Addr) (n c : Nat) (l : List OpT) (w : World) (h : opK.C w A n l) :
    Calls Try.prog 11 #[.slice A n c] w fun e w' => e = .returned (.bool (heavyB l)) ∧ w = w' := by
  obtain ⟨hl, hm⟩ := C_len h
  have HL := Aside0.mk hl
  have HC := Aside0.mk h
  clear h hl
  by_cases h60 : 60 < n
  · have hd : decide (60 < (n : Int)) = true := decide_eq_true (by omega)
    go_enter Try.func11, Try.ntmps11
    go_wp2
    go_ret
    exact ⟨by unfold heavyB; rw [HL.out, decide_eq_true h60, Bool.true_or]; rfl, rfl⟩
  · have hd : decide (60 < (n : Int)) = false := decide_eq_false (by omega)
    have H60 := Aside0.mk h60
    clear h60
    go_enter Try.func11, Try.ntmps11
    go_wp2
    go_loopg [3] n (fun g v3 wr => ∃ i : Nat, v3 = .int .i64 (i : Int) ∧ i ≤ n ∧ Aside0 (g + i = n) ∧ Aside0 ((l.take i).any bigB = false) ∧ w = wr)
    case atStart => exact ⟨0, rfl, by omega, ⟨rfl⟩, ⟨rfl⟩, rfl⟩
    case round =>
      obtain ⟨i, rfl, hi, HK, HS, rfl⟩ := hrel
      by_cases hlt : i < n
      · obtain ⟨o, ho⟩ : ∃ o, l.getD i op0 = o := ⟨_, rfl⟩
        obtain ⟨ad, F, cf, L, cl, rfl, -, -, -, c3, c4, -, -, -, -, h4, -, h6⟩ := op_at HC.out i hlt ho
        have hfm := (C_len h4).2
        have hlm := (C_len h6).2
        have HO := Aside0.mk ho
        clear ho h4 h6
        by_cases hf : 200 < o.2.2.2.1.length
        · have hfd : decide (200 < (o.2.2.2.1.length : Int)) = true := decide_eq_true (by omega)
          have HF := Aside0.mk hf
          clear hf
          go_wp2
          go_ret
          exact ⟨by unfold heavyB; rw [any_here (i := i) (by rw [HL.out]; exact hlt) (by rw [HO.out]; unfold bigB; rw [decide_eq_true HF.out, Bool.true_or]), Bool.or_true]; rfl, rfl⟩
        · have hfd : decide (200 < (o.2.2.2.1.length : Int)) = false := decide_eq_false (by omega)
          have HF := Aside0.mk hf
          clear hf
          by_cases hg : 20 < o.2.2.2.2.length
          · have hgd : decide (20 < (o.2.2.2.2.length : Int)) = true := decide_eq_true (by omega)
            have HG := Aside0.mk hg
            clear hg
            go_wp2
            go_ret
            exact ⟨by unfold heavyB; rw [any_here (i := i) (by rw [HL.out]; exact hlt) (by rw [HO.out]; unfold bigB; rw [decide_eq_true HG.out, Bool.or_true]), Bool.or_true]; rfl, rfl⟩
          · have hgd : decide (20 < (o.2.2.2.2.length : Int)) = false := decide_eq_false (by omega)
            have HG := Aside0.mk hg
            clear hg
            go_wp2
            go_roundg (gk - 1)
            case measure => have := HK.out; omega
            case rel => exact ⟨i + 1, by congr 1, by omega, ⟨by have := HK.out; omega⟩, ⟨any_take (by rw [HL.out]; exact hlt) HS.out (by rw [HO.out]; unfold bigB; rw [decide_eq_false HF.out, decide_eq_false HG.out]; rfl)⟩, rfl⟩
      · obtain rfl : i = n := by omega
        go_wp2
        go_ret
        exact ⟨by unfold heavyB; rw [HL.out, decide_eq_false H60.out, Bool.false_or, ← HS.out, ← HL.out, List.take_length]; rfl, rfl⟩
end Go.Proofs.Ytmkjglnggkkpeaa.Dv
