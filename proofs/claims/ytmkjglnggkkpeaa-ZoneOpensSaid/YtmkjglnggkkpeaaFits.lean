/- fits: may a zone be; slices.ContainsFunc with its closure. -/
import Derived.Test.YtmkjglnggkkpeaaDoes
namespace Go.Proofs.Ytmkjglnggkkpeaa.Dv
open Go.RowKit Go.Proofs.YtmkjglnggkkpeaaW.PrintWords Go.Proofs.YtmkjglnggkkpeaaW.PrintMore Go.Proofs.Ytmkjglnggkkpeaa.Base Go.Proofs.Ytmkjglnggkkpeaa.Shp
set_option linter.unusedVariables false
set_option linter.unusedSimpArgs false
theorem fit1_calls (g : Nat) (bn : Int) (A : Option Addr) (n c : Nat) (w : World) (h : w.cell? ⟨g, 2, none⟩ = some (.int .i64 bn)) :
    Calls Try.prog 53 #[.slice A n c, .pointer (some ⟨g, 0, none⟩)] w fun e w' => e = .returned (.bool (decide ((n : Int) ≠ bn))) ∧ w = w' := by
  by_cases hb : (n : Int) = bn
  · have hnb : ((n : Int) != bn) = false := by rw [bne_eq_false_iff_eq]; exact hb
    have HN := Aside0.mk hb
    clear hb
    go_enter Try.func53, Try.ntmps53
    go_wp2
    go_ret
    exact ⟨by rw [decide_eq_false (fun h => h HN.out)]; rfl, rfl⟩
  · have hnb : ((n : Int) != bn) = true := by rw [bne_iff_ne]; exact hb
    have HN := Aside0.mk hb
    clear hb
    go_enter Try.func53, Try.ntmps53
    go_wp2
    go_ret
    exact ⟨by rw [decide_eq_true HN.out]; rfl, rfl⟩
def fitV (g : Nat) : Value := .func (.func 53) #[] #[.pointer (some ⟨g, 0, none⟩)]
set_option maxHeartbeats 1000000 in
theorem index_calls (g : Nat) (bn : Int) (A : Option Addr) (n c : Nat) (xs : List (List UInt8)) (w : World) (h : bytesK.C w A n xs) (hg : w.cell? ⟨g, 2, none⟩ = some (.int .i64 bn)) :
    Calls Try.prog 55 #[.slice A n c, .func (.func 53) #[] #[.pointer (some ⟨g, 0, none⟩)]] w fun e w' => ∃ j : Int, e = .returned (.int .i64 j) ∧ ((j = -1 ∧ ∀ x ∈ xs, (x.length : Int) = bn) ∨ (0 ≤ j ∧ ¬ ∀ x ∈ xs, (x.length : Int) = bn)) ∧ w = w' := by
  obtain ⟨hl, hm⟩ := C_len h
  have HL := Aside0.mk hl
  have HC := Aside0.mk h
  have HG := Aside0.mk hg
  clear h hl hg
  go_enter Try.func55, Try.ntmps55
  go_wp2
  go_loopg [5, 8] n (fun g v5 v8 wr => ∃ i : Nat, v8 = .int .i64 (i : Int) ∧ i ≤ n ∧ Aside0 (g + i = n) ∧ Aside0 (∀ x ∈ xs.take i, (x.length : Int) = bn) ∧ w = wr)
  case atStart => exact ⟨0, rfl, by omega, ⟨rfl⟩, ⟨fun x hx => by simp at hx⟩, rfl⟩
  case round =>
    obtain ⟨i, rfl, hi, HK, HS, rfl⟩ := hrel
    by_cases hlt : i < n
    · obtain ⟨pa, A0, c0, rfl, e0, hk0, hC0⟩ := bytes_at HC.out i hlt
      obtain ⟨x, hx⟩ : ∃ x, xs.getD i [] = x := ⟨_, rfl⟩
      rw [hx] at e0 hk0 hC0
      have hil : i < xs.length := by rw [HL.out]; exact hlt
      have hxm : x ∈ xs := by
        rw [← hx, List.getD_eq_getElem?_getD, List.getElem?_eq_getElem hil]
        exact List.getElem_mem _
      have HTK := Aside0.mk (take_one [] hil hx)
      have HXM := Aside0.mk hxm
      have hlt' : (i : Int) < (n : Int) := by omega
      have hd0 : decide ((i : Int) < (n : Int)) = true := decide_eq_true hlt'
      clear hx hC0 hil hxm
      by_cases hxb : (x.length : Int) = bn
      · have HXB := Aside0.mk hxb
        clear hxb
        go_wp2_with fail
        refine (fit1_calls g bn A0 x.length c0 _ HG.out).mono ?_
        rintro e w2 ⟨rfl, rfl⟩
        rw [decide_eq_false (fun h => h HXB.out)]
        go_wp2
        go_roundg (gk - 1)
        case measure => have := HK.out; omega
        case rel =>
          refine ⟨i + 1, by congr 1, by omega, ⟨by have := HK.out; omega⟩, ⟨fun y hy => ?_⟩, rfl⟩
          rw [HTK.out] at hy
          rcases List.mem_append.1 hy with hy | hy
          · exact HS.out y hy
          · rw [List.mem_singleton.1 hy]; exact HXB.out
      · have HXB := Aside0.mk hxb
        clear hxb
        go_wp2_with fail
        refine (fit1_calls g bn A0 x.length c0 _ HG.out).mono ?_
        rintro e w2 ⟨rfl, rfl⟩
        rw [decide_eq_true HXB.out]
        go_wp2
        go_ret
        exact ⟨(i : Int), rfl, .inr ⟨by omega, fun h => HXB.out (h x HXM.out)⟩, rfl⟩
    · obtain rfl : i = n := by omega
      have hd0 : decide ((i : Int) < (i : Int)) = false := decide_eq_false (by omega)
      go_wp2
      go_ret
      have h9 := HS.out
      rw [List.take_of_length_le (by rw [HL.out]; omega)] at h9
      exact ⟨-1, rfl, .inl ⟨rfl, h9⟩, rfl⟩
theorem contains_calls (g : Nat) (bn : Int) (A : Option Addr) (n c : Nat) (xs : List (List UInt8)) (w : World) (h : bytesK.C w A n xs) (hg : w.cell? ⟨g, 2, none⟩ = some (.int .i64 bn)) (b : Bool) (hb : b = decide (¬ ∀ x ∈ xs, (x.length : Int) = bn)) :
    Calls Try.prog 52 #[.slice A n c, .func (.func 53) #[] #[.pointer (some ⟨g, 0, none⟩)]] w fun e w' => e = .returned (.bool b) ∧ w = w' := by
  have HB := Aside0.mk hb
  have HG := Aside0.mk hg
  clear hb hg
  go_enter Try.func52, Try.ntmps52
  go_wp2_with fail
  refine (index_calls g bn A n c xs _ h HG.out).mono ?_
  rintro e w2 ⟨j, rfl, ⟨rfl, h1⟩ | ⟨h0, h1⟩, rfl⟩
  · have hd : decide ((0 : Int) ≤ -1) = false := rfl
    have H1 := Aside0.mk h1
    clear h1
    go_wp2
    go_ret
    exact ⟨by rw [HB.out, decide_eq_false (fun h => h H1.out)]; rfl, rfl⟩
  · have hd : decide ((0 : Int) ≤ j) = true := decide_eq_true h0
    have H1 := Aside0.mk h1
    clear h1
    go_wp2
    go_ret
    exact ⟨by rw [HB.out, decide_eq_true H1.out]; rfl, rfl⟩
/-- May a zone be? -/
def FitZ (zb bn : Int) (p : Zn) : Prop := ((p.1.length : Nat) : Int) ≤ zb ∧ 0 ≤ p.2 ∧ p.2 ≤ ((p.1.length : Nat) : Int) ∧ ∀ x ∈ p.1, (x.length : Int) = bn
instance (zb bn : Int) (p : Zn) : Decidable (FitZ zb bn p) := by unfold FitZ; infer_instance
set_option maxHeartbeats 1000000 in
theorem fits_calls (z zb bn r : Int) (A : Option Addr) (c : Nat) (p : Zn) (w : World) (h : bytesK.C w A p.1.length p.1) :
    Calls Try.prog 47 #[.agg #[.int .i64 z, .int .i64 zb, .int .i64 bn, .int .i64 r], .agg #[.slice A p.1.length c, .int .i64 p.2]] w fun e w' => e = .returned (.bool (decide (FitZ zb bn p))) ∧ Below w.heap.size w w' := by
  have hm := (C_len h).2
  have HA := Aside0.mk (((Below.refl w.heap.size w).alloc (Nat.le_refl _) (.cells #[.int .i64 z, .int .i64 zb, .int .i64 bn, .int .i64 r] 23)).alloc (by simp) (.cells #[.slice A p.1.length c, .int .i64 p.2] 55))
  have HX := Aside0.mk ((Box.new w z zb bn r).below (alloc_below _ (.cells #[.slice A p.1.length c, .int .i64 p.2] 55)))
  have HC := Aside0.mk h
  clear h
  obtain ⟨n, hn⟩ : ∃ n, p.1.length = n := ⟨_, rfl⟩
  obtain ⟨d, hd⟩ : ∃ d, p.2 = d := ⟨_, rfl⟩
  have HN := Aside0.mk hn
  have HD := Aside0.mk hd
  rw [hn] at hm HA HX HC ⊢
  rw [hd] at HA HX ⊢
  clear hn hd
  by_cases h1 : zb < (n : Int)
  · have hd1 : decide (zb < (n : Int)) = true := decide_eq_true h1
    have H1 := Aside0.mk h1
    clear h1
    go_enter Try.func47, Try.ntmps47
    go_wp2
    go_ret
    exact ⟨by rw [decide_eq_false (fun h => by have h1 := h.1; have h2 := H1.out; have h3 := HN.out; omega)]; rfl, HA.out⟩
  have hd1 : decide (zb < (n : Int)) = false := decide_eq_false h1
  have H1 := Aside0.mk h1
  clear h1
  by_cases h2 : d < 0
  · have hd2 : decide (d < 0) = true := decide_eq_true h2
    have H2 := Aside0.mk h2
    clear h2
    go_enter Try.func47, Try.ntmps47
    go_wp2
    go_ret
    exact ⟨by rw [decide_eq_false (fun h => by have h1 := h.2.1; have h2 := H2.out; have h3 := HD.out; omega)]; rfl, HA.out⟩
  have hd2 : decide (d < 0) = false := decide_eq_false h2
  have H2 := Aside0.mk h2
  clear h2
  by_cases h3 : (n : Int) < d
  · have hd3 : decide ((n : Int) < d) = true := decide_eq_true h3
    have H3 := Aside0.mk h3
    clear h3
    go_enter Try.func47, Try.ntmps47
    go_wp2
    go_ret
    exact ⟨by rw [decide_eq_false (fun h => by have h1 := h.2.2.1; have h2 := H3.out; have h3 := HD.out; have h4 := HN.out; omega)]; rfl, HA.out⟩
  have hd3 : decide ((n : Int) < d) = false := decide_eq_false h3
  have H3 := Aside0.mk h3
  clear h3
  go_enter Try.func47, Try.ntmps47
  go_wp2_with fail
  obtain ⟨b, hb⟩ : ∃ b, decide (¬ ∀ x ∈ p.1, (x.length : Int) = bn) = b := ⟨_, rfl⟩
  refine (contains_calls w.heap.size bn A n c p.1 _ (Kd.C_below HC.out HA.out) HX.out.d2 b hb.symm).mono ?_
  rintro e w2 ⟨rfl, rfl⟩
  have HB := Aside0.mk hb
  clear hb
  have he : (!b) = decide (FitZ zb bn p) := by
    rw [← HB.out]
    by_cases h : ∀ x ∈ p.1, (x.length : Int) = bn
    · rw [decide_eq_false (fun hh => hh h), decide_eq_true (show FitZ zb bn p from ⟨by have := H1.out; have := HN.out; omega, by have := H2.out; have := HD.out; omega, by have := H3.out; have := HN.out; have := HD.out; omega, h⟩)]
      rfl
    · rw [decide_eq_true h, decide_eq_false (fun hh => h hh.2.2.2)]
      rfl
  have HE := Aside0.mk he
  clear he
  go_wp2
  go_ret
  exact ⟨by rw [← HE.out]; rfl, HA.out⟩
end Go.Proofs.Ytmkjglnggkkpeaa.Dv
