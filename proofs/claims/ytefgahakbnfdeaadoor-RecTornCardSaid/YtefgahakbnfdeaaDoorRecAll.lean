/- All items, a block's room: slices.ContainsFunc with its closure, rec.Room, coamingref11.Room. -/
import Derived.Test.YtefgahakbnfdeaaDoorRecItm
import Derived.Test.YtefgahakbnfdeaaDoorPow
import Derived.Test.YtefgahakbnfdeaaDoorTake2
namespace Go.Proofs.YtefgahakbnfdeaaDoor.Rc
open Go.RowKit Go.Proofs.YtefgahakbnfdeaaDoorW.PrintWords Go.Proofs.YtefgahakbnfdeaaDoorW.PrintMore Go.Proofs.YtefgahakbnfdeaaDoor.Base
set_option linter.unusedVariables false
set_option linter.unusedSimpArgs false
set_option maxHeartbeats 1000000 in
theorem index_calls (A : Option Addr) (n c : Nat) (xs : List Itm) (w0 w : World) (hB : Below w0.heap.size w0 w) (h : itK.C w0 A n xs) :
    Calls Tryd.prog 30 #[.slice A n c, .func (.func 18) #[] #[]] w fun e w' => ∃ j : Int, e = .returned (.int .i64 j) ∧ ((j = -1 ∧ ∀ x ∈ xs, may x) ∨ (0 ≤ j ∧ ¬ ∀ x ∈ xs, may x)) ∧ Below w.heap.size w w' := by
  obtain ⟨hl, hm⟩ := C_len h
  have HL := Aside0.mk hl
  have HC := Aside0.mk h
  have HB := Aside0.mk hB
  clear h hl hB
  go_enter Tryd.func30, Tryd.ntmps30
  go_wp2
  go_loopg [5, 8] n (fun g v5 v8 wr => ∃ i : Nat, v8 = .int .i64 (i : Int) ∧ i ≤ n ∧ Aside0 (g + i = n) ∧ Aside0 (∀ x ∈ xs.take i, may x) ∧ Aside0 (Below w.heap.size w wr))
  case atStart => exact ⟨0, rfl, by omega, ⟨rfl⟩, ⟨fun x hx => by simp at hx⟩, ⟨Below.refl _ _⟩⟩
  case round =>
    obtain ⟨i, rfl, hi, HK, HS, HBW⟩ := hrel
    by_cases hlt : i < n
    · obtain ⟨pa, rfl, hok, e0, e1, e2, e3, e4⟩ := itm_at (Kd.C_below HC.out (below_go HB.out HBW.out)) (0, 0, 0, 0, 0) i hlt
      obtain ⟨x, hx⟩ : ∃ x, xs.getD i (0, 0, 0, 0, 0) = x := ⟨_, rfl⟩
      rw [hx] at e0 e1 e2 e3 e4 hok
      have hil : i < xs.length := by rw [HL.out]; exact hlt
      have HTK := Aside0.mk (take_snocD xs (0, 0, 0, 0, 0) i hil)
      have HX := Aside0.mk hx
      have HXM := Aside0.mk (show x ∈ xs from by rw [← hx, List.getD_eq_getElem?_getD, List.getElem?_eq_getElem hil]; exact List.getElem_mem _)
      have hlt' : (i : Int) < (n : Int) := by omega
      have hd0 : decide ((i : Int) < (n : Int)) = true := decide_eq_true hlt'
      clear hx hil hok
      go_wp2_with fail
      refine (not_may_calls x _).mono ?_
      rintro e w2 ⟨rfl, hb2⟩
      have HB2 := Aside0.mk (below_go HBW.out hb2)
      clear hb2 e0 e1 e2 e3 e4
      by_cases hmx : may x
      · rw [decide_eq_true hmx]
        have HMX := Aside0.mk hmx
        clear hmx
        go_wp2
        go_roundg (gk - 1)
        case measure => have := HK.out; omega
        case rel =>
          refine ⟨i + 1, by congr 1, by omega, ⟨by have := HK.out; omega⟩, ⟨fun y hy => ?_⟩, HB2⟩
          rw [HTK.out, HX.out] at hy
          rcases List.mem_append.1 hy with hy | hy
          · exact HS.out y hy
          · rw [List.mem_singleton.1 hy]; exact HMX.out
      · rw [decide_eq_false hmx]
        have HMX := Aside0.mk hmx
        clear hmx
        go_wp2
        go_ret
        exact ⟨(i : Int), rfl, .inr ⟨by omega, fun h => HMX.out (h x HXM.out)⟩, HB2.out⟩
    · obtain rfl : i = n := by omega
      have hd0 : decide ((i : Int) < (i : Int)) = false := decide_eq_false (by omega)
      go_wp2
      go_ret
      have h9 := HS.out
      rw [List.take_of_length_le (by rw [HL.out]; omega)] at h9
      exact ⟨-1, rfl, .inl ⟨rfl, h9⟩, HBW.out⟩
theorem contains_calls (A : Option Addr) (n c : Nat) (xs : List Itm) (w0 w : World) (hB : Below w0.heap.size w0 w) (h : itK.C w0 A n xs) (b : Bool) (hb : b = decide (¬ ∀ x ∈ xs, may x)) :
    Calls Tryd.prog 17 #[.slice A n c, .func (.func 18) #[] #[]] w fun e w' => e = .returned (.bool b) ∧ Below w.heap.size w w' := by
  have HB := Aside0.mk hb
  clear hb
  go_enter Tryd.func17, Tryd.ntmps17
  go_wp2_with fail
  refine (index_calls A n c xs w0 _ hB h).mono ?_
  rintro e w2 ⟨j, rfl, ⟨rfl, h1⟩ | ⟨h0, h1⟩, hb2⟩
  · have hd : decide ((0 : Int) ≤ -1) = false := rfl
    have H1 := Aside0.mk h1
    have HB2 := Aside0.mk hb2
    clear h1 hb2
    go_wp2
    go_ret
    exact ⟨by rw [HB.out, decide_eq_false (fun h => h H1.out)]; rfl, HB2.out⟩
  · have hd : decide ((0 : Int) ≤ j) = true := decide_eq_true h0
    have H1 := Aside0.mk h1
    have HB2 := Aside0.mk hb2
    clear h1 hb2
    go_wp2
    go_ret
    exact ⟨by rw [HB.out, decide_eq_true H1.out]; rfl, HB2.out⟩
/-! A block's room. -/
theorem rmI (b : Int) (h0 : 64 ≤ b) (h1 : b ≤ 4096) : (bits .and .i64 b (b - 1) != 0) = !(decide (b = 64 ∨ b = 128 ∨ b = 256 ∨ b = 512 ∨ b = 1024 ∨ b = 2048 ∨ b = 4096)) := Pw.and_code b h0 h1
/-- How many items a block has room for. -/
def rmZ (b : Int) : Int := if b = 64 ∨ b = 128 ∨ b = 256 ∨ b = 512 ∨ b = 1024 ∨ b = 2048 ∨ b = 4096 then (b - 19) / 19 else 0
theorem rmZ_nat (n : Nat) : rmZ (n : Int) = (rmN n : Int) := by
  unfold rmZ rmN
  split <;> split <;> omega
theorem rmZ_neg (b : Int) (h : b < 0) : rmZ b = 0 := by
  unfold rmZ
  split <;> omega
theorem room_calls (b : Int) (hb : -9223372036854775808 ≤ b ∧ b ≤ 9223372036854775807) (w : World) :
    Calls Tryd.prog 13 #[.int .i64 b] w fun e w' => e = .returned (.int .i64 (rmZ b)) ∧ w = w' := by
  obtain ⟨hb1, hb2⟩ := hb
  by_cases h2 : 64 ≤ b ∧ b ≤ 4096
  · obtain ⟨a5, a6⟩ := h2
    have hc := rmI b a5 a6
    by_cases h3 : b = 64 ∨ b = 128 ∨ b = 256 ∨ b = 512 ∨ b = 1024 ∨ b = 2048 ∨ b = 4096
    · rw [decide_eq_true h3] at hc
      have hR := Aside0.mk (show rmZ b = (b - 19) / 19 from if_pos h3)
      clear h3
      go_enter Tryd.func13, Tryd.ntmps13
      go_wp2
      go_ret
      refine ⟨?_, rfl⟩
      rw [hR.out]
      show Ending.returned (.int .i64 _) = _
      congr 2
      omega
    · rw [decide_eq_false h3] at hc
      have hR := Aside0.mk (show rmZ b = 0 from if_neg h3)
      clear h3
      go_enter Tryd.func13, Tryd.ntmps13
      go_wp2
      go_ret
      exact ⟨by rw [hR.out]; rfl, rfl⟩
  · have hR := Aside0.mk (show rmZ b = 0 from if_neg (fun h => h2 (by omega)))
    by_cases h3 : b < 64
    · go_enter Tryd.func13, Tryd.ntmps13
      go_wp2
      go_ret
      exact ⟨by rw [hR.out]; rfl, rfl⟩
    · have h4 : 4096 < b := by omega
      go_enter Tryd.func13, Tryd.ntmps13
      go_wp2
      go_ret
      exact ⟨by rw [hR.out]; rfl, rfl⟩
end Go.Proofs.YtefgahakbnfdeaaDoor.Rc
