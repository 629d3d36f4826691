/- Reset, At, Flush of a device. -/
import Derived.Test.YtmkjglnggkkpeaaDevRd
namespace Go.Proofs.Ytmkjglnggkkpeaa.Dv
open Go.RowKit Go.Proofs.YtmkjglnggkkpeaaW.PrintWords Go.Proofs.YtmkjglnggkkpeaaW.PrintMore Go.Proofs.Ytmkjglnggkkpeaa.Base Go.Proofs.Ytmkjglnggkkpeaa.Shp
set_option linter.unusedVariables false
set_option linter.unusedSimpArgs false
/-- A part is made empty. -/
theorem Dev.wiped {w : World} {xb base : Nat} {ok : Nat → Prop} {z zb b r : Int} {ps : List Prt} {ad : Addr} {cap : Nat} (h : Dev w xb base ok z zb b r ps (.slice (some ad) ps.length cap)) {j : Nat} (hj : j < ps.length) :
    Kd.S partK 73 ((w.setCell (ad.add (j * 2)) (.slice none 0 0)).setCell ⟨(ad.add (j * 2)).block, (ad.add (j * 2)).off + 1, none⟩ (.int .i64 0)) base ok (.slice (some ad) ps.length cap) (ps.set j ([], 0)) := by
  obtain ⟨g, rfl⟩ := Kd.R_head (Kd.S_R h.row)
  obtain ⟨oki, c, hcl, hM, hcc, hfr, hoki, hH⟩ := Kd.S_elem h.row ([], 0) (j : Int) (by omega) (by omega)
  have hs : partK.sz = 2 := rfl
  have ea : (⟨g, 0, none⟩ : Addr).add (j * 2) = ⟨g, j * 2, none⟩ := by rw [add_plain]
  obtain ⟨H2, hg2⟩ := Kd.H_seg hH (by omega) (by omega) (seg := [.slice none 0 0, .int .i64 0]) (j := 0) (by rw [hs]; exact Nat.le_refl 2) (fun q hq => by simp at hq; rcases hq with rfl | rfl <;> rfl)
  rw [Int.toNat_natCast, hs] at H2 hg2
  rw [ea]
  have es : w.setCells g (j * 2 + 0) [.slice none 0 0, .int .i64 0] = (w.setCell ⟨g, j * 2, none⟩ (.slice none 0 0)).setCell ⟨g, j * 2 + 1, none⟩ (.int .i64 0) := rfl
  rw [es] at H2
  have hd : c.drop (0 + [Value.slice none 0 0, Value.int .i64 0].length) = [] := List.drop_eq_nil_of_le (by rw [hcl, hs]; exact Nat.le_refl 2)
  rw [hd] at H2
  have := Kd.H_back H2 (x' := ([], 0)) (okp := fun _ => False) ⟨[.slice none 0 0], [.int .i64 0], rfl, ⟨_, rfl, Kd.R_nil _ _ _ _ _⟩, ⟨rfl, by decide⟩⟩ (fun k hk => hk.elim)
  rwa [Int.toNat_natCast] at this

def ResR (ps : List Prt) (i : Int) (e : Ending) (ps' : List Prt) : Prop := (hasB ps.length i = false ∧ e = .returned (.int .u16 100) ∧ ps' = ps) ∨ (hasB ps.length i = true ∧ e = .returned (.int .u16 0) ∧ ps' = ps.set i.toNat ([], 0))
theorem reset_calls (xb base : Nat) (ok : Nat → Prop) (z zb b r : Int) (ps : List Prt) (v : Value) (i : Int) (hi : IsI i) (w : World) (h : Dev w xb base ok z zb b r ps v) :
    Calls Try.prog 14 #[.pointer (some ⟨xb, 0, none⟩), .int .i64 i] w fun e w' => ∃ ps', ResR ps i e ps' ∧ Dev w' xb base ok z zb b r ps' v ∧ Chg w w' ok := by
  have HD := Aside0.mk h
  obtain ⟨hi1, hi2⟩ := hi
  obtain ⟨-, -, -, -, k4⟩ := h.cells
  clear h
  by_cases hh : 0 ≤ i ∧ i < (ps.length : Int)
  · have HH := Aside0.mk (hasB_true hh.1 hh.2)
    obtain ⟨j, rfl⟩ : ∃ j : Nat, i = (j : Int) := ⟨i.toNat, by omega⟩
    obtain ⟨p, hp⟩ : ∃ p, ps.getD j ([], 0) = p := ⟨_, rfl⟩
    obtain ⟨ad, cp, B, k, oki, rfl, c0, c1, hk, hI, hB, f0, f1, hoa, hax, hal, -, -, -, -⟩ := HD.out.part (by omega) hp
    have HS := Aside0.mk (HD.out.wiped (j := j) (by omega))
    have HO := Aside0.mk hoa
    have HX := Aside0.mk hax
    obtain ⟨m, hm⟩ : ∃ m, ps.length = m := ⟨_, rfl⟩
    obtain ⟨hh0, hh1⟩ := hh
    rw [hm] at hh1 k4
    have hmm : m ≤ 9223372036854775807 := by
      obtain ⟨_, _, _, _, e2, _, _, e3⟩ := HD.out.form
      omega
    have hn1 : ad.add (j * 2) ≠ ⟨(ad.add (j * 2)).block, (ad.add (j * 2)).off + 1, none⟩ := fun e => by have := congrArg Addr.off e; simp at this
    have hn2 := hn1.symm
    clear hp hm hB hI hoa hax hal hk
    go_enter Try.func14, Try.ntmps14
    go_wp2_with fail
    refine (has_calls xb base ok z zb b r ps _ (j : Int) ⟨by omega, by omega⟩ _ HD.out).mono ?_
    rintro e w2 ⟨rfl, rfl⟩
    rw [HH.out]
    go_wp2
    go_ret
    have hab : (ad.add (j * 2)).block = ad.block := add_block _ _
    refine ⟨ps.set j ([], 0), .inr ⟨HH.out, rfl, by rw [Int.toNat_natCast]⟩, ⟨blk_far (blk_far HD.out.blk (by rw [hab]; exact HX.out.symm) _) (by show xb ≠ (ad.add (j * 2)).block; rw [hab]; exact HX.out.symm) _, HS.out⟩, ((Chg.refl _ _).set (.inl (by rw [hab]; exact HO.out)) _).set (.inl (by show ok (ad.add (j * 2)).block; rw [hab]; exact HO.out)) _⟩
  · have HH := Aside0.mk (hasB_false hh)
    clear hh
    go_enter Try.func14, Try.ntmps14
    go_wp2_with fail
    refine (has_calls xb base ok z zb b r ps v i ⟨hi1, hi2⟩ _ HD.out).mono ?_
    rintro e w2 ⟨rfl, rfl⟩
    rw [HH.out]
    go_wp2
    go_ret
    exact ⟨ps, .inl ⟨HH.out, rfl, rfl⟩, HD.out, Chg.refl _ _⟩

def AtR (b : Int) (ps : List Prt) (i : Int) (e : Ending) : Prop := (hasB ps.length i = false ∧ e = .returned (.tuple #[.int .i64 0, .int .i64 0])) ∨ (hasB ps.length i = true ∧ e = .returned (.tuple #[.int .i64 (((ps.getD i.toNat ([], 0)).1.length : Int) / b), .int .i64 (ps.getD i.toNat ([], 0)).2]))
theorem at_calls (xb base : Nat) (ok : Nat → Prop) (z zb b r : Int) (hb1 : 0 < b) (hb2 : b ≤ 9223372036854775807) (ps : List Prt) (v : Value) (i : Int) (hi : IsI i) (w : World) (h : Dev w xb base ok z zb b r ps v) :
    Calls Try.prog 23 #[.pointer (some ⟨xb, 0, none⟩), .int .i64 i] w fun e w' => AtR b ps i e ∧ Below w.heap.size w w' := by
  have HD := Aside0.mk h
  obtain ⟨hi1, hi2⟩ := hi
  obtain ⟨-, -, -, -, k4⟩ := h.cells
  clear h
  by_cases hh : 0 ≤ i ∧ i < (ps.length : Int)
  · have HH := Aside0.mk (hasB_true hh.1 hh.2)
    obtain ⟨j, rfl⟩ : ∃ j : Nat, i = (j : Int) := ⟨i.toNat, by omega⟩
    obtain ⟨p, hp⟩ : ∃ p, ps.getD j ([], 0) = p := ⟨_, rfl⟩
    obtain ⟨ad, cp, B, k, oki, rfl, c0, c1, hk, hI, hB, -, -, -, -, -, -, -, -, -⟩ := HD.out.part (by omega) hp
    have HP := Aside0.mk hp
    have hpm := (C_len hB).2
    obtain ⟨m, hm⟩ : ∃ m, ps.length = m := ⟨_, rfl⟩
    obtain ⟨hh0, hh1⟩ := hh
    rw [hm] at hh1 k4
    have hmm : m ≤ 9223372036854775807 := by
      obtain ⟨_, _, _, _, e2, _, _, e3⟩ := HD.out.form
      omega
    clear hp hm hB hI
    go_enter Try.func23, Try.ntmps23
    go_wp2_with fail
    refine (has_calls xb base ok z zb b r ps _ (j : Int) ⟨by omega, by omega⟩ _ HD.out).mono ?_
    rintro e w2 ⟨rfl, rfl⟩
    rw [HH.out]
    go_wp2
    go_region_held3 (fun w' => w'.cell? ⟨xb, 4, none⟩ = some (.slice (some ad) m cp) ∧ w'.cell? (ad.add (j * 2)) = some (.slice B p.1.length k) ∧ w'.cell? ⟨(ad.add (j * 2)).block, (ad.add (j * 2)).off + 1, none⟩ = some (.int .i64 p.2))
      (first | exact ⟨k4, c0, c1⟩ | exact ⟨pw_cell_below hw8 k4, pw_cell_below hw8 c0, pw_cell_below hw8 c1⟩)
      (first | (go_at_call 35; (with_reducible refine (count_calls xb base ok z zb b r hb1 hb2 ps _ B p.1.length k hpm p.2 _ (HD.out.below (below_drew (Below.refl _ _)))).mono ?_); rintro e w8 ⟨rfl, hw8⟩))
    have HB8 := Aside0.mk (below_go (below_drew (Below.refl _ _)) hw8)
    go_wp2
    go_ret2
    exact ⟨.inr ⟨HH.out, by rw [Int.toNat_natCast, HP.out]; rfl⟩, HB8.out⟩
  · have HH := Aside0.mk (hasB_false hh)
    clear hh
    go_enter Try.func23, Try.ntmps23
    go_wp2_with fail
    refine (has_calls xb base ok z zb b r ps v i ⟨hi1, hi2⟩ _ HD.out).mono ?_
    rintro e w2 ⟨rfl, rfl⟩
    rw [HH.out]
    go_wp2
    go_ret2
    exact ⟨.inl ⟨HH.out, rfl⟩, Below.refl _ _⟩
end Go.Proofs.Ytmkjglnggkkpeaa.Dv
