/- Reading a record: plain facts; rec.must; rows as the walk reads them. -/
import Derived.Test.YtefgahakbnfdeaaDoorRecEnc
import Derived.Test.YtefgahakbnfdeaaDoorTake2
namespace Go.Proofs.YtefgahakbnfdeaaDoor.Rc
open Go.RowKit Go.Proofs.YtefgahakbnfdeaaDoorW.PrintWords Go.Proofs.YtefgahakbnfdeaaDoorW.PrintMore Go.Proofs.YtefgahakbnfdeaaDoor.Base
set_option linter.unusedVariables false
set_option linter.unusedSimpArgs false
theorem take_head (b : List UInt8) (h : 18 ≤ b.length) : take b [4, 4, 8, 2] = some ([mgN b, smN b, sqN b, ctN b], b.drop 18) := by
  have w4 : wd 4 = 4 := rfl
  have w8 : wd 8 = 8 := rfl
  have w2 : wd 2 = 2 := rfl
  simp only [take, w4, w8, w2, List.length_drop, List.drop_drop]
  rw [if_neg (by omega), if_neg (by omega), if_neg (by omega), if_neg (by omega)]
  rfl
theorem take_item (r : List UInt8) (h : 19 ≤ r.length) : take r [4, 8, 1, 4, 2] = some ([(itAt r).1, (itAt r).2.1, (itAt r).2.2.1, (itAt r).2.2.2.1, (itAt r).2.2.2.2], r.drop 19) := by
  have w4 : wd 4 = 4 := rfl
  have w8 : wd 8 = 8 := rfl
  have w2 : wd 2 = 2 := rfl
  have w1 : wd 1 = 1 := rfl
  simp only [take, w4, w8, w2, w1, List.length_drop, List.drop_drop]
  rw [if_neg (by omega), if_neg (by omega), if_neg (by omega), if_neg (by omega), if_neg (by omega)]
  rfl
theorem end_iff (r : List UInt8) (k : Nat) (h : r.length = k + 1) : r = List.replicate k 0 ++ [0xe7] ↔ (r.getD k 0 = 0xe7 ∧ ∀ x ∈ r.take k, x = 0) := by
  constructor
  · intro e
    constructor
    · rw [e, List.getD_eq_getElem?_getD, List.getElem?_append_right (by simp)]; simp
    · intro x hx
      rw [e, take_app _ _ _ (by simp)] at hx
      exact List.eq_of_mem_replicate hx
  · rintro ⟨h1, h2⟩
    have e : r = r.take k ++ [r.getD k 0] := by
      have := take_snocD r 0 k (by omega)
      rw [← this, List.take_of_length_le (by omega)]
    have e2 : r.take k = List.replicate k 0 := by
      rw [List.eq_replicate_iff]
      exact ⟨by rw [List.length_take]; omega, h2⟩
    rw [h1, e2] at e
    exact e
theorem ct_lt (b : List UInt8) : ctN b < 65536 := by
  have h : un ((b.drop 16).take 2) < 256 ^ 2 := Nat.lt_of_lt_of_le (un_lt _) (Nat.pow_le_pow_right (by omega) (by rw [List.length_take]; omega))
  exact h
theorem sm_lt (b : List UInt8) : smN b < 4294967296 := by
  have h : un ((b.drop 4).take 4) < 256 ^ 4 := Nat.lt_of_lt_of_le (un_lt _) (Nat.pow_le_pow_right (by omega) (by rw [List.length_take]; omega))
  exact h
/-- must: it panics, if something is not so. -/
def Panics (e : Ending) : Prop := ∃ u pv, e = .panicked [{ v := .iface u pv, recovered := false }]
theorem must_yes (s : ByteArray) (w : World) : Calls Tryd.prog 32 #[.bool true, .string s] w fun e w' => e = .returned (.tuple #[]) ∧ w = w' := by
  go_enter Tryd.func32, Tryd.ntmps32
  go_wp2
  go_end0
  exact ⟨rfl, rfl⟩
theorem must_no (s : ByteArray) (w : World) : Calls Tryd.prog 32 #[.bool false, .string s] w fun e w' => (∃ u pv, e = .panicked [{ v := .iface u pv, recovered := false }]) ∧ w = w' := by
  go_enter Tryd.func32, Tryd.ntmps32
  go_wp2
  exact ⟨rfl, ⟨_, _, rfl⟩, rfl⟩
theorem ownU_cells {w : World} {b : Nat} {v : Value} {xs : List Nat} (h : OwnU w b v xs) (hp : 0 < xs.length) :
    ∃ g c, v = .slice (some ⟨g, 0, none⟩) xs.length c ∧ b ≤ g ∧ g < w.heap.size ∧ ∀ i, i < xs.length → w.cell? ⟨g, i, none⟩ = some (.int .u64 ((xs.getD i 0 : Nat) : Int)) := by
  obtain ⟨g, c, rfl, hb, hg, -⟩ := Kd.R_form h hp
  obtain ⟨A, c', he, -, hC⟩ := Kd.R_reads h
  simp only [Value.slice.injEq] at he
  obtain ⟨rfl, -, rfl⟩ := he
  refine ⟨g, c, rfl, hb, hg, fun i hi => ?_⟩
  obtain ⟨ad, hA, hc, -⟩ := nat_at hC i hi
  injection hA with hA
  subst hA
  rwa [add_plain] at hc
theorem own_form {w : World} {b : Nat} {v : Value} {xs : List UInt8} (h : Base.Own w b v xs) (hp : 0 < xs.length) :
    ∃ g c, v = .slice (some ⟨g, 0, none⟩) xs.length c ∧ b ≤ g ∧ g < w.heap.size ∧ xs.length ≤ c ∧ c ≤ 9223372036854775807 := by
  obtain ⟨g, c, rfl, hb, hg, -⟩ := Kd.R_form h hp
  obtain ⟨A, c', he, hc, hC⟩ := Kd.R_reads h
  simp only [Value.slice.injEq] at he
  obtain ⟨rfl, -, rfl⟩ := he
  exact ⟨g, c, rfl, hb, hg, hc, own_cap h⟩
/-- A row of items of the call's own. -/
def OwnI (w : World) (base : Nat) (v : Value) (xs : List Itm) : Prop := itK.R 26 w base anyB v xs
theorem info_itm : (Tryd.prog.info? 26).map (fun i => (i.zero, i.size, i.bytes)) = some (some (.agg #[.int .u32 0, .int .u64 0, .int .u8 0, .int .u32 0, .int .u16 0]), 5, 32) := by kernel_rfl
theorem itK_M {w : World} {base : Nat} {ok : Nat → Prop} {x : Itm} (h : ItmOk x) : itK.M w base ok x (itV x).toList := itK_mk (w := w) h
section
variable {ops : Array Oper} {rest : List Oper} {o : Oper} {a : Act} {Q : Exit → Act → World → Prop}
/-- append(v, x): an item. -/
theorem app_itm {w0 W : World} (base : Nat) (s x : Operand) (hgd : o.guard = none) (ho : o.op = .call { callee := .builtin .append, args := #[s, x], argTypes := #[33, 33] })
    (v : Value) (xs : List Itm) (p : Itm) (hs : a.eval s = v) (hx : a.eval x = .slice (some ⟨W.heap.size, 0, none⟩) 1 1) (hp : ItmOk p)
    (HO : OwnI W base v xs) (HB : Below base w0 W) (hbase : base ≤ W.heap.size) (hl : xs.length ≤ 100000)
    (h : ∀ v1 w1, OwnI w1 base v1 (xs ++ [p]) → Below base w0 w1 → W.grownBy w1 v.ownBlock → wpList Tryd.prog ops Q rest (a.put o.dst v1) w1) :
    wpList Tryd.prog ops Q (o :: rest) a (W.alloc (.cells (itV p) 26)) :=
  Kd.R_append itK (w0 := w0) base hgd s x 33 26 _ 32 ho Tryd.underlying33 info_itm (by decide) (by decide) (by decide) v xs p (itV p).toList anyB (fun _ => False) hs hx (itK_M hp) (fun _ h => h.elim) (fun _ _ => trivial) HO HB hbase (by omega) (fun v1 w1 h1 h2 h3 _ => h v1 w1 h1 h2 h3)
end
end Go.Proofs.YtefgahakbnfdeaaDoor.Rc
