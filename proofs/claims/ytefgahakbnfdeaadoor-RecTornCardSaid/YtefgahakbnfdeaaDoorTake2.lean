/- wire.Take: numbers at the front of bytes; too few bytes: the reader's panic, recovered. -/
import Derived.Test.YtefgahakbnfdeaaDoorTake
namespace Go.Proofs.YtefgahakbnfdeaaDoor.Rc
open Go.RowKit Go.Proofs.YtefgahakbnfdeaaDoorW.PrintWords Go.Proofs.YtefgahakbnfdeaaDoorW.PrintMore Go.Proofs.YtefgahakbnfdeaaDoor.Base
set_option linter.unusedVariables false
set_option linter.unusedSimpArgs false
/-- A row of numbers of the call's own. -/
def OwnU (w : World) (base : Nat) (v : Value) (xs : List Nat) : Prop := (nat .u64).R 23 w base anyB v xs
def TakeP (w : World) (r : Option (List Nat × List UInt8)) (e : Ending) (w' : World) : Prop :=
  Below w.heap.size w w' ∧ match r with
    | some (l, x) => ∃ vl vr, e = .returned (.tuple #[vl, vr, .bool true]) ∧ OwnU w' w.heap.size vl l ∧ Base.Own w' w.heap.size vr x
    | none => e = .returned (.tuple #[.slice none 0 0, .slice none 0 0, .bool false])
/-- What holds at a round's head. -/
structure TkR (w W : World) (gl : Nat) (vl : Value) (l : List Nat) (A : Option Addr) (n c : Nat) (b : List UInt8) : Prop where
  bl : Boxed W gl 61 vl
  br : Boxed W (gl + 1) 27 (.slice none 0 0)
  bi : Boxed W (gl + 1 + 1) 4 (.bool false)
  row : OwnU W w.heap.size vl l
  rd : Rd w W (gl + 1 + 1 + 1) A n c b
  glb : w.heap.size ≤ gl
section
variable {w W W' : World} {gl : Nat} {vl : Value} {l : List Nat} {A A' : Option Addr} {n c n' c' : Nat} {b b' : List UInt8}
theorem Rd.below (h : Rd w W gl A n c b) (hb : Below W.heap.size W W') : Rd w W' gl A n c b :=
  ⟨h.blk.kept (grown_of_below hb none) (by simp), h.byt, h.cap, below_go h.bel hb, h.new⟩
theorem TkR.below (h : TkR w W gl vl l A n c b) (hb : Below W.heap.size W W') : TkR w W' gl vl l A n c b :=
  ⟨h.bl.kept (grown_of_below hb none) (by simp), h.br.kept (grown_of_below hb none) (by simp), h.bi.kept (grown_of_below hb none) (by simp), Kd.R_below h.row hb, h.rd.below hb, h.glb⟩
theorem TkR.num (h : TkR w W gl vl l A n c b) (hr : Rd w W' (gl + 1 + 1 + 1) A' n' c' b') (hg : W.grownBy W' (some (gl + 1 + 1 + 1))) : TkR w W' gl vl l A' n' c' b' :=
  ⟨h.bl.kept hg (by simp; omega), h.br.kept hg (by simp), h.bi.kept hg (by simp), Kd.R_grown1 h.row rfl hg (Kd.R_ne h.row (show W.heap[gl + 1 + 1 + 1]? = _ from h.rd.blk) (by decide)), hr, h.glb⟩
theorem TkR.put (h : TkR w W gl vl l A n c b) {v1 : Value} {y : Nat} (hr : OwnU W' w.heap.size v1 (l ++ [y])) (hg : W.grownBy W' vl.ownBlock) : TkR w (W'.setCell ⟨gl, 0, none⟩ v1) gl v1 (l ++ [y]) A n c b := by
  have n0 := Kd.R_ne h.row (show W.heap[gl]? = _ from h.bl) (by decide)
  have n1 := Kd.R_ne h.row (show W.heap[gl + 1]? = _ from h.br) (by decide)
  have n2 := Kd.R_ne h.row (show W.heap[gl + 1 + 1]? = _ from h.bi) (by decide)
  have n3 := Kd.R_ne h.row (show W.heap[gl + 1 + 1 + 1]? = _ from h.rd.blk) (by decide)
  have b0 : Boxed W' gl 61 vl := h.bl.kept hg n0
  have hgs := grownBy_setCell' W' gl v1
  refine ⟨b0.set v1, Boxed.far (h.br.kept hg n1) (by omega) _, Boxed.far (h.bi.kept hg n2) (by omega) _, Kd.R_grown1 hr rfl hgs (Kd.R_ne hr (show W'.heap[gl]? = _ from b0) (by decide)), ⟨Boxed.far (h.rd.blk.kept hg n3) (by omega) _, h.rd.byt, h.rd.cap, ?_, h.rd.new⟩, h.glb⟩
  have hgl : w.heap.size ≤ gl := by have := h.glb; omega
  exact ((h.rd.bel.grown hg h.rd.bel.size (fun k hk => Kd.R_base h.row k hk))).setCell hgl _
end
section
variable {ops : Array Oper} {o : Oper} {a : Act} {Q : Exit → Act → World → Prop} {Kc : Act → World → Prop}
theorem info_u64 : (Tryd.prog.info? 23).map (fun i => (i.zero, i.size, i.bytes)) = some (some (.int .u64 0), 1, 8) := by kernel_rfl
/-- append(v, x) in a region that draws: a number. -/
theorem app_u64_step {W : World} (base : Nat) (s x : Operand) (hw : Region.wanted o (yielded ops a.tmps) = true) (ho : o.op = .call { callee := .builtin .append, args := #[s, x], argTypes := #[61, 61] })
    (v : Value) (xs : List Nat) (y : Nat) (hy : (Lit.int .u64 (y : Int)).wf = true) (hs : a.eval s = v) (hx : a.eval x = .slice (some ⟨W.heap.size, 0, none⟩) 1 1)
    (HO : OwnU W base v xs) (hbase : base ≤ W.heap.size) (hl : xs.length ≤ 100000)
    (h : ∀ v1 w1, OwnU w1 base v1 (xs ++ [y]) → W.grownBy w1 v.ownBlock → Kc (a.put o.dst v1) w1) :
    if Region.wanted o (yielded ops a.tmps) = true then Oper.wp Tryd.prog o a (W.alloc (.cells #[.int .u64 (y : Int)] 23)) Kc Q else Kc (a.put o.dst undef) (W.alloc (.cells #[.int .u64 (y : Int)] 23)) :=
  Kd.R_append_step (nat .u64) (w0 := W) base hw s x 61 23 (.int .u64 0) 8 ho Tryd.underlying61 info_u64 rfl (by decide) (by decide) v xs y [.int .u64 (y : Int)] anyB (fun _ => False) hs hx ⟨rfl, hy⟩ (fun _ h => h.elim) (fun _ _ => trivial) HO (Below.refl _ _) hbase (by omega) (fun v1 w1 h1 _ h3 _ => h v1 w1 h1 h3)
end
theorem wf_un (l : List UInt8) (h : l.length ≤ 8) : (Lit.int .u64 ((un l : Nat) : Int)).wf = true := by
  have h1 := un_lt l
  have h2 : 256 ^ l.length ≤ 256 ^ 8 := Nat.pow_le_pow_right (by omega) h
  have h3 : (256 : Nat) ^ 8 = 18446744073709551616 := by decide
  simp only [Lit.wf, IntKind.min, IntKind.max, IntKind.bits, IntKind.signed, decide_eq_true_eq, Bool.and_eq_true, Bool.false_eq_true, if_false]
  have h4 : un l ≤ 18446744073709551615 := by omega
  refine ⟨by omega, ?_⟩
  have : ((2 : Int) ^ 64 - 1) = 18446744073709551615 := by decide
  omega

theorem take_more {b : List UInt8} {ws : List Int} {i : Nat} {x : Int} (hi : i < ws.length) (hx : ws.getD i 0 = x) (hb : wd x ≤ b.length) (l : List Nat) :
    (take b (ws.drop i)).map (fun p => (l ++ p.1, p.2)) = (take (b.drop (wd x)) (ws.drop (i + 1))).map (fun p => ((l ++ [un (b.take (wd x))]) ++ p.1, p.2)) := by
  rw [drop_getD ws i 0 hi, hx, take, if_neg (by omega), Option.map_map]
  congr 1
  funext p
  simp
theorem take_less {b : List UInt8} {ws : List Int} {i : Nat} {x : Int} (hi : i < ws.length) (hx : ws.getD i 0 = x) (hb : b.length < wd x) : take b (ws.drop i) = none := by
  rw [drop_getD ws i 0 hi, hx, take, if_pos hb]
theorem own_empty (w : World) (base : Nat) (hb : base ≤ w.heap.size) : Base.Own (w.alloc (.cells #[] 5)) base (.slice (some ⟨w.heap.size, 0, none⟩) 0 0) [] :=
  ⟨fun _ _ => trivial, [], ⟨rfl, .inr ⟨w.heap.size, 0, #[], rfl, hb, heap_alloc_new w _, Nat.le_refl _, Nat.zero_le _, rfl, rfl⟩⟩, rfl, fun j p hj => by simp at hj⟩
set_option maxRecDepth 100000 in
theorem clone_calls (A : Option Addr) (n cap : Nat) (xs : List UInt8) (hn : n ≤ 140737488355328) (w : World) (h : byte.C w A n xs) :
    Calls Tryd.prog 40 #[.slice A n cap] w fun e w' => ∃ v, e = .returned v ∧ Base.Own w' w.heap.size v xs ∧ Below w.heap.size w w' := by
  have H := Aside0.mk h
  have hnil : ∀ (c : Nat) (W : World), (binOp .eql 27 (.slice none 0 c) (.slice none 0 0)).run Tryd.prog W = .ok (.bool true) W := fun _ _ => by kernel_rfl
  have hnot : ∀ (a : Addr) (m c : Nat) (W : World), (binOp .eql 27 (.slice (some a) m c) (.slice none 0 0)).run Tryd.prog W = .ok (.bool false) W := fun _ _ _ _ => by kernel_rfl
  cases A with
  | none =>
    have hn0 : n = 0 := by
      rcases Nat.eq_zero_or_pos n with h0 | h0
      · exact h0
      · obtain ⟨ad, he, _⟩ := h.2.2 h0
        cases he
    subst hn0
    have hx : xs = [] := List.eq_nil_of_length_eq_zero h.1
    subst hx
    clear h
    go_enter Tryd.func40, Tryd.ntmps40
    go_wp2
    go_ret
    exact ⟨_, rfl, Own.nil _ _, Below.refl _ _⟩
  | some ad =>
    have HC := Aside0.mk (Kd.C_below h (alloc_below w (.cells #[] 5)))
    have HO := Aside0.mk (own_empty w w.heap.size (Nat.le_refl _))
    have HB := Aside0.mk (alloc_below w (.cells #[] 5))
    clear h
    go_enter Tryd.func40, Tryd.ntmps40
    go_wp2_with (at_builtin; go_loud (refine app_row (w0 := w) w.heap.size (.tmp 5) (.tmp 6) rfl rfl _ [] xs (some ad) n cap rfl rfl HO.out HC.out HB.out (by simp) (by simp; omega) ?_); intro v1 w1 hO hB _; have HO1 := Aside0.mk hO; have HB1 := Aside0.mk hB; clear hO hB)
    go_ret
    exact ⟨_, rfl, HO1.out, HB1.out⟩
theorem door_panic (w W : World) (r : Option (List Nat × List UInt8)) (gl : Nat) (vl : Value) (l : List Nat) (A : Option Addr) (n c : Nat) (b : List UInt8) (h : TkR w W gl vl l A n c b) (hr : r = none) (T : Array Value) (u : TypeId) (pv : Value)
    (h4 : T[4]?.getD undef = .pointer (some ⟨gl, 0, none⟩)) (h5 : T[5]?.getD undef = .pointer (some ⟨gl + 1, 0, none⟩)) (h6 : T[6]?.getD undef = .pointer (some ⟨gl + 1 + 1, 0, none⟩)) :
    Leaves Tryd.prog Tryd.f33 T (TakeP w r) [{ target := .fn (.func 38) #[.pointer (some ⟨gl, 0, none⟩), .pointer (some ⟨gl + 1, 0, none⟩), .pointer (some ⟨gl + 1 + 1, 0, none⟩)], args := #[] }] (.panicking [{ v := .iface u pv, recovered := false }]) W := by
  subst hr
  refine leaves_cons (f := 38) (args := #[.pointer (some ⟨gl, 0, none⟩), .pointer (some ⟨gl + 1, 0, none⟩), .pointer (some ⟨gl + 1 + 1, 0, none⟩)]) (by simp) (by simp [go_sem]) ?_
  refine (catch_panicking gl (gl + 1) (gl + 1 + 1) _ _ _ u pv W h.bl h.br h.bi (by omega) (by omega) (by omega)).mono ?_
  rintro e u' w'' ⟨rfl, rfl, rfl⟩
  have b0 := Boxed.far (Boxed.far (h.bl.set (.slice none 0 0)) (by omega : gl ≠ gl + 1) (.slice none 0 0)) (by omega : gl ≠ gl + 1 + 1) (.bool false)
  have b1 := Boxed.far ((Boxed.far h.br (by omega : gl + 1 ≠ gl) (.slice none 0 0)).set (.slice none 0 0)) (by omega : gl + 1 ≠ gl + 1 + 1) (.bool false)
  have b2 := (Boxed.far (Boxed.far h.bi (by omega : gl + 1 + 1 ≠ gl) (.slice none 0 0)) (by omega : gl + 1 + 1 ≠ gl + 1) (.slice none 0 0)).set (.bool false)
  have c0 := b0.cell
  have c1 := b1.cell
  have c2 := b2.cell
  have hg := h.glb
  have hb := (((h.rd.bel.setCell (p := ⟨gl, 0, none⟩) hg (.slice none 0 0)).setCell (p := ⟨gl + 1, 0, none⟩) (by show w.heap.size ≤ gl + 1; omega) (.slice none 0 0)).setCell (p := ⟨gl + 1 + 1, 0, none⟩) (by show w.heap.size ≤ gl + 1 + 1; omega) (.bool false))
  generalize ((W.setCell ⟨gl, 0, none⟩ (.slice none 0 0)).setCell ⟨gl + 1, 0, none⟩ (.slice none 0 0)).setCell ⟨gl + 1 + 1, 0, none⟩ (.bool false) = W9 at *
  refine ⟨.tuple #[.slice none 0 0, .slice none 0 0, .bool false], ?_, hb, rfl⟩
  simp [results, Tryd.results33, go_sem, h4, h5, h6, c0, c1, c2]
theorem last_u {w W : World} {gl : Nat} {vl : Value} {l : List Nat} {A : Option Addr} {n c : Nat} {b : List UInt8} (h : TkR w W gl vl l A n c b) : Boxed (W.setCell ⟨gl, 0, none⟩ vl) (gl + 1) 27 (.slice none 0 0) ∧ Boxed (W.setCell ⟨gl, 0, none⟩ vl) gl 61 vl :=
  ⟨Boxed.far h.br (by omega) _, h.bl.set _⟩
theorem last_u2 {w W : World} {gl : Nat} {vl : Value} {l : List Nat} {A : Option Addr} {n c : Nat} {b : List UInt8} (h : TkR w W gl vl l A n c b) (v : Value) : Boxed ((W.setCell ⟨gl, 0, none⟩ vl).setCell ⟨gl + 1, 0, none⟩ v) (gl + 1 + 1) 4 (.bool false) :=
  Boxed.far (Boxed.far h.bi (by omega) _) (by omega) _
theorem own_lower {w : World} {b b' : Nat} {v : Value} {xs : List UInt8} (h : Base.Own w b v xs) (hb : b' ≤ b) : Base.Own w b' v xs := Kd.R_lower h hb
theorem own_box {w : World} {b B t : Nat} {v u v' : Value} {xs : List UInt8} (h : Base.Own w b v xs) (hB : Boxed w B t u) (ht : 5 ≠ t) : Base.Own (w.setCell ⟨B, 0, none⟩ v') b v xs :=
  Kd.R_grown1 h rfl (grownBy_setCell' w B v') (Kd.R_ne h (show w.heap[B]? = _ from hB) ht)
theorem ownU_box {w : World} {b B t : Nat} {v u v' : Value} {xs : List Nat} (h : OwnU w b v xs) (hB : Boxed w B t u) (ht : 23 ≠ t) : OwnU (w.setCell ⟨B, 0, none⟩ v') b v xs :=
  Kd.R_grown1 h rfl (grownBy_setCell' w B v') (Kd.R_ne h (show w.heap[B]? = _ from hB) ht)
theorem door_ret (w W : World) (r : Option (List Nat × List UInt8)) (gl : Nat) (vl : Value) (l : List Nat) (A : Option Addr) (n c : Nat) (b x : List UInt8) (v : Value) (h : TkR w W gl vl l A n c b) (hO : Base.Own W w.heap.size v x) (hr : r = some (l, x)) (T : Array Value)
    (h4 : T[4]?.getD undef = .pointer (some ⟨gl, 0, none⟩)) (h5 : T[5]?.getD undef = .pointer (some ⟨gl + 1, 0, none⟩)) (h6 : T[6]?.getD undef = .pointer (some ⟨gl + 1 + 1, 0, none⟩)) :
    Leaves Tryd.prog Tryd.f33 T (TakeP w r) [{ target := .fn (.func 38) #[.pointer (some ⟨gl, 0, none⟩), .pointer (some ⟨gl + 1, 0, none⟩), .pointer (some ⟨gl + 1 + 1, 0, none⟩)], args := #[] }] .returning (((W.setCell ⟨gl, 0, none⟩ vl).setCell ⟨gl + 1, 0, none⟩ v).setCell ⟨gl + 1 + 1, 0, none⟩ (.bool true)) := by
  subst hr
  refine leaves_cons (f := 38) (args := #[.pointer (some ⟨gl, 0, none⟩), .pointer (some ⟨gl + 1, 0, none⟩), .pointer (some ⟨gl + 1 + 1, 0, none⟩)]) (by simp) (by simp [go_sem]) ?_
  refine (catch_idle gl (gl + 1) (gl + 1 + 1) _).mono ?_
  rintro e u' w'' ⟨rfl, rfl, rfl⟩
  obtain ⟨a1, a0⟩ := last_u h
  have a2 := last_u2 h v
  have b0 := Boxed.far (Boxed.far a0 (by omega : gl ≠ gl + 1) v) (by omega : gl ≠ gl + 1 + 1) (.bool true)
  have b1 := Boxed.far (a1.set v) (by omega : gl + 1 ≠ gl + 1 + 1) (.bool true)
  have b2 := a2.set (.bool true)
  have c0 := b0.cell
  have c1 := b1.cell
  have c2 := b2.cell
  have hg := h.glb
  have hb := (((h.rd.bel.setCell (p := ⟨gl, 0, none⟩) hg vl).setCell (p := ⟨gl + 1, 0, none⟩) (by show w.heap.size ≤ gl + 1; omega) v).setCell (p := ⟨gl + 1 + 1, 0, none⟩) (by show w.heap.size ≤ gl + 1 + 1; omega) (.bool true))
  have o1 := own_box (v' := .bool true) (own_box (v' := v) (own_box (v' := vl) hO h.bl (by decide)) a1 (by decide)) a2 (by decide)
  have u1 := ownU_box (v' := .bool true) (ownU_box (v' := v) (ownU_box (v' := vl) h.row h.bl (by decide)) a1 (by decide)) a2 (by decide)
  generalize ((W.setCell ⟨gl, 0, none⟩ vl).setCell ⟨gl + 1, 0, none⟩ v).setCell ⟨gl + 1 + 1, 0, none⟩ (.bool true) = W9 at *
  refine ⟨.tuple #[vl, v, .bool true], ?_, hb, vl, v, rfl, u1, o1⟩
  simp [results, Tryd.results33, go_sem, h4, h5, h6, c0, c1, c2]
theorem ownU_open {w : World} {b : Nat} {v : Value} {xs : List Nat} (h : OwnU w b v xs) : ∃ A n c, v = .slice A n c := by
  obtain ⟨A, c, h1⟩ := Kd.R_slice h
  exact ⟨A, _, c, h1⟩
theorem leaves_congr {P : Program} {fn : Func} {t t' : Array Value} {R : Ending → World → Prop} (h : results fn t = results fn t') : ∀ (ds : List Deferred) (u : FrameMode) (w : World), Leaves P fn t R ds u w → Leaves P fn t' R ds u w := by
  intro ds
  induction ds with
  | nil =>
    intro u w hl
    cases u with
    | run => exact hl
    | returning => obtain ⟨v, h1, h2⟩ := hl; exact ⟨v, by rw [← h]; exact h1, h2⟩
    | panicking c => exact hl
  | cons d ds ih =>
    intro u w hl
    obtain ⟨h1, fv, cap, f, args, h2, h3, h4⟩ := hl
    refine ⟨h1, fv, cap, f, args, h2, h3, h4.mono ?_⟩
    intro e u' w' hh
    cases e with
    | returned v => exact ih _ _ hh
    | panicked c => exact ih _ _ hh
    | outgrown => exact hh
theorem take_put {R : Ending → World → Prop} {a : Act} {d : Nat} {v : Value} {c : List PanicEntry} {w : World} (hd : 7 ≤ d) (h : Leaves Tryd.prog Tryd.f33 (a.put (some d) v).tmps R (a.put (some d) v).defers (.panicking c) w) : Leaves Tryd.prog Tryd.f33 a.tmps R a.defers (.panicking c) w := by
  refine leaves_congr ?_ _ _ _ h
  have h4 : (a.tmps.setIfInBounds d v)[4]? = a.tmps[4]? := Array.getElem?_setIfInBounds_ne (by omega)
  have h5 : (a.tmps.setIfInBounds d v)[5]? = a.tmps[5]? := Array.getElem?_setIfInBounds_ne (by omega)
  have h6 : (a.tmps.setIfInBounds d v)[6]? = a.tmps[6]? := Array.getElem?_setIfInBounds_ne (by omega)
  simp [results, Tryd.results33, Act.put, h4, h5, h6]
theorem take_first (w : World) (gl : Nat) (A : Option Addr) (n c : Nat) (b : List UInt8) (h : byte.C w A n b) (hc : n ≤ c) (hg : gl = w.heap.size) :
    TkR w ((((w.alloc (.cells #[.slice none 0 0] 61)).alloc (.cells #[.slice none 0 0] 27)).alloc (.cells #[.bool false] 4)).alloc (.cells #[.slice A n c] 73)) gl (.slice none 0 0) [] A n c b := by
  subst hg
  have b1 := Boxed.new w 61 (.slice none 0 0)
  have b2 := Boxed.new (w.alloc (.cells #[.slice none 0 0] 61)) 27 (.slice none 0 0)
  have b3 := Boxed.new ((w.alloc (.cells #[.slice none 0 0] 61)).alloc (.cells #[.slice none 0 0] 27)) 4 (.bool false)
  have b4 := Boxed.new (((w.alloc (.cells #[.slice none 0 0] 61)).alloc (.cells #[.slice none 0 0] 27)).alloc (.cells #[.bool false] 4)) 73 (.slice A n c)
  refine ⟨((b1.alloc _).alloc _).alloc _, ?_, ?_, Kd.R_nil _ _ _ _ _, ⟨?_, h, hc, ?_, by omega⟩, Nat.le_refl _⟩
  · simpa using (b2.alloc _).alloc _
  · simpa using b3.alloc _
  · simpa using b4
  · exact below_alloc (below_alloc (below_alloc (alloc_below _ _) _) _) _
set_option maxRecDepth 100000 in
set_option maxHeartbeats 4000000 in
theorem take_calls (A : Option Addr) (n c : Nat) (b : List UInt8) (B : Option Addr) (m d : Nat) (ws : List Int) (w : World) (h : byte.C w A n b) (hnc : n ≤ c) (hc : c ≤ 9223372036854775807) (hn : n ≤ 100000000) (hw : (num .i64).C w B m ws) (hm : m ≤ 1000) :
    Calls Tryd.prog 33 #[.slice A n c, .slice B m d] w (TakeP w (take b ws)) := by
  have hmf : ∀ (fn : Fn) (first cap : Array Value) (w : World), (Instr.makeFunc fn first cap).run Tryd.prog w = .ok (.func fn first cap) w := fun _ _ _ _ => rfl
  obtain ⟨wl, wmx⟩ := C_len hw
  have HWL := Aside0.mk wl
  have HWC := Aside0.mk hw
  have HT := Aside0.mk (take_first w _ A n c b h hnc rfl)
  clear h hw wl
  go_enter_defers Tryd.func33, Tryd.ntmps33
  go_wp2
  obtain ⟨W, hW⟩ : ∃ W, ((((w.alloc (.cells #[.slice none 0 0] 61)).alloc (.cells #[.slice none 0 0] 27)).alloc (.cells #[.bool false] 4)).alloc (.cells #[.slice A n c] 73)) = W := ⟨_, rfl⟩
  obtain ⟨gl, hgl⟩ : ∃ gl, w.heap.size = gl := ⟨_, rfl⟩
  rw [hW, hgl] at HT
  rw [hW, hgl]
  have HGL := Aside0.mk hgl
  clear hW hgl
  go_loopg [16] m (fun g v16 wr => ∃ (i : Nat) (vl : Value) (l : List Nat) (A1 : Option Addr) (n1 c1 : Nat) (b1 : List UInt8), v16 = .int .i64 (i : Int) ∧ i ≤ m ∧ n1 ≤ 100000000 ∧ c1 ≤ 9223372036854775807 ∧ l.length ≤ 1000 ∧ Aside0 (g + i = m) ∧ Aside0 (l.length = i) ∧ Aside0 (TkR w wr gl vl l A1 n1 c1 b1) ∧ Aside0 ((take b1 (ws.drop i)).map (fun p => (l ++ p.1, p.2)) = take b ws))
  case atStart => exact ⟨0, _, [], A, n, c, b, rfl, by omega, hn, hc, by simp, ⟨rfl⟩, ⟨rfl⟩, HT, ⟨by simp⟩⟩
  case round =>
    obtain ⟨i, vl, l, A1, n1, c1, b1, rfl, hi, hn1, hc1, hl1, HK, HL1, HR, HP⟩ := hrel
    by_cases hlt : i < m
    · obtain ⟨Al, nl, cl, rfl⟩ := ownU_open HR.out.row
      obtain ⟨pa, hpa, e0, hwf⟩ := num_at (Kd.C_below HWC.out HR.out.rd.bel) i (by omega)
      subst hpa
      obtain ⟨x, hx⟩ : ∃ x, ws.getD i 0 = x := ⟨_, rfl⟩
      rw [hx] at e0 hwf
      have HX := Aside0.mk hx
      have hlt' : (i : Int) < (m : Int) := by omega
      have hd0 : decide ((i : Int) < (m : Int)) = true := decide_eq_true hlt'
      obtain ⟨hbl, hnb⟩ := C_len HR.out.rd.byt
      have hw8 := wd_pos x
      have HB1 := Aside0.mk hbl
      clear hx hwf hbl hnb
      go_wp2
      clear e0
      have HD := Aside0.mk (HR.out.below (below_drew (Below.refl _ _)))
      have hbw : w.heap.size ≤ wr.heap.size := HR.out.rd.bel.size
      have z0 : wr.cell? ⟨gl, 0, none⟩ = some (.slice Al nl cl) := HR.out.bl.cell
      by_cases hsh : b1.length < wd x
      · have HNone := Aside0.mk (show take b ws = none by rw [← HP.out, take_less (by rw [HWL.out]; exact hlt) HX.out hsh]; rfl)
        have HSH := Aside0.mk hsh
        clear hsh
        refine wp_region_any (by kernel_rfl) ?_
        rw [show ({ wr with drawn := wr.drawn + 1 } : World) = wr.drew from rfl]
        refine wpAny_take (i := 1) (oi := { dst := some 21, op := Op.move (Operand.tmp 7), type := 71, pos := "wire.go:53", after := #[], guard := none }) (v := ?_) rfl (by kernel_rfl) (by kernel_rfl) (by kernel_rfl) (fun _ _ _ h => take_put (by omega) h) (Or.inl ⟨by rfl, ?_⟩) ?_
        rotate_left
        · (intro w; go_simp; (try with_reducible rfl))
        (try simp only [Act.put, List.setIfInBounds_toArray, List.set_cons_zero, List.set_cons_succ])
        refine wpAny_take (i := 2) (oi := { dst := some 22, op := Op.move (Operand.tmp 9), type := 3, pos := "wire.go:53", after := #[], guard := none }) (v := ?_) rfl (by kernel_rfl) (by kernel_rfl) (by kernel_rfl) (fun _ _ _ h => take_put (by omega) h) (Or.inl ⟨by rfl, ?_⟩) ?_
        rotate_left
        · (intro w; go_simp; (try with_reducible rfl))
        (try simp only [Act.put, List.setIfInBounds_toArray, List.set_cons_zero, List.set_cons_succ])
        refine wpAny_ready (rs := [0, 3]) (by kernel_rfl) (by simp) ?_
        refine (AllReady.cons (o := { dst := some 20, op := Op.load 61 (Operand.tmp 4), type := 61, pos := "wire.go:53", after := #[], guard := none }) rfl (fun K hK => ?_) (AllReady.cons (o := { dst := some 23, op := Op.call { callee := Callee.value (Operand.func 31), args := #[Operand.tmp 22], argTypes := #[3] }, type := 3, pos := "wire.go:53", after := #[{ on := 2, ground := Ground.data }], guard := none }) rfl (fun K hK => ?_) AllReady.nil))
        · go_simp
          refine hK _ _ ?_
          clear hK K
          (try simp only [Act.put, List.setIfInBounds_toArray, List.set_cons_zero, List.set_cons_succ])
          refine wpAny_ready (rs := [3]) (by kernel_rfl) (by simp) ?_
          refine (AllReady.cons (o := { dst := some 23, op := Op.call { callee := Callee.value (Operand.func 31), args := #[Operand.tmp 22], argTypes := #[3] }, type := 3, pos := "wire.go:53", after := #[{ on := 2, ground := Ground.data }], guard := none }) rfl (fun K hK => ?_) AllReady.nil)
          go_simp
          refine (width_calls x _).mono ?_
          rintro e w7 ⟨rfl, rfl⟩
          refine hK _ _ ?_
          clear hK K
          (try simp only [Act.put, List.setIfInBounds_toArray, List.set_cons_zero, List.set_cons_succ])
          refine wpAny_ready (rs := [4]) (by kernel_rfl) (by simp) ?_
          refine (AllReady.cons (o := { dst := some 24, op := Op.call { callee := Callee.value (Operand.func 39), args := #[Operand.tmp 21, Operand.tmp 23], argTypes := #[71, 3] }, type := 23, pos := "wire.go:53", after := #[{ on := 1, ground := Ground.data }, { on := 3, ground := Ground.data }, { on := 3, ground := Ground.chain }], guard := none }) rfl (fun K hK => ?_) AllReady.nil)
          go_simp
          refine (number_short w _ (gl + 1 + 1 + 1) A1 n1 c1 b1 (wd x) HD.out.rd (by have := HSH.out; have := HB1.out; omega) hw8.2).mono ?_
          rintro e w8 ⟨u, pv, rfl, hb8⟩
          exact door_panic w w8 _ gl _ l A1 n1 c1 b1 (HD.out.below hb8) HNone.out _ u pv rfl rfl rfl
        · go_simp
          refine (width_calls x _).mono ?_
          rintro e w7 ⟨rfl, rfl⟩
          refine hK _ _ ?_
          clear hK K
          (try simp only [Act.put, List.setIfInBounds_toArray, List.set_cons_zero, List.set_cons_succ])
          refine wpAny_ready (rs := [0, 4]) (by kernel_rfl) (by simp) ?_
          refine (AllReady.cons (o := { dst := some 20, op := Op.load 61 (Operand.tmp 4), type := 61, pos := "wire.go:53", after := #[], guard := none }) rfl (fun K hK => ?_) (AllReady.cons (o := { dst := some 24, op := Op.call { callee := Callee.value (Operand.func 39), args := #[Operand.tmp 21, Operand.tmp 23], argTypes := #[71, 3] }, type := 23, pos := "wire.go:53", after := #[{ on := 1, ground := Ground.data }, { on := 3, ground := Ground.data }, { on := 3, ground := Ground.chain }], guard := none }) rfl (fun K hK => ?_) AllReady.nil))
          · go_simp
            refine hK _ _ ?_
            clear hK K
            (try simp only [Act.put, List.setIfInBounds_toArray, List.set_cons_zero, List.set_cons_succ])
            refine wpAny_ready (rs := [4]) (by kernel_rfl) (by simp) ?_
            refine (AllReady.cons (o := { dst := some 24, op := Op.call { callee := Callee.value (Operand.func 39), args := #[Operand.tmp 21, Operand.tmp 23], argTypes := #[71, 3] }, type := 23, pos := "wire.go:53", after := #[{ on := 1, ground := Ground.data }, { on := 3, ground := Ground.data }, { on := 3, ground := Ground.chain }], guard := none }) rfl (fun K hK => ?_) AllReady.nil)
            go_simp
            refine (number_short w _ (gl + 1 + 1 + 1) A1 n1 c1 b1 (wd x) HD.out.rd (by have := HSH.out; have := HB1.out; omega) hw8.2).mono ?_
            rintro e w8 ⟨u, pv, rfl, hb8⟩
            exact door_panic w w8 _ gl _ l A1 n1 c1 b1 (HD.out.below hb8) HNone.out _ u pv rfl rfl rfl
          · go_simp
            refine (number_short w _ (gl + 1 + 1 + 1) A1 n1 c1 b1 (wd x) HD.out.rd (by have := HSH.out; have := HB1.out; omega) hw8.2).mono ?_
            rintro e w8 ⟨u, pv, rfl, hb8⟩
            exact door_panic w w8 _ gl _ l A1 n1 c1 b1 (HD.out.below hb8) HNone.out _ u pv rfl rfl rfl
      · have HTM := Aside0.mk (take_more (by rw [HWL.out]; exact hlt) HX.out (by omega : wd x ≤ b1.length) l)
        have HSH := Aside0.mk hsh
        have HNL := Aside0.mk (show l.length ≤ 100000 by omega)
        clear hsh
        refine wp_region_any (by kernel_rfl) ?_
        rw [show ({ wr with drawn := wr.drawn + 1 } : World) = wr.drew from rfl]
        refine wpAny_take (i := 1) (oi := { dst := some 21, op := Op.move (Operand.tmp 7), type := 71, pos := "wire.go:53", after := #[], guard := none }) (v := ?_) rfl (by kernel_rfl) (by kernel_rfl) (by kernel_rfl) (fun _ _ _ h => take_put (by omega) h) (Or.inl ⟨by rfl, ?_⟩) ?_
        rotate_left
        · (intro w; go_simp; (try with_reducible rfl))
        (try simp only [Act.put, List.setIfInBounds_toArray, List.set_cons_zero, List.set_cons_succ])
        refine wpAny_take (i := 2) (oi := { dst := some 22, op := Op.move (Operand.tmp 9), type := 3, pos := "wire.go:53", after := #[], guard := none }) (v := ?_) rfl (by kernel_rfl) (by kernel_rfl) (by kernel_rfl) (fun _ _ _ h => take_put (by omega) h) (Or.inl ⟨by rfl, ?_⟩) ?_
        rotate_left
        · (intro w; go_simp; (try with_reducible rfl))
        (try simp only [Act.put, List.setIfInBounds_toArray, List.set_cons_zero, List.set_cons_succ])
        refine wpAny_ready (rs := [0, 3]) (by kernel_rfl) (by simp) ?_
        refine (AllReady.cons (o := { dst := some 20, op := Op.load 61 (Operand.tmp 4), type := 61, pos := "wire.go:53", after := #[], guard := none }) rfl (fun K hK => ?_) (AllReady.cons (o := { dst := some 23, op := Op.call { callee := Callee.value (Operand.func 31), args := #[Operand.tmp 22], argTypes := #[3] }, type := 3, pos := "wire.go:53", after := #[{ on := 2, ground := Ground.data }], guard := none }) rfl (fun K hK => ?_) AllReady.nil))
        · go_simp
          refine hK _ _ ?_
          clear hK K
          (try simp only [Act.put, List.setIfInBounds_toArray, List.set_cons_zero, List.set_cons_succ])
          refine wpAny_ready (rs := [3]) (by kernel_rfl) (by simp) ?_
          refine (AllReady.cons (o := { dst := some 23, op := Op.call { callee := Callee.value (Operand.func 31), args := #[Operand.tmp 22], argTypes := #[3] }, type := 3, pos := "wire.go:53", after := #[{ on := 2, ground := Ground.data }], guard := none }) rfl (fun K hK => ?_) AllReady.nil)
          go_simp
          refine (width_calls x _).mono ?_
          rintro e w7 ⟨rfl, rfl⟩
          refine hK _ _ ?_
          clear hK K
          (try simp only [Act.put, List.setIfInBounds_toArray, List.set_cons_zero, List.set_cons_succ])
          refine wpAny_ready (rs := [4]) (by kernel_rfl) (by simp) ?_
          refine (AllReady.cons (o := { dst := some 24, op := Op.call { callee := Callee.value (Operand.func 39), args := #[Operand.tmp 21, Operand.tmp 23], argTypes := #[71, 3] }, type := 23, pos := "wire.go:53", after := #[{ on := 1, ground := Ground.data }, { on := 3, ground := Ground.data }, { on := 3, ground := Ground.chain }], guard := none }) rfl (fun K hK => ?_) AllReady.nil)
          go_simp
          refine (number_next w _ (gl + 1 + 1 + 1) A1 n1 c1 b1 (wd x) HD.out.rd (by have := HSH.out; have := HB1.out; omega) hw8.2 hc1).mono ?_
          rintro e w8 ⟨rfl, ⟨A2, c2, hc2, hrd⟩, hg8⟩
          have HT8 := Aside0.mk (HD.out.num hrd hg8)
          have hs8 : wr.heap.size ≤ w8.heap.size := hg8.size
          have z0 : w8.cell? ⟨gl, 0, none⟩ = some (.slice Al nl cl) := HT8.out.bl.cell
          clear hrd hg8
          refine hK _ _ ?_
          clear hK K
          (try simp only [Act.put, List.setIfInBounds_toArray, List.set_cons_zero, List.set_cons_succ])
          refine wpAny_ready (rs := [5]) (by kernel_rfl) (by simp) ?_
          refine (AllReady.cons (o := { dst := some 25, op := Op.buildSlice 61 1 #[(0, Operand.tmp 24)], type := 61, pos := "wire.go:53", after := #[{ on := 4, ground := Ground.data }], guard := none }) rfl (fun K hK => ?_) AllReady.nil)
          go_simp
          refine hK _ _ ?_
          clear hK K
          (try simp only [Act.put, List.setIfInBounds_toArray, List.set_cons_zero, List.set_cons_succ])
          refine wpAny_ready (rs := [6]) (by kernel_rfl) (by simp) ?_
          refine (AllReady.cons (o := { dst := some 26, op := Op.call { callee := Callee.builtin Builtin.append, args := #[Operand.tmp 20, Operand.tmp 25], argTypes := #[61, 61] }, type := 61, pos := "wire.go:53", after := #[{ on := 0, ground := Ground.data }, { on := 5, ground := Ground.data }, { on := 4, ground := Ground.chain }], guard := none }) rfl (fun K hK => ?_) AllReady.nil)
          refine app_u64_step w.heap.size (.tmp 20) (.tmp 25) (by rfl) rfl _ l (un (b1.take (wd x))) (wf_un _ (by rw [List.length_take]; omega)) rfl (by simp [Act.eval]) HT8.out.row (by omega) HNL.out ?_
          intro v9 w9 hR9 hg9
          obtain ⟨A9, n9, c9, rfl⟩ := ownU_open hR9
          have HT9 := Aside0.mk (HT8.out.put hR9 hg9)
          have z9 : w9.cell? ⟨gl, 0, none⟩ = some (.slice Al nl cl) := (HT8.out.bl.kept hg9 (Kd.R_ne HT8.out.row (show w8.heap[gl]? = _ from HT8.out.bl) (by decide))).cell
          have zf9 : w9.frozen? ⟨gl, 0, none⟩ = false := (HT8.out.bl.kept hg9 (Kd.R_ne HT8.out.row (show w8.heap[gl]? = _ from HT8.out.bl) (by decide))).frozen
          clear hR9 hg9
          refine hK _ _ ?_
          clear hK K
          (try simp only [Act.put, List.setIfInBounds_toArray, List.set_cons_zero, List.set_cons_succ])
          refine wpAny_ready (rs := [7]) (by kernel_rfl) (by simp) ?_
          refine (AllReady.cons (o := { dst := none, op := Op.store 61 (Operand.tmp 4) (Operand.tmp 26), type := 0, pos := "wire.go:53", after := #[{ on := 6, ground := Ground.data }, { on := 6, ground := Ground.chain }, { on := 0, ground := Ground.phase }, { on := 1, ground := Ground.phase }, { on := 2, ground := Ground.phase }, { on := 3, ground := Ground.phase }, { on := 4, ground := Ground.phase }, { on := 5, ground := Ground.phase }, { on := 6, ground := Ground.phase }], guard := none }) rfl (fun K hK => ?_) AllReady.nil)
          go_simp
          refine hK _ _ ?_
          clear hK K
          (try simp only [Act.put, List.setIfInBounds_toArray, List.set_cons_zero, List.set_cons_succ])
          refine wpAny_done (by kernel_rfl) ?_ _
          go_wp2
          go_roundg (gk - 1)
          case measure => have := HK.out; omega
          case rel => exact ⟨i + 1, _, l ++ [un (b1.take (wd x))], A2, n1 - wd x, c2, b1.drop (wd x), by congr 1, by omega, by omega, hc2, by rw [List.length_append]; have := HL1.out; simp; omega, ⟨by have := HK.out; omega⟩, ⟨by rw [List.length_append, HL1.out]; rfl⟩, HT9, ⟨by rw [← HTM.out]; exact HP.out⟩⟩
        · go_simp
          refine (width_calls x _).mono ?_
          rintro e w7 ⟨rfl, rfl⟩
          refine hK _ _ ?_
          clear hK K
          (try simp only [Act.put, List.setIfInBounds_toArray, List.set_cons_zero, List.set_cons_succ])
          refine wpAny_ready (rs := [0, 4]) (by kernel_rfl) (by simp) ?_
          refine (AllReady.cons (o := { dst := some 20, op := Op.load 61 (Operand.tmp 4), type := 61, pos := "wire.go:53", after := #[], guard := none }) rfl (fun K hK => ?_) (AllReady.cons (o := { dst := some 24, op := Op.call { callee := Callee.value (Operand.func 39), args := #[Operand.tmp 21, Operand.tmp 23], argTypes := #[71, 3] }, type := 23, pos := "wire.go:53", after := #[{ on := 1, ground := Ground.data }, { on := 3, ground := Ground.data }, { on := 3, ground := Ground.chain }], guard := none }) rfl (fun K hK => ?_) AllReady.nil))
          · go_simp
            refine hK _ _ ?_
            clear hK K
            (try simp only [Act.put, List.setIfInBounds_toArray, List.set_cons_zero, List.set_cons_succ])
            refine wpAny_ready (rs := [4]) (by kernel_rfl) (by simp) ?_
            refine (AllReady.cons (o := { dst := some 24, op := Op.call { callee := Callee.value (Operand.func 39), args := #[Operand.tmp 21, Operand.tmp 23], argTypes := #[71, 3] }, type := 23, pos := "wire.go:53", after := #[{ on := 1, ground := Ground.data }, { on := 3, ground := Ground.data }, { on := 3, ground := Ground.chain }], guard := none }) rfl (fun K hK => ?_) AllReady.nil)
            go_simp
            refine (number_next w _ (gl + 1 + 1 + 1) A1 n1 c1 b1 (wd x) HD.out.rd (by have := HSH.out; have := HB1.out; omega) hw8.2 hc1).mono ?_
            rintro e w8 ⟨rfl, ⟨A2, c2, hc2, hrd⟩, hg8⟩
            have HT8 := Aside0.mk (HD.out.num hrd hg8)
            have hs8 : wr.heap.size ≤ w8.heap.size := hg8.size
            have z0 : w8.cell? ⟨gl, 0, none⟩ = some (.slice Al nl cl) := HT8.out.bl.cell
            clear hrd hg8
            refine hK _ _ ?_
            clear hK K
            (try simp only [Act.put, List.setIfInBounds_toArray, List.set_cons_zero, List.set_cons_succ])
            refine wpAny_ready (rs := [5]) (by kernel_rfl) (by simp) ?_
            refine (AllReady.cons (o := { dst := some 25, op := Op.buildSlice 61 1 #[(0, Operand.tmp 24)], type := 61, pos := "wire.go:53", after := #[{ on := 4, ground := Ground.data }], guard := none }) rfl (fun K hK => ?_) AllReady.nil)
            go_simp
            refine hK _ _ ?_
            clear hK K
            (try simp only [Act.put, List.setIfInBounds_toArray, List.set_cons_zero, List.set_cons_succ])
            refine wpAny_ready (rs := [6]) (by kernel_rfl) (by simp) ?_
            refine (AllReady.cons (o := { dst := some 26, op := Op.call { callee := Callee.builtin Builtin.append, args := #[Operand.tmp 20, Operand.tmp 25], argTypes := #[61, 61] }, type := 61, pos := "wire.go:53", after := #[{ on := 0, ground := Ground.data }, { on := 5, ground := Ground.data }, { on := 4, ground := Ground.chain }], guard := none }) rfl (fun K hK => ?_) AllReady.nil)
            refine app_u64_step w.heap.size (.tmp 20) (.tmp 25) (by rfl) rfl _ l (un (b1.take (wd x))) (wf_un _ (by rw [List.length_take]; omega)) rfl (by simp [Act.eval]) HT8.out.row (by omega) HNL.out ?_
            intro v9 w9 hR9 hg9
            obtain ⟨A9, n9, c9, rfl⟩ := ownU_open hR9
            have HT9 := Aside0.mk (HT8.out.put hR9 hg9)
            have z9 : w9.cell? ⟨gl, 0, none⟩ = some (.slice Al nl cl) := (HT8.out.bl.kept hg9 (Kd.R_ne HT8.out.row (show w8.heap[gl]? = _ from HT8.out.bl) (by decide))).cell
            have zf9 : w9.frozen? ⟨gl, 0, none⟩ = false := (HT8.out.bl.kept hg9 (Kd.R_ne HT8.out.row (show w8.heap[gl]? = _ from HT8.out.bl) (by decide))).frozen
            clear hR9 hg9
            refine hK _ _ ?_
            clear hK K
            (try simp only [Act.put, List.setIfInBounds_toArray, List.set_cons_zero, List.set_cons_succ])
            refine wpAny_ready (rs := [7]) (by kernel_rfl) (by simp) ?_
            refine (AllReady.cons (o := { dst := none, op := Op.store 61 (Operand.tmp 4) (Operand.tmp 26), type := 0, pos := "wire.go:53", after := #[{ on := 6, ground := Ground.data }, { on := 6, ground := Ground.chain }, { on := 0, ground := Ground.phase }, { on := 1, ground := Ground.phase }, { on := 2, ground := Ground.phase }, { on := 3, ground := Ground.phase }, { on := 4, ground := Ground.phase }, { on := 5, ground := Ground.phase }, { on := 6, ground := Ground.phase }], guard := none }) rfl (fun K hK => ?_) AllReady.nil)
            go_simp
            refine hK _ _ ?_
            clear hK K
            (try simp only [Act.put, List.setIfInBounds_toArray, List.set_cons_zero, List.set_cons_succ])
            refine wpAny_done (by kernel_rfl) ?_ _
            go_wp2
            go_roundg (gk - 1)
            case measure => have := HK.out; omega
            case rel => exact ⟨i + 1, _, l ++ [un (b1.take (wd x))], A2, n1 - wd x, c2, b1.drop (wd x), by congr 1, by omega, by omega, hc2, by rw [List.length_append]; have := HL1.out; simp; omega, ⟨by have := HK.out; omega⟩, ⟨by rw [List.length_append, HL1.out]; rfl⟩, HT9, ⟨by rw [← HTM.out]; exact HP.out⟩⟩
          · go_simp
            refine (number_next w _ (gl + 1 + 1 + 1) A1 n1 c1 b1 (wd x) HD.out.rd (by have := HSH.out; have := HB1.out; omega) hw8.2 hc1).mono ?_
            rintro e w8 ⟨rfl, ⟨A2, c2, hc2, hrd⟩, hg8⟩
            have HT8 := Aside0.mk (HD.out.num hrd hg8)
            have hs8 : wr.heap.size ≤ w8.heap.size := hg8.size
            have z0 : w8.cell? ⟨gl, 0, none⟩ = some (.slice Al nl cl) := HT8.out.bl.cell
            clear hrd hg8
            refine hK _ _ ?_
            clear hK K
            (try simp only [Act.put, List.setIfInBounds_toArray, List.set_cons_zero, List.set_cons_succ])
            refine wpAny_ready (rs := [0, 5]) (by kernel_rfl) (by simp) ?_
            refine (AllReady.cons (o := { dst := some 20, op := Op.load 61 (Operand.tmp 4), type := 61, pos := "wire.go:53", after := #[], guard := none }) rfl (fun K hK => ?_) (AllReady.cons (o := { dst := some 25, op := Op.buildSlice 61 1 #[(0, Operand.tmp 24)], type := 61, pos := "wire.go:53", after := #[{ on := 4, ground := Ground.data }], guard := none }) rfl (fun K hK => ?_) AllReady.nil))
            · go_simp
              refine hK _ _ ?_
              clear hK K
              (try simp only [Act.put, List.setIfInBounds_toArray, List.set_cons_zero, List.set_cons_succ])
              refine wpAny_ready (rs := [5]) (by kernel_rfl) (by simp) ?_
              refine (AllReady.cons (o := { dst := some 25, op := Op.buildSlice 61 1 #[(0, Operand.tmp 24)], type := 61, pos := "wire.go:53", after := #[{ on := 4, ground := Ground.data }], guard := none }) rfl (fun K hK => ?_) AllReady.nil)
              go_simp
              refine hK _ _ ?_
              clear hK K
              (try simp only [Act.put, List.setIfInBounds_toArray, List.set_cons_zero, List.set_cons_succ])
              refine wpAny_ready (rs := [6]) (by kernel_rfl) (by simp) ?_
              refine (AllReady.cons (o := { dst := some 26, op := Op.call { callee := Callee.builtin Builtin.append, args := #[Operand.tmp 20, Operand.tmp 25], argTypes := #[61, 61] }, type := 61, pos := "wire.go:53", after := #[{ on := 0, ground := Ground.data }, { on := 5, ground := Ground.data }, { on := 4, ground := Ground.chain }], guard := none }) rfl (fun K hK => ?_) AllReady.nil)
              refine app_u64_step w.heap.size (.tmp 20) (.tmp 25) (by rfl) rfl _ l (un (b1.take (wd x))) (wf_un _ (by rw [List.length_take]; omega)) rfl (by simp [Act.eval]) HT8.out.row (by omega) HNL.out ?_
              intro v9 w9 hR9 hg9
              obtain ⟨A9, n9, c9, rfl⟩ := ownU_open hR9
              have HT9 := Aside0.mk (HT8.out.put hR9 hg9)
              have z9 : w9.cell? ⟨gl, 0, none⟩ = some (.slice Al nl cl) := (HT8.out.bl.kept hg9 (Kd.R_ne HT8.out.row (show w8.heap[gl]? = _ from HT8.out.bl) (by decide))).cell
              have zf9 : w9.frozen? ⟨gl, 0, none⟩ = false := (HT8.out.bl.kept hg9 (Kd.R_ne HT8.out.row (show w8.heap[gl]? = _ from HT8.out.bl) (by decide))).frozen
              clear hR9 hg9
              refine hK _ _ ?_
              clear hK K
              (try simp only [Act.put, List.setIfInBounds_toArray, List.set_cons_zero, List.set_cons_succ])
              refine wpAny_ready (rs := [7]) (by kernel_rfl) (by simp) ?_
              refine (AllReady.cons (o := { dst := none, op := Op.store 61 (Operand.tmp 4) (Operand.tmp 26), type := 0, pos := "wire.go:53", after := #[{ on := 6, ground := Ground.data }, { on := 6, ground := Ground.chain }, { on := 0, ground := Ground.phase }, { on := 1, ground := Ground.phase }, { on := 2, ground := Ground.phase }, { on := 3, ground := Ground.phase }, { on := 4, ground := Ground.phase }, { on := 5, ground := Ground.phase }, { on := 6, ground := Ground.phase }], guard := none }) rfl (fun K hK => ?_) AllReady.nil)
              go_simp
              refine hK _ _ ?_
              clear hK K
              (try simp only [Act.put, List.setIfInBounds_toArray, List.set_cons_zero, List.set_cons_succ])
              refine wpAny_done (by kernel_rfl) ?_ _
              go_wp2
              go_roundg (gk - 1)
              case measure => have := HK.out; omega
              case rel => exact ⟨i + 1, _, l ++ [un (b1.take (wd x))], A2, n1 - wd x, c2, b1.drop (wd x), by congr 1, by omega, by omega, hc2, by rw [List.length_append]; have := HL1.out; simp; omega, ⟨by have := HK.out; omega⟩, ⟨by rw [List.length_append, HL1.out]; rfl⟩, HT9, ⟨by rw [← HTM.out]; exact HP.out⟩⟩
            · go_simp
              refine hK _ _ ?_
              clear hK K
              (try simp only [Act.put, List.setIfInBounds_toArray, List.set_cons_zero, List.set_cons_succ])
              have z0 := pw_cell_below (alloc_below w8 (.cells #[.int .u64 ((un (b1.take (wd x)) : Nat) : Int)] 23)) z0
              refine wpAny_ready (rs := [0]) (by kernel_rfl) (by simp) ?_
              refine (AllReady.cons (o := { dst := some 20, op := Op.load 61 (Operand.tmp 4), type := 61, pos := "wire.go:53", after := #[], guard := none }) rfl (fun K hK => ?_) AllReady.nil)
              go_simp
              refine hK _ _ ?_
              clear hK K
              (try simp only [Act.put, List.setIfInBounds_toArray, List.set_cons_zero, List.set_cons_succ])
              refine wpAny_ready (rs := [6]) (by kernel_rfl) (by simp) ?_
              refine (AllReady.cons (o := { dst := some 26, op := Op.call { callee := Callee.builtin Builtin.append, args := #[Operand.tmp 20, Operand.tmp 25], argTypes := #[61, 61] }, type := 61, pos := "wire.go:53", after := #[{ on := 0, ground := Ground.data }, { on := 5, ground := Ground.data }, { on := 4, ground := Ground.chain }], guard := none }) rfl (fun K hK => ?_) AllReady.nil)
              refine app_u64_step w.heap.size (.tmp 20) (.tmp 25) (by rfl) rfl _ l (un (b1.take (wd x))) (wf_un _ (by rw [List.length_take]; omega)) rfl (by simp [Act.eval]) HT8.out.row (by omega) HNL.out ?_
              intro v9 w9 hR9 hg9
              obtain ⟨A9, n9, c9, rfl⟩ := ownU_open hR9
              have HT9 := Aside0.mk (HT8.out.put hR9 hg9)
              have z9 : w9.cell? ⟨gl, 0, none⟩ = some (.slice Al nl cl) := (HT8.out.bl.kept hg9 (Kd.R_ne HT8.out.row (show w8.heap[gl]? = _ from HT8.out.bl) (by decide))).cell
              have zf9 : w9.frozen? ⟨gl, 0, none⟩ = false := (HT8.out.bl.kept hg9 (Kd.R_ne HT8.out.row (show w8.heap[gl]? = _ from HT8.out.bl) (by decide))).frozen
              clear hR9 hg9
              refine hK _ _ ?_
              clear hK K
              (try simp only [Act.put, List.setIfInBounds_toArray, List.set_cons_zero, List.set_cons_succ])
              refine wpAny_ready (rs := [7]) (by kernel_rfl) (by simp) ?_
              refine (AllReady.cons (o := { dst := none, op := Op.store 61 (Operand.tmp 4) (Operand.tmp 26), type := 0, pos := "wire.go:53", after := #[{ on := 6, ground := Ground.data }, { on := 6, ground := Ground.chain }, { on := 0, ground := Ground.phase }, { on := 1, ground := Ground.phase }, { on := 2, ground := Ground.phase }, { on := 3, ground := Ground.phase }, { on := 4, ground := Ground.phase }, { on := 5, ground := Ground.phase }, { on := 6, ground := Ground.phase }], guard := none }) rfl (fun K hK => ?_) AllReady.nil)
              go_simp
              refine hK _ _ ?_
              clear hK K
              (try simp only [Act.put, List.setIfInBounds_toArray, List.set_cons_zero, List.set_cons_succ])
              refine wpAny_done (by kernel_rfl) ?_ _
              go_wp2
              go_roundg (gk - 1)
              case measure => have := HK.out; omega
              case rel => exact ⟨i + 1, _, l ++ [un (b1.take (wd x))], A2, n1 - wd x, c2, b1.drop (wd x), by congr 1, by omega, by omega, hc2, by rw [List.length_append]; have := HL1.out; simp; omega, ⟨by have := HK.out; omega⟩, ⟨by rw [List.length_append, HL1.out]; rfl⟩, HT9, ⟨by rw [← HTM.out]; exact HP.out⟩⟩
    · obtain rfl : i = m := by omega
      obtain ⟨Al, nl, cl, rfl⟩ := ownU_open HR.out.row
      have hd0 : decide ((i : Int) < (i : Int)) = false := decide_eq_false (by omega)
      go_wp2
      have HRes := Aside0.mk (show take b ws = some (l, b1) by
        have h1 := HP.out
        rw [List.drop_of_length_le (by rw [HWL.out]; omega)] at h1
        rw [← h1]
        simp [take])
      have HD := Aside0.mk (HR.out.below (below_drew (Below.refl _ _)))
      have hbw : w.heap.size ≤ wr.heap.size := HR.out.rd.bel.size
      have z0 : wr.cell? ⟨gl, 0, none⟩ = some (.slice Al nl cl) := HR.out.bl.cell
      have zr : wr.cell? ⟨gl + 1 + 1 + 1, 0, none⟩ = some (.slice A1 n1 c1) := HR.out.rd.blk.cell
      have hglw : gl < wr.heap.size := (Array.getElem?_eq_some_iff.1 (show wr.heap[gl]? = _ from HR.out.bl)).1
      have HGW := Aside0.mk hglw
      clear hglw
      refine wp_region_any (by kernel_rfl) ?_
      rw [show ({ wr with drawn := wr.drawn + 1 } : World) = wr.drew from rfl]
      refine wpAny_take (i := 1) (oi := { dst := some 29, op := Op.move (Operand.tmp 7), type := 71, pos := "wire.go:55", after := #[], guard := none }) (v := ?_) rfl (by kernel_rfl) (by kernel_rfl) (by kernel_rfl) (fun _ _ _ h => take_put (by omega) h) (Or.inl ⟨by rfl, ?_⟩) ?_
      rotate_left
      · (intro w; go_simp; (try with_reducible rfl))
      (try simp only [Act.put, List.setIfInBounds_toArray, List.set_cons_zero, List.set_cons_succ])
      refine wpAny_take (i := 2) (oi := { dst := some 30, op := Op.nilCheck (Operand.tmp 29), type := 0, pos := "wire.go:55", after := #[{ on := 1, ground := Ground.data }], guard := none }) (v := ?_) rfl (by kernel_rfl) (by kernel_rfl) (by kernel_rfl) (fun _ _ _ h => take_put (by omega) h) (Or.inl ⟨by rfl, ?_⟩) ?_
      rotate_left
      · (intro w; go_simp; (try with_reducible rfl))
      (try simp only [Act.put, List.setIfInBounds_toArray, List.set_cons_zero, List.set_cons_succ])
      refine wpAny_take (i := 3) (oi := { dst := some 31, op := Op.fieldAddr 73 (Operand.tmp 30) 0, type := 0, pos := "wire.go:55", after := #[{ on := 2, ground := Ground.data }], guard := none }) (v := ?_) rfl (by kernel_rfl) (by kernel_rfl) (by kernel_rfl) (fun _ _ _ h => take_put (by omega) h) (Or.inl ⟨by rfl, ?_⟩) ?_
      rotate_left
      · (intro w; go_simp; (try with_reducible rfl))
      (try simp only [Act.put, List.setIfInBounds_toArray, List.set_cons_zero, List.set_cons_succ])
      refine wpAny_ready (rs := [0, 4]) (by kernel_rfl) (by simp) ?_
      refine (AllReady.cons (o := { dst := some 28, op := Op.load 61 (Operand.tmp 4), type := 61, pos := "wire.go:55", after := #[], guard := none }) rfl (fun K hK => ?_) (AllReady.cons (o := { dst := some 32, op := Op.load 27 (Operand.tmp 31), type := 27, pos := "wire.go:55", after := #[{ on := 3, ground := Ground.data }], guard := none }) rfl (fun K hK => ?_) AllReady.nil))
      · go_simp
        refine hK _ _ ?_
        clear hK K
        (try simp only [Act.put, List.setIfInBounds_toArray, List.set_cons_zero, List.set_cons_succ])
        refine wpAny_ready (rs := [4]) (by kernel_rfl) (by simp) ?_
        refine (AllReady.cons (o := { dst := some 32, op := Op.load 27 (Operand.tmp 31), type := 27, pos := "wire.go:55", after := #[{ on := 3, ground := Ground.data }], guard := none }) rfl (fun K hK => ?_) AllReady.nil)
        go_simp
        refine hK _ _ ?_
        clear hK K
        (try simp only [Act.put, List.setIfInBounds_toArray, List.set_cons_zero, List.set_cons_succ])
        refine wpAny_ready (rs := [5]) (by kernel_rfl) (by simp) ?_
        refine (AllReady.cons (o := { dst := some 33, op := Op.call { callee := Callee.value (Operand.func 40), args := #[Operand.tmp 32], argTypes := #[27] }, type := 27, pos := "wire.go:55", after := #[{ on := 4, ground := Ground.data }], guard := none }) rfl (fun K hK => ?_) AllReady.nil)
        go_simp
        refine (clone_calls A1 n1 c1 b1 (by omega) _ (Kd.C_below HD.out.rd.byt HD.out.rd.bel)).mono ?_
        rintro e w8 ⟨v8, rfl, hO8, hb8⟩
        obtain ⟨A8, n8, c8, rfl, -, -⟩ := hO8.reads
        have HT8 := Aside0.mk (HD.out.below hb8)
        have HO8 := Aside0.mk hO8
        have z0 : w8.cell? ⟨gl, 0, none⟩ = some (.slice Al nl cl) := HT8.out.bl.cell
        clear hO8 hb8
        refine hK _ _ ?_
        clear hK K
        (try simp only [Act.put, List.setIfInBounds_toArray, List.set_cons_zero, List.set_cons_succ])
        refine wpAny_ready (rs := [6]) (by kernel_rfl) (by simp) ?_
        refine (AllReady.cons (o := { dst := none, op := Op.store 61 (Operand.tmp 4) (Operand.tmp 28), type := 0, pos := "wire.go:55", after := #[{ on := 0, ground := Ground.data }, { on := 5, ground := Ground.chain }, { on := 0, ground := Ground.phase }, { on := 1, ground := Ground.textOnly Departure.lateStoresUnsure }, { on := 2, ground := Ground.textOnly Departure.lateStoresUnsure }, { on := 3, ground := Ground.textOnly Departure.lateStoresUnsure }, { on := 4, ground := Ground.textOnly Departure.lateStoresUnsure }, { on := 5, ground := Ground.textOnly Departure.lateStoresUnsure }], guard := none }) rfl (fun K hK => ?_) AllReady.nil)
        have zf0 : w8.frozen? ⟨gl, 0, none⟩ = false := HT8.out.bl.frozen
        go_simp
        refine hK _ _ ?_
        clear hK K
        (try simp only [Act.put, List.setIfInBounds_toArray, List.set_cons_zero, List.set_cons_succ])
        refine wpAny_ready (rs := [7]) (by kernel_rfl) (by simp) ?_
        refine (AllReady.cons (o := { dst := none, op := Op.store 27 (Operand.tmp 5) (Operand.tmp 33), type := 0, pos := "wire.go:55", after := #[{ on := 5, ground := Ground.data }, { on := 6, ground := Ground.chain }, { on := 0, ground := Ground.phase }, { on := 1, ground := Ground.phase }, { on := 2, ground := Ground.phase }, { on := 3, ground := Ground.phase }, { on := 4, ground := Ground.phase }, { on := 5, ground := Ground.phase }, { on := 6, ground := Ground.phase }], guard := none }) rfl (fun K hK => ?_) AllReady.nil)
        have HU := Aside0.mk (last_u HT8.out)
        have z1 := HU.out.1.cell
        have zf1 := HU.out.1.frozen
        go_simp
        refine hK _ _ ?_
        clear hK K
        (try simp only [Act.put, List.setIfInBounds_toArray, List.set_cons_zero, List.set_cons_succ])
        refine wpAny_ready (rs := [8]) (by kernel_rfl) (by simp) ?_
        refine (AllReady.cons (o := { dst := none, op := Op.store 4 (Operand.tmp 6) (Operand.const (Value.bool true)), type := 0, pos := "wire.go:55", after := #[{ on := 7, ground := Ground.chain }, { on := 0, ground := Ground.phase }, { on := 1, ground := Ground.phase }, { on := 2, ground := Ground.phase }, { on := 3, ground := Ground.phase }, { on := 4, ground := Ground.phase }, { on := 5, ground := Ground.phase }, { on := 6, ground := Ground.phase }, { on := 7, ground := Ground.phase }], guard := none }) rfl (fun K hK => ?_) AllReady.nil)
        have HU2 := Aside0.mk (last_u2 HT8.out (.slice A8 n8 c8))
        have z2 := HU2.out.cell
        have zf2 := HU2.out.frozen
        go_simp
        refine hK _ _ ?_
        clear hK K
        (try simp only [Act.put, List.setIfInBounds_toArray, List.set_cons_zero, List.set_cons_succ])
        refine wpAny_done (by kernel_rfl) ?_ _
        go_wp2
        exact door_ret w w8 _ gl _ l A1 n1 c1 b1 b1 _ HT8.out (own_lower HO8.out hbw) HRes.out _ rfl rfl rfl
      · go_simp
        refine hK _ _ ?_
        clear hK K
        (try simp only [Act.put, List.setIfInBounds_toArray, List.set_cons_zero, List.set_cons_succ])
        refine wpAny_ready (rs := [0, 5]) (by kernel_rfl) (by simp) ?_
        refine (AllReady.cons (o := { dst := some 28, op := Op.load 61 (Operand.tmp 4), type := 61, pos := "wire.go:55", after := #[], guard := none }) rfl (fun K hK => ?_) (AllReady.cons (o := { dst := some 33, op := Op.call { callee := Callee.value (Operand.func 40), args := #[Operand.tmp 32], argTypes := #[27] }, type := 27, pos := "wire.go:55", after := #[{ on := 4, ground := Ground.data }], guard := none }) rfl (fun K hK => ?_) AllReady.nil))
        · go_simp
          refine hK _ _ ?_
          clear hK K
          (try simp only [Act.put, List.setIfInBounds_toArray, List.set_cons_zero, List.set_cons_succ])
          refine wpAny_ready (rs := [5]) (by kernel_rfl) (by simp) ?_
          refine (AllReady.cons (o := { dst := some 33, op := Op.call { callee := Callee.value (Operand.func 40), args := #[Operand.tmp 32], argTypes := #[27] }, type := 27, pos := "wire.go:55", after := #[{ on := 4, ground := Ground.data }], guard := none }) rfl (fun K hK => ?_) AllReady.nil)
          go_simp
          refine (clone_calls A1 n1 c1 b1 (by omega) _ (Kd.C_below HD.out.rd.byt HD.out.rd.bel)).mono ?_
          rintro e w8 ⟨v8, rfl, hO8, hb8⟩
          obtain ⟨A8, n8, c8, rfl, -, -⟩ := hO8.reads
          have HT8 := Aside0.mk (HD.out.below hb8)
          have HO8 := Aside0.mk hO8
          have z0 : w8.cell? ⟨gl, 0, none⟩ = some (.slice Al nl cl) := HT8.out.bl.cell
          clear hO8 hb8
          refine hK _ _ ?_
          clear hK K
          (try simp only [Act.put, List.setIfInBounds_toArray, List.set_cons_zero, List.set_cons_succ])
          refine wpAny_ready (rs := [6]) (by kernel_rfl) (by simp) ?_
          refine (AllReady.cons (o := { dst := none, op := Op.store 61 (Operand.tmp 4) (Operand.tmp 28), type := 0, pos := "wire.go:55", after := #[{ on := 0, ground := Ground.data }, { on := 5, ground := Ground.chain }, { on := 0, ground := Ground.phase }, { on := 1, ground := Ground.textOnly Departure.lateStoresUnsure }, { on := 2, ground := Ground.textOnly Departure.lateStoresUnsure }, { on := 3, ground := Ground.textOnly Departure.lateStoresUnsure }, { on := 4, ground := Ground.textOnly Departure.lateStoresUnsure }, { on := 5, ground := Ground.textOnly Departure.lateStoresUnsure }], guard := none }) rfl (fun K hK => ?_) AllReady.nil)
          have zf0 : w8.frozen? ⟨gl, 0, none⟩ = false := HT8.out.bl.frozen
          go_simp
          refine hK _ _ ?_
          clear hK K
          (try simp only [Act.put, List.setIfInBounds_toArray, List.set_cons_zero, List.set_cons_succ])
          refine wpAny_ready (rs := [7]) (by kernel_rfl) (by simp) ?_
          refine (AllReady.cons (o := { dst := none, op := Op.store 27 (Operand.tmp 5) (Operand.tmp 33), type := 0, pos := "wire.go:55", after := #[{ on := 5, ground := Ground.data }, { on := 6, ground := Ground.chain }, { on := 0, ground := Ground.phase }, { on := 1, ground := Ground.phase }, { on := 2, ground := Ground.phase }, { on := 3, ground := Ground.phase }, { on := 4, ground := Ground.phase }, { on := 5, ground := Ground.phase }, { on := 6, ground := Ground.phase }], guard := none }) rfl (fun K hK => ?_) AllReady.nil)
          have HU := Aside0.mk (last_u HT8.out)
          have z1 := HU.out.1.cell
          have zf1 := HU.out.1.frozen
          go_simp
          refine hK _ _ ?_
          clear hK K
          (try simp only [Act.put, List.setIfInBounds_toArray, List.set_cons_zero, List.set_cons_succ])
          refine wpAny_ready (rs := [8]) (by kernel_rfl) (by simp) ?_
          refine (AllReady.cons (o := { dst := none, op := Op.store 4 (Operand.tmp 6) (Operand.const (Value.bool true)), type := 0, pos := "wire.go:55", after := #[{ on := 7, ground := Ground.chain }, { on := 0, ground := Ground.phase }, { on := 1, ground := Ground.phase }, { on := 2, ground := Ground.phase }, { on := 3, ground := Ground.phase }, { on := 4, ground := Ground.phase }, { on := 5, ground := Ground.phase }, { on := 6, ground := Ground.phase }, { on := 7, ground := Ground.phase }], guard := none }) rfl (fun K hK => ?_) AllReady.nil)
          have HU2 := Aside0.mk (last_u2 HT8.out (.slice A8 n8 c8))
          have z2 := HU2.out.cell
          have zf2 := HU2.out.frozen
          go_simp
          refine hK _ _ ?_
          clear hK K
          (try simp only [Act.put, List.setIfInBounds_toArray, List.set_cons_zero, List.set_cons_succ])
          refine wpAny_done (by kernel_rfl) ?_ _
          go_wp2
          exact door_ret w w8 _ gl _ l A1 n1 c1 b1 b1 _ HT8.out (own_lower HO8.out hbw) HRes.out _ rfl rfl rfl
        · go_simp
          refine (clone_calls A1 n1 c1 b1 (by omega) _ (Kd.C_below HD.out.rd.byt HD.out.rd.bel)).mono ?_
          rintro e w8 ⟨v8, rfl, hO8, hb8⟩
          obtain ⟨A8, n8, c8, rfl, -, -⟩ := hO8.reads
          have HT8 := Aside0.mk (HD.out.below hb8)
          have HO8 := Aside0.mk hO8
          have z0 : w8.cell? ⟨gl, 0, none⟩ = some (.slice Al nl cl) := HT8.out.bl.cell
          clear hO8 hb8
          refine hK _ _ ?_
          clear hK K
          (try simp only [Act.put, List.setIfInBounds_toArray, List.set_cons_zero, List.set_cons_succ])
          refine wpAny_ready (rs := [0]) (by kernel_rfl) (by simp) ?_
          refine (AllReady.cons (o := { dst := some 28, op := Op.load 61 (Operand.tmp 4), type := 61, pos := "wire.go:55", after := #[], guard := none }) rfl (fun K hK => ?_) AllReady.nil)
          go_simp
          refine hK _ _ ?_
          clear hK K
          (try simp only [Act.put, List.setIfInBounds_toArray, List.set_cons_zero, List.set_cons_succ])
          refine wpAny_ready (rs := [6]) (by kernel_rfl) (by simp) ?_
          refine (AllReady.cons (o := { dst := none, op := Op.store 61 (Operand.tmp 4) (Operand.tmp 28), type := 0, pos := "wire.go:55", after := #[{ on := 0, ground := Ground.data }, { on := 5, ground := Ground.chain }, { on := 0, ground := Ground.phase }, { on := 1, ground := Ground.textOnly Departure.lateStoresUnsure }, { on := 2, ground := Ground.textOnly Departure.lateStoresUnsure }, { on := 3, ground := Ground.textOnly Departure.lateStoresUnsure }, { on := 4, ground := Ground.textOnly Departure.lateStoresUnsure }, { on := 5, ground := Ground.textOnly Departure.lateStoresUnsure }], guard := none }) rfl (fun K hK => ?_) AllReady.nil)
          have zf0 : w8.frozen? ⟨gl, 0, none⟩ = false := HT8.out.bl.frozen
          go_simp
          refine hK _ _ ?_
          clear hK K
          (try simp only [Act.put, List.setIfInBounds_toArray, List.set_cons_zero, List.set_cons_succ])
          refine wpAny_ready (rs := [7]) (by kernel_rfl) (by simp) ?_
          refine (AllReady.cons (o := { dst := none, op := Op.store 27 (Operand.tmp 5) (Operand.tmp 33), type := 0, pos := "wire.go:55", after := #[{ on := 5, ground := Ground.data }, { on := 6, ground := Ground.chain }, { on := 0, ground := Ground.phase }, { on := 1, ground := Ground.phase }, { on := 2, ground := Ground.phase }, { on := 3, ground := Ground.phase }, { on := 4, ground := Ground.phase }, { on := 5, ground := Ground.phase }, { on := 6, ground := Ground.phase }], guard := none }) rfl (fun K hK => ?_) AllReady.nil)
          have HU := Aside0.mk (last_u HT8.out)
          have z1 := HU.out.1.cell
          have zf1 := HU.out.1.frozen
          go_simp
          refine hK _ _ ?_
          clear hK K
          (try simp only [Act.put, List.setIfInBounds_toArray, List.set_cons_zero, List.set_cons_succ])
          refine wpAny_ready (rs := [8]) (by kernel_rfl) (by simp) ?_
          refine (AllReady.cons (o := { dst := none, op := Op.store 4 (Operand.tmp 6) (Operand.const (Value.bool true)), type := 0, pos := "wire.go:55", after := #[{ on := 7, ground := Ground.chain }, { on := 0, ground := Ground.phase }, { on := 1, ground := Ground.phase }, { on := 2, ground := Ground.phase }, { on := 3, ground := Ground.phase }, { on := 4, ground := Ground.phase }, { on := 5, ground := Ground.phase }, { on := 6, ground := Ground.phase }, { on := 7, ground := Ground.phase }], guard := none }) rfl (fun K hK => ?_) AllReady.nil)
          have HU2 := Aside0.mk (last_u2 HT8.out (.slice A8 n8 c8))
          have z2 := HU2.out.cell
          have zf2 := HU2.out.frozen
          go_simp
          refine hK _ _ ?_
          clear hK K
          (try simp only [Act.put, List.setIfInBounds_toArray, List.set_cons_zero, List.set_cons_succ])
          refine wpAny_done (by kernel_rfl) ?_ _
          go_wp2
          exact door_ret w w8 _ gl _ l A1 n1 c1 b1 b1 _ HT8.out (own_lower HO8.out hbw) HRes.out _ rfl rfl rfl
end Go.Proofs.YtefgahakbnfdeaaDoor.Rc
