/- rec.Encode: a record as a block. -/
import Derived.Test.YtefgahakbnfdeaaDoorRecSum
import Derived.Test.YtefgahakbnfdeaaDoorWZeros
import Derived.Laws.CopyOwn
import Derived.Handy
namespace Go.Proofs.YtefgahakbnfdeaaDoor.Rc
open Go.RowKit Go.Proofs.YtefgahakbnfdeaaDoorW.PrintWords Go.Proofs.YtefgahakbnfdeaaDoorW.PrintMore Go.Proofs.YtefgahakbnfdeaaDoor.Base
set_option linter.unusedVariables false
set_option linter.unusedSimpArgs false

theorem own_typed {w : World} {b : Nat} {v : Value} {xs : List UInt8} (h : Base.Own w b v xs) : w.ownsRow b 5 1 v xs.length (xs.map fun x => .int .u8 (x.toNat : Int)) := Kd.own_of_R h
theorem own_mk {w : World} {b : Nat} {v : Value} {xs : List UInt8} (h : w.ownsRow b 5 1 v xs.length (xs.map fun x => .int .u8 (x.toNat : Int))) : Base.Own w b v xs := Kd.R_of_own h (fun _ _ => trivial)
section
variable {ops : Array Oper} {rest : List Oper} {o : Oper} {a : Act} {Q : Exit → Act → World → Prop} {K : Act → World → Prop} {E : Prop}
/-- copy(out[k:], ys) -/
theorem copy_step {w0 W : World} (base : Nat) (hgd : o.guard = none) (d s : Operand) (ho : o.op = .call { callee := .builtin .copy, args := #[d, s], argTypes := #[27, 27] })
    (g n c : Nat) (xs ys : List UInt8) (k : Nat) (B : Option Addr) (m c' : Nat) (hd : a.eval d = .slice (some ⟨g, k, none⟩) (n - k) (c - k)) (hs : a.eval s = .slice B m c')
    (HO : Base.Own W base (.slice (some ⟨g, 0, none⟩) n c) xs) (HR : byte.C W B m ys) (hk : k + m ≤ n) (hm : 0 < m) (HB : Below base w0 W)
    (h : ∀ w', Base.Own w' base (.slice (some ⟨g, 0, none⟩) n c) (xs.take k ++ (ys ++ xs.drop (k + m))) → Below base w0 w' → K (a.put o.dst (.int .i64 (m : Int))) w') :
    if Region.wanted o (yielded ops a.tmps) = true then Oper.wp Tryd.prog o a W K Q else E := by
  obtain ⟨hl, hh⟩ := own_typed HO
  have hn : xs.length = n := by obtain ⟨A, q, he, _, _⟩ := Kd.R_reads HO; injection he with _ he; exact he.symm
  rcases hh with ⟨he, _⟩ | ⟨g', cap, cur, he, hbg, hblk, hnc, hcm, hcs, htk⟩
  · cases he
  · simp only [Value.slice.injEq, Option.some.injEq, Addr.mk.injEq, and_true] at he
    obtain ⟨rfl, -, rfl⟩ := he
    have hys : ys.length = m := HR.1
    have hcl : cur.toList.length = c := by simpa using hcs
    refine step_copy_splice hgd d s 27 27 ho 5 Tryd.underlying27 (by kernel_rfl) _ B (n - k) (c - k) m c' hd hs g k cur.toList 5 (by simpa using hblk) (ys.map fun x => .int .u8 (x.toNat : Int))
      (by rw [List.length_map, hys]; exact (Nat.min_eq_left (by omega)).symm) (fun _ => ⟨rfl, ?_⟩) (by rw [List.length_map, hys, hcl]; omega) (by intro v hv; obtain ⟨x, _, rfl⟩ := List.mem_map.1 hv; rfl) base w0 HB hbg (fun w' hw' hB' => ?_)
    · obtain ⟨ad, hA, -⟩ := byte_at HR 0 hm
      refine ⟨ad, hA, fun j v hv => ?_⟩
      rw [List.getElem?_map] at hv
      obtain ⟨x, hx, rfl⟩ := Option.map_eq_some_iff.1 hv
      have hj : j < m := by have := (List.getElem?_eq_some_iff.1 hx).1; omega
      obtain ⟨ad', hA', hc⟩ := byte_at HR j hj
      rw [hA] at hA'
      injection hA' with hA'
      subst hA'
      rw [List.getD_eq_getElem?_getD, hx] at hc
      exact hc
    · have hres : goInt (ys.map fun x => Value.int .u8 (x.toNat : Int)).length = .int .i64 (m : Int) := by rw [List.length_map, hys]; rfl
      rw [hres]
      refine h w' (own_mk ⟨by rw [List.length_map, Nat.mul_one], .inr ⟨g, c, _, ?_, hbg, hw'.out, ?_, hcm, ?_, ?_⟩⟩) hB'
      · rw [show (xs.take k ++ (ys ++ xs.drop (k + m))).length = n from by simp only [List.length_append, List.length_take, List.length_drop]; omega]
      · simp only [List.length_append, List.length_take, List.length_drop]; omega
      · have := length_splice cur.toList k (ys.map fun x => Value.int .u8 (x.toNat : Int)) (by rw [List.length_map]; omega)
        simp only [List.size_toArray, this, hcl, Nat.mul_one]
      · have e : (xs.take k ++ (ys ++ xs.drop (k + m))).length * 1 = n := by simp only [List.length_append, List.length_take, List.length_drop]; omega
        rw [e]
        have htk' : cur.toList.take n = xs.map fun x => .int .u8 (x.toNat : Int) := by rw [← htk, hn, Nat.mul_one]
        simp only [splice, List.length_map, hys, List.map_append, List.map_take, List.map_drop]
        rw [← htk']
        rw [List.take_append, List.take_append, List.length_take, List.length_map, hys, List.take_take, List.take_take, List.drop_take, List.take_of_length_le (l := ys.map _) (by rw [List.length_map]; omega)]
        rw [hcl, Nat.min_eq_left (show k ≤ c by omega), Nat.min_eq_right (show k ≤ n by omega), Nat.min_eq_left (show k ≤ n by omega), show n - k - m = n - (k + m) from by omega]
end
theorem wid_lit (W : World) (ws : List Int) (vs : Array Value) (hv : vs.toList = ws.map fun x => .int .i64 x) (hw : ∀ x ∈ ws, (Lit.int .i64 x).wf = true) (hl : ws.length ≤ 1000) : (num .i64).C (W.alloc (.cells vs 3)) (some ⟨W.heap.size, 0, none⟩) ws.length ws := by
  refine C_lit rfl ?_ rfl rfl (by omega)
  rw [hv]
  clear hv hl
  induction ws with
  | nil => exact trivial
  | cons x l ih => exact ⟨⟨rfl, hw x (by simp)⟩, ih (fun y hy => hw y (by simp [hy]))⟩
theorem val_lit (W : World) (ws : List Nat) (vs : Array Value) (hv : vs.toList = ws.map fun (x : Nat) => .int .u64 (x : Int)) (hw : ∀ x ∈ ws, x < 18446744073709551616) (hl : ws.length ≤ 1000) : (nat .u64).C (W.alloc (.cells vs 23)) (some ⟨W.heap.size, 0, none⟩) ws.length ws := by
  refine C_lit rfl ?_ rfl rfl (by omega)
  rw [hv]
  clear hv hl
  induction ws with
  | nil => exact trivial
  | cons x l ih => exact ⟨⟨rfl, wfN rfl (by have := hw x (by simp); show (x : Int) < 18446744073709551616; omega)⟩, ih (fun y hy => hw y (by simp [hy]))⟩
/-- Pack of literals. -/
theorem pack_lits (w W : World) (ws : List Int) (vs : List Nat) (wv vv : Array Value) (B : World) (hB : B = (W.alloc (.cells wv 3)).alloc (.cells vv 23)) (g1 g2 n1 n2 : Nat) (h1 : g1 = W.heap.size) (h2 : g2 = W.heap.size + 1) (e1 : n1 = ws.length) (e2 : n2 = vs.length)
    (hwv : wv.toList = ws.map fun x => .int .i64 x) (hw : ∀ x ∈ ws, (Lit.int .i64 x).wf = true) (hvv : vv.toList = vs.map fun (x : Nat) => .int .u64 (x : Int)) (hv : ∀ x ∈ vs, x < 18446744073709551616) (hwl : ws.length ≤ 1000) (hvl : vs.length ≤ 1000) (hb : Below w.heap.size w W) :
    Calls Tryd.prog 20 #[.slice (some ⟨g1, 0, none⟩) n1 n1, .slice (some ⟨g2, 0, none⟩) n2 n2] B fun e w' => ∃ v, e = .returned v ∧ Base.Own w' W.heap.size v (pack ws vs) ∧ Below w.heap.size w w' ∧ Below W.heap.size W w' := by
  subst hB h1 h2 e1 e2
  have c1 := Kd.C_below (wid_lit W ws wv hwv hw hwl) (alloc_below (W.alloc (.cells wv 3)) (.cells vv 23))
  have c2 := val_lit (W.alloc (.cells wv 3)) vs vv hvv hv hvl
  have hz : (W.alloc (.cells wv 3)).heap.size = W.heap.size + 1 := by simp
  rw [hz] at c2
  refine (pack_calls _ _ _ ws _ _ _ vs _ c1 c2 hwl hvl).mono ?_
  rintro e w' ⟨v, rfl, hO, hb'⟩
  have hbW : Below W.heap.size W w' := below_go (below_alloc (alloc_below W _) _) hb'
  exact ⟨v, rfl, Kd.R_lower hO (by simp; omega), below_go hb hbW, hbW⟩
section
variable {ops : Array Oper} {rest : List Oper} {o : Oper} {a : Act} {Q : Exit → Act → World → Prop}
/-- append(v, make([]byte, n)...) -/
theorem app_zeros {w0 W : World} (base : Nat) (s x : Operand) (hgd : o.guard = none) (ho : o.op = .call { callee := .builtin .append, args := #[s, x], argTypes := #[27, 3] })
    (v : Value) (xs : List UInt8) (n : Int) (hs : a.eval s = v) (hx : a.eval x = .int .i64 n) (HO : Base.Own W base v xs) (h0 : 0 ≤ n) (HB : Below base w0 W) (hbase : base ≤ W.heap.size) (hl : xs.length + n.toNat ≤ 140737488355328)
    (h : ∀ v1 w1, Base.Own w1 base v1 (xs ++ List.replicate n.toNat 0) → Below base w0 w1 → W.grownBy w1 v.ownBlock → wpList Tryd.prog ops Q rest (a.put o.dst v1) w1) : wpList Tryd.prog ops Q (o :: rest) a W :=
  Kd.R_append_zeros byte (w0 := w0) base hgd s x 27 3 5 (.int .u8 0) 1 ho Tryd.underlying27 Tryd.underlying3 info_u8 rfl (by decide) (by decide) v xs 0 n anyB hs hx rfl (fun _ _ => trivial) HO h0 HB hbase (by omega) (fun v1 w1 h1 h2 h3 _ => h v1 w1 h1 h2 h3)
/-- The same, a byte being stored at the end then. -/
theorem app_zeros2 {w0 W : World} (base : Nat) (s x : Operand) (hgd : o.guard = none) (ho : o.op = .call { callee := .builtin .append, args := #[s, x], argTypes := #[27, 3] })
    (v : Value) (xs : List UInt8) (n : Int) (hs : a.eval s = v) (hx : a.eval x = .int .i64 n) (HO : Base.Own W base v xs) (h0 : 0 ≤ n) (HB : Below base w0 W) (hbase : base ≤ W.heap.size) (hl : xs.length + n.toNat ≤ 140737488355328)
    (m : Nat) (hm : xs.length + n.toNat = m) (hm0 : 0 < m) (e : UInt8)
    (h : ∀ g c w1, base ≤ g → w1.cell? ⟨g, m - 1, none⟩ = some (.int .u8 ((((xs ++ List.replicate n.toNat (0 : UInt8)).getD (m - 1) 0).toNat : Nat) : Int)) → w1.frozen? ⟨g, m - 1, none⟩ = false →
      Base.Own (w1.setCell ⟨g, m - 1, none⟩ (.int .u8 (e.toNat : Int))) base (.slice (some ⟨g, 0, none⟩) m c) ((xs ++ List.replicate n.toNat 0).set (m - 1) e) → m ≤ c → Below base w0 w1 → wpList Tryd.prog ops Q rest (a.put o.dst (.slice (some ⟨g, 0, none⟩) m c)) w1) : wpList Tryd.prog ops Q (o :: rest) a W := by
  refine app_zeros base s x hgd ho v xs n hs hx HO h0 HB hbase hl (fun v1 w1 h1 h2 h3 => ?_)
  have hml : (xs ++ List.replicate n.toNat (0 : UInt8)).length = m := by rw [List.length_append, List.length_replicate]; exact hm
  obtain ⟨g, n8, c8, rfl, hn8, hg8, hc8, hz8, hO9⟩ := h1.store (m - 1) (by omega) e
  obtain rfl : n8 = m := by omega
  obtain ⟨A, q, he, hq, _⟩ := Kd.R_reads h1
  simp only [Value.slice.injEq] at he
  exact h g c8 w1 hg8 hc8 hz8 hO9 (by omega) h2
end
theorem own_C {w : World} {b g n c : Nat} {xs : List UInt8} (h : Base.Own w b (.slice (some ⟨g, 0, none⟩) n c) xs) : byte.C w (some ⟨g, 0, none⟩) n xs := by
  obtain ⟨A, n', c', he, _, hC⟩ := h.reads
  simp only [Value.slice.injEq] at he
  obtain ⟨rfl, rfl, rfl⟩ := he
  exact hC
theorem own_cap {w : World} {b g n c : Nat} {xs : List UInt8} (h : Base.Own w b (.slice (some ⟨g, 0, none⟩) n c) xs) : c ≤ 9223372036854775807 := by
  obtain ⟨_, hh⟩ := own_typed h
  rcases hh with ⟨he, _⟩ | ⟨g', cap, cur, he, _, _, _, hcm, _, _⟩
  · cases he
  · simp only [Value.slice.injEq] at he
    obtain ⟨-, -, rfl⟩ := he
    simpa [maxLen] using hcm
theorem sum_next (g n c : Nat) (xs : List UInt8) (sm : Nat) (w : World) (h : byte.C w (some ⟨g, 0, none⟩) n xs) (h8 : 8 < n) (hc : n ≤ c) (hcm : c ≤ 9223372036854775807) (hs : sumOf xs = sm) :
    Calls Tryd.prog 21 #[.slice (some ⟨g, 0, none⟩) n c] w fun e w' => e = .returned (.int .u32 (sm : Int)) ∧ Below w.heap.size w w' := by
  subst hs
  exact sum_calls _ n c xs w h h8 hc hcm
theorem pack4_C {w : World} {A : Option Addr} {n sm : Nat} (h : byte.C w A n (pack [4] [sm])) : byte.C w A 4 (pack [4] [sm]) ∧ n = 4 := by
  have h1 := h.1
  have h2 : (pack [4] [sm]).length = 4 := by simp [pack, wd, be_len]
  obtain rfl : n = 4 := by omega
  exact ⟨h, rfl⟩
theorem wrap_u64_in {x : Int} (h0 : 0 ≤ x) (h1 : x < 18446744073709551616) : IntKind.u64.wrap x = x := by
  have e : IntKind.u64.wrap x = x % 18446744073709551616 := by simp [IntKind.wrap, IntKind.signed, IntKind.bits]
  rw [e]; omega
/-- May a record be written in a block of so many bytes? -/
def ROk (l : List Itm) (B : Int) : Prop := 0 < l.length ∧ (l.length : Int) ≤ rmZ B ∧ ∀ x ∈ l, may x
instance (l : List Itm) (B : Int) : Decidable (ROk l B) := by unfold ROk; infer_instance
def EncP (w : World) (q : Nat) (l : List Itm) (B : Int) (e : Ending) (w' : World) : Prop :=
  Below w.heap.size w w' ∧ ((ROk l B ∧ ∃ v, e = .returned (.tuple #[v, .int .u16 0]) ∧ Base.Own w' w.heap.size v (enc q l B.toNat)) ∨ (¬ ROk l B ∧ e = .returned (.tuple #[.slice none 0 0, .int .u16 110])))
theorem set_last (q : Nat) (l : List Itm) (hd p : List UInt8) (i n7 bn : Nat) (h1 : pack [4, 4, 8, 2] [magic, 0, q, i] = hd) (h2 : l.length = i) (h3 : p = hd ++ itsB l) (h4 : n7 = 18 + 19 * i) (hb : 19 * i + 19 ≤ bn) :
    (p ++ List.replicate ((bn : Int) - (n7 : Int)).toNat (0 : UInt8)).set (bn - 1) 231 = pre q l bn := by
  have hpl : p.length = 18 + 19 * i := by
    rw [h3, List.length_append, itsB_len, h2, ← h1]
    simp [pack, wd, be_len]
  obtain ⟨k, hk⟩ : ∃ k, ((bn : Int) - (n7 : Int)).toNat = k + 1 := ⟨((bn : Int) - (n7 : Int)).toNat - 1, by omega⟩
  rw [hk, List.set_append, if_neg (by omega), show bn - 1 - p.length = k from by omega, List.replicate_succ', List.set_append, if_neg (by simp), List.length_replicate, Nat.sub_self]
  show p ++ (List.replicate k 0 ++ [231]) = _
  have hk2 : bn - 19 - 19 * l.length = k := by omega
  unfold pre
  rw [hk2, h3, ← h1, h2]
  simp [pack, wd]
theorem copy_pre (q : Nat) (l : List Itm) (bn sm : Nat) (h : sumOf (pre q l bn) = sm) (hb : 19 * l.length + 19 ≤ bn) : (pre q l bn).take 4 ++ (pack [4] [sm] ++ (pre q l bn).drop (4 + 4)) = enc q l bn := by
  have hz : zr (pre q l bn) = pre q l bn := by
    have h1 := zr_enc q l bn
    have e1 : (pre q l bn).take 4 = be 4 magic := take_app _ _ _ (be_len _ _)
    unfold zr
    rw [show [0, 0, 0, 0] = be 4 0 from by decide]
    unfold pre
    rw [take_app _ _ _ (be_len _ _), show (8 : Nat) = 4 + 4 from rfl, ← List.drop_drop, drop_app _ _ _ (be_len _ _), drop_app _ _ _ (be_len _ _)]
  have hs : Crc.sum (Crc.nat (pre q l bn)) = sm := by rw [← h]; unfold sumOf; rw [hz]
  unfold enc put4
  rw [hs]
  simp [pack, wd]
set_option maxRecDepth 100000 in
set_option maxHeartbeats 4000000 in
theorem encode_calls (q : Nat) (hq : q < 18446744073709551616) (A : Option Addr) (n c : Nat) (l : List Itm) (B : Int) (hB : -9223372036854775808 ≤ B ∧ B ≤ 9223372036854775807) (w : World) (h : itK.C w A n l) :
    Calls Tryd.prog 11 #[.agg #[.int .u64 (q : Int), .slice A n c], .int .i64 B] w (EncP w q l B) := by
  obtain ⟨hl, hm⟩ := C_len h
  have HL := Aside0.mk hl
  have HC := Aside0.mk h
  have HA := Aside0.mk (alloc_below w (.cells #[.int .u64 (q : Int), .slice A n c] 35))
  clear h hl
  by_cases h0 : n = 0
  · have hn0 : ((n : Int) == 0) = true := by rw [h0]; rfl
    have HE := Aside0.mk (show ¬ ROk l B from fun hr => by have := hr.1; have := HL.out; omega)
    clear h0
    go_enter Tryd.func11, Tryd.ntmps11
    go_wp2
    go_ret2
    exact ⟨HA.out, .inr ⟨HE.out, rfl⟩⟩
  have hn0 : ((n : Int) == 0) = false := by rw [beq_eq_false_iff_ne]; omega
  by_cases h1 : rmZ B < (n : Int)
  · have hd1 : decide (rmZ B < (n : Int)) = true := decide_eq_true h1
    have HE := Aside0.mk (show ¬ ROk l B from fun hr => by have := hr.2.1; have := HL.out; omega)
    clear h1 h0
    go_enter Tryd.func11, Tryd.ntmps11
    go_wp2_with fail
    refine (room_calls B hB _).mono ?_
    rintro e w1 ⟨rfl, rfl⟩
    go_wp2
    go_ret2
    exact ⟨HA.out, .inr ⟨HE.out, rfl⟩⟩
  have hd1 : decide (rmZ B < (n : Int)) = false := decide_eq_false h1
  have H1 := Aside0.mk h1
  have H0 := Aside0.mk h0
  clear h1 h0
  go_enter Tryd.func11, Tryd.ntmps11
  go_wp2_with fail
  refine (room_calls B hB _).mono ?_
  rintro e w1 ⟨rfl, rfl⟩
  go_wp2_with fail
  obtain ⟨bb, hbb⟩ : ∃ bb, bb = decide (¬ ∀ x ∈ l, may x) := ⟨_, rfl⟩
  refine (contains_calls A n c l w _ HA.out HC.out bb hbb).mono ?_
  rintro e w2 ⟨rfl, hb2⟩
  have HB2 := Aside0.mk (below_go HA.out hb2)
  have HBB := Aside0.mk hbb
  have r0 : w2.cell? ⟨w.heap.size, 0, none⟩ = some (.int .u64 (q : Int)) := pw_cell_below hb2 (by go_simp)
  have r1 : w2.cell? ⟨w.heap.size, 1, none⟩ = some (.slice A n c) := pw_cell_below hb2 (by go_simp)
  clear hb2 hbb
  cases bb with
  | true =>
    have HE := Aside0.mk (show ¬ ROk l B from fun hr => by have := HBB.out; rw [decide_eq_false (fun hh => hh hr.2.2)] at this; cases this)
    go_wp2
    go_ret2
    exact ⟨HB2.out, .inr ⟨HE.out, rfl⟩⟩
  | false =>
  have HOK := Aside0.mk (show ROk l B from ⟨by have := H0.out; have := HL.out; omega, by have := H1.out; have := HL.out; omega, by
    have := HBB.out
    by_cases hh : ∀ x ∈ l, may x
    · exact hh
    · rw [decide_eq_true hh] at this; cases this⟩)
  clear hn0 hd1
  have r0a := pw_cell_below (alloc_below w2 (.cells #[.int .i64 4, .int .i64 4, .int .i64 8, .int .i64 2] 3)) r0
  obtain ⟨g, hg⟩ : ∃ g, w.heap.size = g := ⟨_, rfl⟩
  rw [hg] at r0 r1 r0a ⊢
  have HG := Aside0.mk hg
  have R1 := Aside0.mk r1
  have hn214 : n ≤ 214 := by
    have h1 := HOK.out.2.1
    have h2 := HL.out
    have h3 : rmZ B ≤ 214 := by unfold rmZ; split <;> omega
    omega
  clear hg
  go_wp2_with fail
  refine (pack_lits w w2 [4, 4, 8, 2] [magic, 0, q, n] _ _ _ rfl _ _ _ _ rfl rfl rfl rfl rfl (by decide) rfl ?hv (by decide) (by simp) HB2.out).mono ?_
  case hv =>
    intro x hx
    simp only [List.mem_cons, List.not_mem_nil, or_false] at hx
    rcases hx with rfl | rfl | rfl | rfl
    · decide
    · omega
    · exact hq
    · omega
  rintro e w3 ⟨v3, rfl, hO3, hb3, hb23⟩
  have HO3 := Aside0.mk hO3
  have HB3 := Aside0.mk hb3
  have r1 := pw_cell_below hb23 R1.out
  clear hO3 hb3 hb23 r0 r0a
  obtain ⟨hd, hhd⟩ : ∃ hd, pack [4, 4, 8, 2] [magic, 0, q, n] = hd := ⟨_, rfl⟩
  rw [hhd] at HO3
  have HHD := Aside0.mk hhd
  have HHL := Aside0.mk (show hd.length = 18 by rw [← hhd]; simp [pack, wd, be_len])
  have HO3 := Aside0.mk (show Base.Own w3 w.heap.size v3 hd from Kd.R_lower HO3.out HB2.out.size)
  clear hhd
  go_wp2
  clear r1
  go_loopg [7, 36] n (fun g1 v7 v36 wr => ∃ (i : Nat) (p : List UInt8), v36 = .int .i64 (i : Int) ∧ i ≤ n ∧ Aside0 (g1 + i = n) ∧ Aside0 (p = hd ++ itsB (l.take i)) ∧ Aside0 (Base.Own wr w.heap.size v7 p) ∧ Aside0 (Below w.heap.size w wr))
  case atStart => exact ⟨0, hd, rfl, by omega, ⟨rfl⟩, ⟨by simp [itsB]⟩, HO3, HB3⟩
  case round =>
    obtain ⟨i, p, rfl, hi, HK, HP, HO, HBW⟩ := hrel
    by_cases hlt : i < n
    · obtain ⟨pa, rfl, hok, e0, e1, e2, e3, e4⟩ := itm_at (Kd.C_below HC.out HBW.out) (0, 0, 0, 0, 0) i hlt
      obtain ⟨x, hx⟩ : ∃ x, l.getD i (0, 0, 0, 0, 0) = x := ⟨_, rfl⟩
      rw [hx] at e0 e1 e2 e3 e4 hok
      have HTK := Aside0.mk (take_snocD l (0, 0, 0, 0, 0) i (by rw [HL.out]; exact hlt))
      have HX := Aside0.mk hx
      obtain ⟨x1, x2, x3, x4, x5⟩ := x
      dsimp only at e0 e1 e2 e3 e4
      have HOKX := Aside0.mk hok
      have hlt' : (i : Int) < (n : Int) := by omega
      have hd0 : decide ((i : Int) < (n : Int)) = true := decide_eq_true hlt'
      have k1 : (x1 : Int) < 4294967296 := by have := hok.1; dsimp only at this; omega
      have k2 : (x2 : Int) < 18446744073709551616 := by have := hok.2.1; dsimp only at this; omega
      have k3 : (x3 : Int) < 256 := by have := hok.2.2.1; dsimp only at this; omega
      have k4 : (x4 : Int) < 4294967296 := by have := hok.2.2.2.1; dsimp only at this; omega
      have k5 : (x5 : Int) < 65536 := by have := hok.2.2.2.2; dsimp only at this; omega
      clear hx hok
      go_wp2_with fail
      refine (pack_lits w (wr.alloc (.cells #[.int .u32 (x1 : Int), .int .u64 (x2 : Int), .int .u8 (x3 : Int), .int .u32 (x4 : Int), .int .u16 (x5 : Int)] 26)) [4, 8, 1, 4, 2] [x1, x2, x3, x4, x5] _ _ _ rfl _ _ _ _ (by simp) (by simp) rfl rfl rfl (by decide) rfl ?hv (by decide) (by simp) (below_alloc HBW.out _)).mono ?_
      case hv =>
        intro y hy
        simp only [List.mem_cons, List.not_mem_nil, or_false] at hy
        rcases hy with rfl | rfl | rfl | rfl | rfl <;> omega
      rintro e w5 ⟨v5, rfl, hO5, hb5, hb25⟩
      have HO5 := Aside0.mk hO5
      have HB5 := Aside0.mk hb5
      have HB25 := Aside0.mk hb25
      clear hO5 hb5 hb25
      obtain ⟨A5, n5, c5, rfl, -, hC5⟩ := HO5.out.reads
      have HC5 := Aside0.mk hC5
      have HOW := Aside0.mk ((HO.out.below (alloc_below _ _)).below HB25.out)
      have HPL := Aside0.mk (show p.length + n5 ≤ 140737488355328 by
        have h1 := (C_len HC5.out).1
        have h2 : (pack [4, 8, 1, 4, 2] [x1, x2, x3, x4, x5]).length ≤ 40 := pack_len _ _
        rw [HP.out, List.length_append, HHL.out, itsB_len, List.length_take]
        omega)
      clear hC5 e0 e1 e2 e3 e4
      go_wp2_with (at_builtin; (refine app_row (w0 := w) w.heap.size (.tmp 40) (.tmp 57) rfl rfl _ p (pack [4, 8, 1, 4, 2] [x1, x2, x3, x4, x5]) A5 n5 c5 rfl rfl HOW.out HC5.out HB5.out HB5.out.size HPL.out ?_); intro v6 w6 hO6 hB6 _; (have HO6 := Aside0.mk hO6; have HB6 := Aside0.mk hB6; clear hO6 hB6))
      go_wp2
      go_roundg (gk - 1)
      case measure => have := HK.out; omega
      case rel =>
        refine ⟨i + 1, _, by congr 1, by omega, ⟨by have := HK.out; omega⟩, ⟨?_⟩, HO6, HB6⟩
        rw [HP.out, HTK.out, HX.out, itsB_snoc, List.append_assoc]
        congr 2
    · obtain rfl : i = n := by omega
      have hd0 : decide ((i : Int) < (i : Int)) = false := decide_eq_false (by omega)
      obtain ⟨bn, rfl, hb19, hb4096, hb64⟩ : ∃ bn : Nat, B = (bn : Int) ∧ 19 * i + 19 ≤ bn ∧ bn ≤ 4096 ∧ 64 ≤ bn := by
        have h1 := HOK.out.1
        have h2 := HOK.out.2.1
        have h3 := HL.out
        unfold rmZ at h2
        split at h2
        · exact ⟨B.toNat, by omega, by omega, by omega, by omega⟩
        · omega
      have HP2 := Aside0.mk (show p = hd ++ itsB l by have := HP.out; rw [List.take_of_length_le (by rw [HL.out]; omega)] at this; exact this)
      have HPL := Aside0.mk (show p.length = 18 + 19 * i by rw [HP2.out, List.length_append, HHL.out, itsB_len, HL.out])
      obtain ⟨A7, n7, c7, rfl, -, hC7⟩ := HO.out.reads
      have hn7 : n7 = 18 + 19 * i := by have := (C_len hC7).1; have := HPL.out; omega
      have HN7 := Aside0.mk hn7
      have hnb : n7 ≤ bn := by omega
      clear hC7 hn7
      have HB4 := Aside0.mk (And.intro hb19 (And.intro hb4096 hb64))
      go_wp2_with (at_builtin; (refine app_zeros2 (w0 := w) w.heap.size (.tmp 60) (.tmp 64) rfl rfl _ p ((bn : Int) - (n7 : Int)) rfl (by rfl) HO.out (by omega) HBW.out HBW.out.size (by have h1 := HPL.out; have h2 := HB4.out; have h3 := hn214; omega) bn (by have h1 := HPL.out; have h2 := HN7.out; omega) (by omega) 0xe7 ?_); intro g8 c8 w8 hg8 hc8 hz8 hO8 hcc8 hB8; (have HB8 := Aside0.mk hB8; have HO8 := Aside0.mk hO8; have HG8 := Aside0.mk hg8; clear hO8 hB8 hg8))
      obtain ⟨Wq, hWq⟩ : ∃ Wq, (w8.setCell ⟨g8, bn - 1, none⟩ (.int .u8 231)) = Wq := ⟨_, rfl⟩
      have HPQ := Aside0.mk (set_last q l hd p i n7 bn HHD.out HL.out HP2.out HN7.out hb19)
      have HOq := Aside0.mk (show Base.Own Wq w.heap.size (.slice (some ⟨g8, 0, none⟩) bn c8) (pre q l bn) by
        have h1 := HO8.out
        rw [HPQ.out] at h1
        rw [← hWq]
        exact h1)
      have HBq := Aside0.mk (show Below w.heap.size w Wq by rw [← hWq]; exact HB8.out.setCell HG8.out _)
      rw [hWq]
      obtain ⟨sm, hsm⟩ : ∃ sm, sumOf (pre q l bn) = sm := ⟨_, rfl⟩
      have hsml : (sm : Int) < 4294967296 := by
        have : sumOf (pre q l bn) < 4294967296 := sum_lt _
        omega
      have HSM := Aside0.mk hsm
      have hwr : IntKind.u64.wrap (sm : Int) = (sm : Int) := wrap_u64_in (by omega) (by omega)
      have HCC := Aside0.mk hcc8
      have k1 : (4 : Int) ≤ (bn : Int) := by omega
      have k2 : (4 : Int) ≤ (c8 : Int) := by omega
      have k3 : ¬ c8 = 4 := by omega
      clear hWq hsm hc8 hz8
      refine wp_region_any (by kernel_rfl) ?_
      rw [show ({ Wq with drawn := Wq.drawn + 1 } : World) = Wq.drew from rfl]
      obtain ⟨X, hX⟩ : ∃ X, Wq.drew = X := ⟨_, rfl⟩
      have HX : Aside0 (Below Wq.heap.size Wq X) := ⟨by rw [← hX]; exact below_drew (Below.refl _ _)⟩
      rw [hX]
      clear hX
      refine wpAny_take (i := 0) (oi := { dst := some 70, op := Op.move (Operand.tmp 7), type := 27, pos := "rec.go:58", after := #[], guard := none }) (v := ?_) rfl (by kernel_rfl) (by kernel_rfl) (by kernel_rfl) (fun _ _ _ h => h) (Or.inl ⟨by rfl, ?_⟩) ?_
      rotate_left
      · (intro w; go_simp; (try with_reducible rfl))
      (try simp only [Act.put, List.setIfInBounds_toArray, List.set_cons_zero, List.set_cons_succ])
      refine wpAny_take (i := 1) (oi := { dst := some 71, op := Op.slice 27 (Operand.tmp 70) (some (Operand.const (Value.int IntKind.i64 4))) none none, type := 27, pos := "rec.go:58", after := #[{ on := 0, ground := Ground.data }], guard := none }) (v := ?_) rfl (by kernel_rfl) (by kernel_rfl) (by kernel_rfl) (fun _ _ _ h => h) (Or.inl ⟨by rfl, ?_⟩) ?_
      rotate_left
      · (intro w; go_simp; (try with_reducible rfl))
      (try simp only [Act.put, List.setIfInBounds_toArray, List.set_cons_zero, List.set_cons_succ])
      refine wpAny_take (i := 3) (oi := { dst := some 73, op := Op.move (Operand.tmp 7), type := 27, pos := "rec.go:58", after := #[], guard := none }) (v := ?_) rfl (by kernel_rfl) (by kernel_rfl) (by kernel_rfl) (fun _ _ _ h => h) (Or.inl ⟨by rfl, ?_⟩) ?_
      rotate_left
      · (intro w; go_simp; (try with_reducible rfl))
      (try simp only [Act.put, List.setIfInBounds_toArray, List.set_cons_zero, List.set_cons_succ])
      refine wpAny_ready (rs := [2, 4]) (by kernel_rfl) (by simp) ?_
      refine (AllReady.cons (o := { dst := some 72, op := Op.buildSlice 49 1 #[(0, Operand.const (Value.int IntKind.i64 4))], type := 49, pos := "rec.go:58", after := #[], guard := none }) rfl (fun K hK => ?_) (AllReady.cons (o := { dst := some 74, op := Op.call { callee := Callee.value (Operand.func 21), args := #[Operand.tmp 73], argTypes := #[27] }, type := 22, pos := "rec.go:58", after := #[{ on := 3, ground := Ground.data }], guard := none }) rfl (fun K hK => ?_) AllReady.nil))
      · go_simp
        refine hK _ _ ?_
        clear hK K
        (try simp only [Act.put, List.setIfInBounds_toArray, List.set_cons_zero, List.set_cons_succ])
        obtain ⟨X2, hX2⟩ : ∃ Y, X.alloc (.cells #[.int .i64 4] 3) = Y := ⟨_, rfl⟩
        have hb : Below X.heap.size X X2 := by rw [← hX2]; exact alloc_below _ _
        have HX2 := Aside0.mk (below_go HX.out hb)
        have HL2 : Aside0 ((num .i64).C X2 (some ⟨X.heap.size, 0, none⟩) 1 [4]) := ⟨by rw [← hX2]; exact wid_lit _ [4] _ rfl (by decide) (by decide)⟩
        rw [hX2]
        clear hX2 hb
        refine wpAny_ready (rs := [4]) (by kernel_rfl) (by simp) ?_
        refine (AllReady.cons (o := { dst := some 74, op := Op.call { callee := Callee.value (Operand.func 21), args := #[Operand.tmp 73], argTypes := #[27] }, type := 22, pos := "rec.go:58", after := #[{ on := 3, ground := Ground.data }], guard := none }) rfl (fun K hK => ?_) AllReady.nil)
        go_simp
        refine (sum_next _ bn c8 (pre q l bn) sm X2 (Kd.C_below (own_C HOq.out) HX2.out) (by omega) HCC.out (by have := own_cap HOq.out; omega) HSM.out).mono ?_
        rintro e X24 ⟨rfl, hb⟩
        have HX24 := Aside0.mk (below_go HX2.out hb)
        have HL2 := Aside0.mk (Kd.C_below HL2.out hb)
        clear hb
        refine hK _ _ ?_
        clear hK K
        (try simp only [Act.put, List.setIfInBounds_toArray, List.set_cons_zero, List.set_cons_succ])
        refine wpAny_take (i := 5) (oi := { dst := some 75, op := Op.convert 22 23 (Operand.tmp 74), type := 23, pos := "rec.go:58", after := #[{ on := 4, ground := Ground.data }], guard := none }) (v := ?_) rfl (by kernel_rfl) (by kernel_rfl) (by kernel_rfl) (fun _ _ _ h => h) (Or.inl ⟨by rfl, ?_⟩) ?_
        rotate_left
        · (intro w; go_simp; (try with_reducible rfl))
        (try simp only [Act.put, List.setIfInBounds_toArray, List.set_cons_zero, List.set_cons_succ])
        refine wpAny_ready (rs := [6]) (by kernel_rfl) (by simp) ?_
        refine (AllReady.cons (o := { dst := some 76, op := Op.buildSlice 61 1 #[(0, Operand.tmp 75)], type := 61, pos := "rec.go:58", after := #[{ on := 5, ground := Ground.data }], guard := none }) rfl (fun K hK => ?_) AllReady.nil)
        go_simp
        refine hK _ _ ?_
        clear hK K
        (try simp only [Act.put, List.setIfInBounds_toArray, List.set_cons_zero, List.set_cons_succ])
        obtain ⟨X246, hX246⟩ : ∃ Y, X24.alloc (.cells #[.int .u64 (sm : Int)] 23) = Y := ⟨_, rfl⟩
        have hb : Below X24.heap.size X24 X246 := by rw [← hX246]; exact alloc_below _ _
        have HX246 := Aside0.mk (below_go HX24.out hb)
        have HL2 := Aside0.mk (Kd.C_below HL2.out hb)
        have HL6 : Aside0 ((nat .u64).C X246 (some ⟨X24.heap.size, 0, none⟩) 1 [sm]) := ⟨by rw [← hX246]; exact val_lit _ [sm] _ rfl (by intro x hx; rw [List.mem_singleton.1 hx]; omega) (by simp)⟩
        rw [hX246]
        clear hX246 hb
        refine wpAny_ready (rs := [7]) (by kernel_rfl) (by simp) ?_
        refine (AllReady.cons (o := { dst := some 77, op := Op.call { callee := Callee.value (Operand.func 20), args := #[Operand.tmp 72, Operand.tmp 76], argTypes := #[49, 61] }, type := 27, pos := "rec.go:58", after := #[{ on := 2, ground := Ground.data }, { on := 6, ground := Ground.data }, { on := 4, ground := Ground.chain }], guard := none }) rfl (fun K hK => ?_) AllReady.nil)
        go_simp
        refine (pack_calls _ 1 1 [4] _ 1 1 [sm] X246 HL2.out HL6.out (by omega) (by omega)).mono ?_
        rintro e X2467 ⟨v7, rfl, hO7, hb⟩
        obtain ⟨A9, n9, c9, rfl, -, hC9⟩ := hO7.reads
        have HX2467 := Aside0.mk (below_go HX246.out hb)
        have HL2 := Aside0.mk (Kd.C_below HL2.out hb)
        have HL6 := Aside0.mk (Kd.C_below HL6.out hb)
        have HC9 := Aside0.mk (pack4_C hC9)
        obtain rfl : n9 = 4 := HC9.out.2
        clear hO7 hb hC9
        refine hK _ _ ?_
        clear hK K
        (try simp only [Act.put, List.setIfInBounds_toArray, List.set_cons_zero, List.set_cons_succ])
        refine wpAny_ready (rs := [8]) (by kernel_rfl) (by simp) ?_
        refine (AllReady.cons (o := { dst := some 78, op := Op.call { callee := Callee.builtin Builtin.copy, args := #[Operand.tmp 71, Operand.tmp 77], argTypes := #[27, 27] }, type := 3, pos := "rec.go:58", after := #[{ on := 1, ground := Ground.data }, { on := 7, ground := Ground.data }, { on := 7, ground := Ground.chain }], guard := none }) rfl (fun K hK => ?_) AllReady.nil)
        refine copy_step (w0 := w) w.heap.size rfl (.tmp 71) (.tmp 77) rfl g8 bn c8 (pre q l bn) (pack [4] [sm]) 4 A9 4 c9 rfl rfl (HOq.out.below HX2467.out) HC9.out.1 (by omega) (by omega) (below_go HBq.out HX2467.out) ?_
        intro w9 hO9 hB9
        have HO9 := Aside0.mk hO9
        have HB9 := Aside0.mk hB9
        clear hO9 hB9
        refine hK _ _ ?_
        clear hK K
        (try simp only [Act.put, List.setIfInBounds_toArray, List.set_cons_zero, List.set_cons_succ])
        refine wpAny_done (by kernel_rfl) ?_ _
        go_wp2
        go_ret2
        refine ⟨HB9.out, .inl ⟨HOK.out, _, rfl, ?_⟩⟩
        have h9 := HO9.out
        rw [copy_pre q l bn sm HSM.out (by rw [HL.out]; exact hb19)] at h9
        exact h9
      · go_simp
        refine (sum_next _ bn c8 (pre q l bn) sm X (Kd.C_below (own_C HOq.out) HX.out) (by omega) HCC.out (by have := own_cap HOq.out; omega) HSM.out).mono ?_
        rintro e X4 ⟨rfl, hb⟩
        have HX4 := Aside0.mk (below_go HX.out hb)
        clear hb
        refine hK _ _ ?_
        clear hK K
        (try simp only [Act.put, List.setIfInBounds_toArray, List.set_cons_zero, List.set_cons_succ])
        refine wpAny_take (i := 5) (oi := { dst := some 75, op := Op.convert 22 23 (Operand.tmp 74), type := 23, pos := "rec.go:58", after := #[{ on := 4, ground := Ground.data }], guard := none }) (v := ?_) rfl (by kernel_rfl) (by kernel_rfl) (by kernel_rfl) (fun _ _ _ h => h) (Or.inl ⟨by rfl, ?_⟩) ?_
        rotate_left
        · (intro w; go_simp; (try with_reducible rfl))
        (try simp only [Act.put, List.setIfInBounds_toArray, List.set_cons_zero, List.set_cons_succ])
        refine wpAny_ready (rs := [2, 6]) (by kernel_rfl) (by simp) ?_
        refine (AllReady.cons (o := { dst := some 72, op := Op.buildSlice 49 1 #[(0, Operand.const (Value.int IntKind.i64 4))], type := 49, pos := "rec.go:58", after := #[], guard := none }) rfl (fun K hK => ?_) (AllReady.cons (o := { dst := some 76, op := Op.buildSlice 61 1 #[(0, Operand.tmp 75)], type := 61, pos := "rec.go:58", after := #[{ on := 5, ground := Ground.data }], guard := none }) rfl (fun K hK => ?_) AllReady.nil))
        · go_simp
          refine hK _ _ ?_
          clear hK K
          (try simp only [Act.put, List.setIfInBounds_toArray, List.set_cons_zero, List.set_cons_succ])
          obtain ⟨X24, hX24⟩ : ∃ Y, X4.alloc (.cells #[.int .i64 4] 3) = Y := ⟨_, rfl⟩
          have hb : Below X4.heap.size X4 X24 := by rw [← hX24]; exact alloc_below _ _
          have HX24 := Aside0.mk (below_go HX4.out hb)
          have HL2 : Aside0 ((num .i64).C X24 (some ⟨X4.heap.size, 0, none⟩) 1 [4]) := ⟨by rw [← hX24]; exact wid_lit _ [4] _ rfl (by decide) (by decide)⟩
          rw [hX24]
          clear hX24 hb
          refine wpAny_ready (rs := [6]) (by kernel_rfl) (by simp) ?_
          refine (AllReady.cons (o := { dst := some 76, op := Op.buildSlice 61 1 #[(0, Operand.tmp 75)], type := 61, pos := "rec.go:58", after := #[{ on := 5, ground := Ground.data }], guard := none }) rfl (fun K hK => ?_) AllReady.nil)
          go_simp
          refine hK _ _ ?_
          clear hK K
          (try simp only [Act.put, List.setIfInBounds_toArray, List.set_cons_zero, List.set_cons_succ])
          obtain ⟨X246, hX246⟩ : ∃ Y, X24.alloc (.cells #[.int .u64 (sm : Int)] 23) = Y := ⟨_, rfl⟩
          have hb : Below X24.heap.size X24 X246 := by rw [← hX246]; exact alloc_below _ _
          have HX246 := Aside0.mk (below_go HX24.out hb)
          have HL2 := Aside0.mk (Kd.C_below HL2.out hb)
          have HL6 : Aside0 ((nat .u64).C X246 (some ⟨X24.heap.size, 0, none⟩) 1 [sm]) := ⟨by rw [← hX246]; exact val_lit _ [sm] _ rfl (by intro x hx; rw [List.mem_singleton.1 hx]; omega) (by simp)⟩
          rw [hX246]
          clear hX246 hb
          refine wpAny_ready (rs := [7]) (by kernel_rfl) (by simp) ?_
          refine (AllReady.cons (o := { dst := some 77, op := Op.call { callee := Callee.value (Operand.func 20), args := #[Operand.tmp 72, Operand.tmp 76], argTypes := #[49, 61] }, type := 27, pos := "rec.go:58", after := #[{ on := 2, ground := Ground.data }, { on := 6, ground := Ground.data }, { on := 4, ground := Ground.chain }], guard := none }) rfl (fun K hK => ?_) AllReady.nil)
          go_simp
          refine (pack_calls _ 1 1 [4] _ 1 1 [sm] X246 HL2.out HL6.out (by omega) (by omega)).mono ?_
          rintro e X2467 ⟨v7, rfl, hO7, hb⟩
          obtain ⟨A9, n9, c9, rfl, -, hC9⟩ := hO7.reads
          have HX2467 := Aside0.mk (below_go HX246.out hb)
          have HL2 := Aside0.mk (Kd.C_below HL2.out hb)
          have HL6 := Aside0.mk (Kd.C_below HL6.out hb)
          have HC9 := Aside0.mk (pack4_C hC9)
          obtain rfl : n9 = 4 := HC9.out.2
          clear hO7 hb hC9
          refine hK _ _ ?_
          clear hK K
          (try simp only [Act.put, List.setIfInBounds_toArray, List.set_cons_zero, List.set_cons_succ])
          refine wpAny_ready (rs := [8]) (by kernel_rfl) (by simp) ?_
          refine (AllReady.cons (o := { dst := some 78, op := Op.call { callee := Callee.builtin Builtin.copy, args := #[Operand.tmp 71, Operand.tmp 77], argTypes := #[27, 27] }, type := 3, pos := "rec.go:58", after := #[{ on := 1, ground := Ground.data }, { on := 7, ground := Ground.data }, { on := 7, ground := Ground.chain }], guard := none }) rfl (fun K hK => ?_) AllReady.nil)
          refine copy_step (w0 := w) w.heap.size rfl (.tmp 71) (.tmp 77) rfl g8 bn c8 (pre q l bn) (pack [4] [sm]) 4 A9 4 c9 rfl rfl (HOq.out.below HX2467.out) HC9.out.1 (by omega) (by omega) (below_go HBq.out HX2467.out) ?_
          intro w9 hO9 hB9
          have HO9 := Aside0.mk hO9
          have HB9 := Aside0.mk hB9
          clear hO9 hB9
          refine hK _ _ ?_
          clear hK K
          (try simp only [Act.put, List.setIfInBounds_toArray, List.set_cons_zero, List.set_cons_succ])
          refine wpAny_done (by kernel_rfl) ?_ _
          go_wp2
          go_ret2
          refine ⟨HB9.out, .inl ⟨HOK.out, _, rfl, ?_⟩⟩
          have h9 := HO9.out
          rw [copy_pre q l bn sm HSM.out (by rw [HL.out]; exact hb19)] at h9
          exact h9
        · go_simp
          refine hK _ _ ?_
          clear hK K
          (try simp only [Act.put, List.setIfInBounds_toArray, List.set_cons_zero, List.set_cons_succ])
          obtain ⟨X46, hX46⟩ : ∃ Y, X4.alloc (.cells #[.int .u64 (sm : Int)] 23) = Y := ⟨_, rfl⟩
          have hb : Below X4.heap.size X4 X46 := by rw [← hX46]; exact alloc_below _ _
          have HX46 := Aside0.mk (below_go HX4.out hb)
          have HL6 : Aside0 ((nat .u64).C X46 (some ⟨X4.heap.size, 0, none⟩) 1 [sm]) := ⟨by rw [← hX46]; exact val_lit _ [sm] _ rfl (by intro x hx; rw [List.mem_singleton.1 hx]; omega) (by simp)⟩
          rw [hX46]
          clear hX46 hb
          refine wpAny_ready (rs := [2]) (by kernel_rfl) (by simp) ?_
          refine (AllReady.cons (o := { dst := some 72, op := Op.buildSlice 49 1 #[(0, Operand.const (Value.int IntKind.i64 4))], type := 49, pos := "rec.go:58", after := #[], guard := none }) rfl (fun K hK => ?_) AllReady.nil)
          go_simp
          refine hK _ _ ?_
          clear hK K
          (try simp only [Act.put, List.setIfInBounds_toArray, List.set_cons_zero, List.set_cons_succ])
          obtain ⟨X246, hX246⟩ : ∃ Y, X46.alloc (.cells #[.int .i64 4] 3) = Y := ⟨_, rfl⟩
          have hb : Below X46.heap.size X46 X246 := by rw [← hX246]; exact alloc_below _ _
          have HX246 := Aside0.mk (below_go HX46.out hb)
          have HL6 := Aside0.mk (Kd.C_below HL6.out hb)
          have HL2 : Aside0 ((num .i64).C X246 (some ⟨X46.heap.size, 0, none⟩) 1 [4]) := ⟨by rw [← hX246]; exact wid_lit _ [4] _ rfl (by decide) (by decide)⟩
          rw [hX246]
          clear hX246 hb
          refine wpAny_ready (rs := [7]) (by kernel_rfl) (by simp) ?_
          refine (AllReady.cons (o := { dst := some 77, op := Op.call { callee := Callee.value (Operand.func 20), args := #[Operand.tmp 72, Operand.tmp 76], argTypes := #[49, 61] }, type := 27, pos := "rec.go:58", after := #[{ on := 2, ground := Ground.data }, { on := 6, ground := Ground.data }, { on := 4, ground := Ground.chain }], guard := none }) rfl (fun K hK => ?_) AllReady.nil)
          go_simp
          refine (pack_calls _ 1 1 [4] _ 1 1 [sm] X246 HL2.out HL6.out (by omega) (by omega)).mono ?_
          rintro e X2467 ⟨v7, rfl, hO7, hb⟩
          obtain ⟨A9, n9, c9, rfl, -, hC9⟩ := hO7.reads
          have HX2467 := Aside0.mk (below_go HX246.out hb)
          have HL2 := Aside0.mk (Kd.C_below HL2.out hb)
          have HL6 := Aside0.mk (Kd.C_below HL6.out hb)
          have HC9 := Aside0.mk (pack4_C hC9)
          obtain rfl : n9 = 4 := HC9.out.2
          clear hO7 hb hC9
          refine hK _ _ ?_
          clear hK K
          (try simp only [Act.put, List.setIfInBounds_toArray, List.set_cons_zero, List.set_cons_succ])
          refine wpAny_ready (rs := [8]) (by kernel_rfl) (by simp) ?_
          refine (AllReady.cons (o := { dst := some 78, op := Op.call { callee := Callee.builtin Builtin.copy, args := #[Operand.tmp 71, Operand.tmp 77], argTypes := #[27, 27] }, type := 3, pos := "rec.go:58", after := #[{ on := 1, ground := Ground.data }, { on := 7, ground := Ground.data }, { on := 7, ground := Ground.chain }], guard := none }) rfl (fun K hK => ?_) AllReady.nil)
          refine copy_step (w0 := w) w.heap.size rfl (.tmp 71) (.tmp 77) rfl g8 bn c8 (pre q l bn) (pack [4] [sm]) 4 A9 4 c9 rfl rfl (HOq.out.below HX2467.out) HC9.out.1 (by omega) (by omega) (below_go HBq.out HX2467.out) ?_
          intro w9 hO9 hB9
          have HO9 := Aside0.mk hO9
          have HB9 := Aside0.mk hB9
          clear hO9 hB9
          refine hK _ _ ?_
          clear hK K
          (try simp only [Act.put, List.setIfInBounds_toArray, List.set_cons_zero, List.set_cons_succ])
          refine wpAny_done (by kernel_rfl) ?_ _
          go_wp2
          go_ret2
          refine ⟨HB9.out, .inl ⟨HOK.out, _, rfl, ?_⟩⟩
          have h9 := HO9.out
          rw [copy_pre q l bn sm HSM.out (by rw [HL.out]; exact hb19)] at h9
          exact h9
end Go.Proofs.YtefgahakbnfdeaaDoor.Rc
