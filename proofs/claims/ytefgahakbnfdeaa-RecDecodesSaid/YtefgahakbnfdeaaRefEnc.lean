/- The document's record: coamingref11.Encode. -/
import Derived.Test.YtefgahakbnfdeaaRefRoom
import Derived.Test.YtefgahakbnfdeaaRecOne
namespace Go.Proofs.Ytefgahakbnfdeaa.Rc
open Go.RowKit Go.Proofs.YtefgahakbnfdeaaW.PrintWords Go.Proofs.YtefgahakbnfdeaaW.PrintMore Go.Proofs.Ytefgahakbnfdeaa.Base
set_option linter.unusedVariables false
set_option linter.unusedSimpArgs false
def REncP (w : World) (q : Nat) (l : List Itm) (B : Int) (e : Ending) (w' : World) : Prop :=
  Below w.heap.size w w' ∧ ((ROk l B ∧ ∃ v, e = .returned (.tuple #[v, .int .i64 0]) ∧ Base.Own w' w.heap.size v (enc q l B.toNat)) ∨ (¬ ROk l B ∧ e = .returned (.tuple #[.slice none 0 0, .int .i64 110])))
/-- Pack of literals. -/
theorem rpack_lits (w W : World) (ws : List Int) (vs : List Nat) (wv vv : Array Value) (B : World) (hB : B = (W.alloc (.cells wv 3)).alloc (.cells vv 22)) (g1 g2 n1 n2 : Nat) (h1 : g1 = W.heap.size) (h2 : g2 = W.heap.size + 1) (e1 : n1 = ws.length) (e2 : n2 = vs.length)
    (hwv : wv.toList = ws.map fun x => .int .i64 x) (hw : ∀ x ∈ ws, (Lit.int .i64 x).wf = true) (hvv : vv.toList = vs.map fun (x : Nat) => .int .u64 (x : Int)) (hv : ∀ x ∈ vs, x < 18446744073709551616) (hwl : ws.length ≤ 1000) (hvl : vs.length ≤ 1000) (hb : Below w.heap.size w W) :
    Calls Try.prog 24 #[.slice (some ⟨g1, 0, none⟩) n1 n1, .slice (some ⟨g2, 0, none⟩) n2 n2] B fun e w' => ∃ v, e = .returned v ∧ Base.Own w' W.heap.size v (pack ws vs) ∧ Below w.heap.size w w' ∧ Below W.heap.size W w' := by
  subst hB h1 h2 e1 e2
  have c1 := Kd.C_below (wid_lit W ws wv hwv hw hwl) (alloc_below (W.alloc (.cells wv 3)) (.cells vv 22))
  have c2 := val_lit (W.alloc (.cells wv 3)) vs vv hvv hv hvl
  have hz : (W.alloc (.cells wv 3)).heap.size = W.heap.size + 1 := by simp
  rw [hz] at c2
  refine (rpack_calls _ _ _ ws _ _ _ vs _ c1 c2 hwl hvl).mono ?_
  rintro e w' ⟨v, rfl, hO, hb'⟩
  have hbW : Below W.heap.size W w' := below_go (below_alloc (alloc_below W _) _) hb'
  exact ⟨v, rfl, Kd.R_lower hO (by simp; omega), below_go hb hbW, hbW⟩
theorem not_may (x : Itm) (h : 4096 < x.2.2.2.2 ∨ (x.2.2.1 ≠ 1 ∧ (x.2.2.1 ≠ 2 ∨ x.2.2.2.1 ≠ 0 ∨ x.2.2.2.2 ≠ 0))) : ¬ may x := by
  unfold may
  omega
section
variable {ops : Array Oper} {rest : List Oper} {o : Oper} {a : Act} {Q : Exit → Act → World → Prop}
/-- append(v, ys...), the new slice's form told. -/
theorem app_row2 {w0 W : World} (base : Nat) (s x : Operand) (hgd : o.guard = none) (ho : o.op = .call { callee := .builtin .append, args := #[s, x], argTypes := #[26, 26] })
    (v : Value) (xs ys : List UInt8) (A : Option Addr) (m c : Nat) (hs : a.eval s = v) (hx : a.eval x = .slice A m c)
    (HO : Base.Own W base v xs) (HR : byte.C W A m ys) (HB : Below base w0 W) (hbase : base ≤ W.heap.size) (hl : xs.length + m ≤ 140737488355328) (k : Nat) (hk : xs.length + m = k) (hk0 : 0 < k)
    (h : ∀ g c1 w1, Base.Own w1 base (.slice (some ⟨g, 0, none⟩) k c1) (xs ++ ys) → Below base w0 w1 → base ≤ g → k ≤ c1 → wpList Try.prog ops Q rest (a.put o.dst (.slice (some ⟨g, 0, none⟩) k c1)) w1) : wpList Try.prog ops Q (o :: rest) a W := by
  refine app_row (w0 := w0) base s x hgd ho v xs ys A m c hs hx HO HR HB hbase hl (fun v1 w1 h1 h2 _ => ?_)
  have hm : ys.length = m := HR.1
  obtain ⟨g, c1, rfl, hg, -, hc, -⟩ := own_form h1 (by rw [List.length_append]; omega)
  have e : (xs ++ ys).length = k := by rw [List.length_append]; omega
  rw [e] at h1 hc ⊢
  exact h g c1 w1 h1 h2 hg hc
end
theorem put_step (P bs : List UInt8) (k : Nat) (z : UInt8) (hk : k < 4) (hb : bs.length = 4) (hP : 8 ≤ P.length) (hz : bs.getD k 0 = z) :
    (P.take 4 ++ (bs.take k ++ P.drop (4 + k))).set (4 + k) z = P.take 4 ++ (bs.take (k + 1) ++ P.drop (4 + (k + 1))) := by
  have h1 : (P.take 4).length = 4 := by rw [List.length_take]; omega
  have h2 : (bs.take k).length = k := by rw [List.length_take]; omega
  rw [List.set_append, if_neg (by omega), h1, Nat.add_sub_cancel_left, List.set_append, if_neg (by omega), h2, Nat.sub_self, List.drop_eq_getElem_cons (show 4 + k < P.length by omega), List.set_cons_zero, take_snocD bs 0 k (by omega), hz]
  simp [Nat.add_assoc]
theorem _root_.Go.World.grownBy_set1 (W : World) (p : Addr) (v : Value) : W.grownBy (W.setCell p v) (some p.block) := ⟨rfl, rfl, rfl, (KeepsWalks.setCell W _ v).size, fun k _ hk => Below.heap_setCell _ _ _ k (fun e => hk (by rw [e]))⟩
theorem own_ne_cell {w : World} {b g j : Nat} {v : Value} {xs : List UInt8} {A : Option Addr} {n c : Nat} (h : Base.Own w b v xs) (hc : w.heap[g]? = some (.cells #[.int .u64 j, .slice A n c] 25 (0, 0))) : some g ≠ v.ownBlock := Kd.R_ne h hc (by decide)
set_option maxRecDepth 100000 in
set_option maxHeartbeats 4000000 in
theorem rencode_calls (q : Nat) (hq : q < 18446744073709551616) (A : Option Addr) (n c : Nat) (l : List Itm) (B : Int) (hB : -9223372036854775808 ≤ B ∧ B ≤ 9223372036854775807) (w : World) (h : itK.C w A n l) :
    Calls Try.prog 10 #[.agg #[.int .u64 (q : Int), .slice A n c], .int .i64 B] w (REncP w q l B) := by
  obtain ⟨hl, hm⟩ := C_len h
  have HL := Aside0.mk hl
  have HC := Aside0.mk h
  have HA := Aside0.mk (alloc_below w (.cells #[.int .u64 (q : Int), .slice A n c] 25))
  have HR := Aside0.mk (heap_alloc_new w (.cells #[.int .u64 (q : Int), .slice A n c] 25))
  clear h hl
  by_cases h0 : n = 0
  · have hn0 : ((n : Int) == 0) = true := by rw [h0]; rfl
    have HE := Aside0.mk (show ¬ ROk l B from fun hr => by have := hr.1; have := HL.out; omega)
    clear h0
    go_enter Try.func10, Try.ntmps10
    go_wp2_with fail
    refine (rroom_calls B hB _).mono ?_
    rintro e w1 ⟨rfl, rfl⟩
    go_wp2
    go_ret2
    exact ⟨HA.out, .inr ⟨HE.out, rfl⟩⟩
  have hn0 : ((n : Int) == 0) = false := by rw [beq_eq_false_iff_ne]; omega
  by_cases h1 : rmZ B < (n : Int)
  · have hd1 : decide (rmZ B < (n : Int)) = true := decide_eq_true h1
    have HE := Aside0.mk (show ¬ ROk l B from fun hr => by have := hr.2.1; have := HL.out; omega)
    clear h1 h0
    go_enter Try.func10, Try.ntmps10
    go_wp2_with fail
    refine (rroom_calls B hB _).mono ?_
    rintro e w1 ⟨rfl, rfl⟩
    go_wp2
    go_ret2
    exact ⟨HA.out, .inr ⟨HE.out, rfl⟩⟩
  have hd1 : decide (rmZ B < (n : Int)) = false := decide_eq_false h1
  have H1 := Aside0.mk h1
  have H0 := Aside0.mk h0
  have hn214 : n ≤ 214 := by
    have h3 : rmZ B ≤ 214 := by unfold rmZ; split <;> omega
    omega
  obtain ⟨bn, rfl, hb19, hb4096, hb64⟩ : ∃ bn : Nat, B = (bn : Int) ∧ 19 * n + 19 ≤ bn ∧ bn ≤ 4096 ∧ 64 ≤ bn := by
    unfold rmZ at h1
    split at h1
    · exact ⟨B.toNat, by omega, by omega, by omega, by omega⟩
    · omega
  have HB4 := Aside0.mk (And.intro hb19 (And.intro hb4096 hb64))
  clear h1 h0
  go_enter Try.func10, Try.ntmps10
  go_wp2_with fail
  refine (rroom_calls (bn : Int) hB _).mono ?_
  rintro e w1 ⟨rfl, rfl⟩
  obtain ⟨g, hg⟩ : ∃ g, w.heap.size = g := ⟨_, rfl⟩
  obtain ⟨W, hW⟩ : ∃ W, w.alloc (.cells #[.int .u64 (q : Int), .slice A n c] 25) = W := ⟨_, rfl⟩
  rw [hW] at HA HR ⊢
  rw [hg] at HR ⊢
  have HG := Aside0.mk hg
  have r0 : W.cell? ⟨g, 0, none⟩ = some (.int .u64 (q : Int)) := by simp [World.cell?, HR.out]
  have r1 : W.cell? ⟨g, 1, none⟩ = some (.slice A n c) := by simp [World.cell?, HR.out]
  have R1 := Aside0.mk r1
  have r0a := pw_cell_below (alloc_below W (.cells #[.int .i64 4, .int .i64 4, .int .i64 8, .int .i64 2] 3)) r0
  have r1a := pw_cell_below (alloc_below W (.cells #[.int .i64 4, .int .i64 4, .int .i64 8, .int .i64 2] 3)) r1
  clear hW hg
  go_wp2_with fail
  refine (rpack_lits w W [4, 4, 8, 2] [magic, 0, q, n] _ _ _ rfl _ _ _ _ rfl rfl rfl rfl rfl (by decide) rfl ?hv (by decide) (by simp) HA.out).mono ?_
  case hv =>
    intro x hx
    simp only [List.mem_cons, List.not_mem_nil, or_false] at hx
    rcases hx with rfl | rfl | rfl | rfl
    · decide
    · omega
    · exact hq
    · omega
  rintro e w3 ⟨v3, rfl, hO3, hb3, hb23⟩
  have HO3 := Aside0.mk hO3
  have HB3 := Aside0.mk hb3
  have R3 := Aside0.mk (blk_old hb23 HR.out)
  clear hO3 hb3 hb23 r0 r0a r1 r1a hn0 hd1
  obtain ⟨hd, hhd⟩ : ∃ hd, pack [4, 4, 8, 2] [magic, 0, q, n] = hd := ⟨_, rfl⟩
  rw [hhd] at HO3
  have HHD := Aside0.mk hhd
  have HHL := Aside0.mk (show hd.length = 18 by rw [← hhd]; simp [pack, wd, be_len])
  have HO3 := Aside0.mk (show Base.Own w3 w.heap.size v3 hd from Kd.R_lower HO3.out HA.out.size)
  clear hhd
  go_wp2
  go_loopg [7, 8] n (fun g1 v7 v8 wr => ∃ (i : Nat) (p : List UInt8), v8 = .int .i64 (i : Int) ∧ i ≤ n ∧ Aside0 (g1 + i = n) ∧ Aside0 (p = hd ++ itsB (l.take i)) ∧ Aside0 (∀ x ∈ l.take i, may x) ∧ Aside0 (Base.Own wr w.heap.size v7 p) ∧ Aside0 (Below w.heap.size w wr) ∧ Aside0 (wr.heap[g]? = some (.cells #[.int .u64 (q : Int), .slice A n c] 25 (0, 0))))
  case atStart => exact ⟨0, hd, rfl, by omega, ⟨rfl⟩, ⟨by simp [itsB]⟩, ⟨fun x hx => by simp at hx⟩, HO3, HB3, R3⟩
  case round =>
    obtain ⟨i, p, rfl, hi, HK, HP, HMY, HO, HBW, HR1⟩ := hrel
    have r1 : wr.cell? ⟨g, 1, none⟩ = some (.slice A n c) := by have := HR1.out; simp [World.cell?, this]
    by_cases hlt : i < n
    · skip
      obtain ⟨pa, rfl, hok, e0, e1, e2, e3, e4⟩ := itm_at (Kd.C_below HC.out HBW.out) (0, 0, 0, 0, 0) i hlt
      obtain ⟨x, hx⟩ : ∃ x, l.getD i (0, 0, 0, 0, 0) = x := ⟨_, rfl⟩
      rw [hx] at e0 e1 e2 e3 e4 hok
      have HTK := Aside0.mk (take_snocD l (0, 0, 0, 0, 0) i (by rw [HL.out]; exact hlt))
      have HX := Aside0.mk hx
      have HXM := Aside0.mk (show x ∈ l by rw [← hx, List.getD_eq_getElem?_getD, List.getElem?_eq_getElem (by rw [HL.out]; exact hlt)]; exact List.getElem_mem _)
      obtain ⟨x1, x2, x3, x4, x5⟩ := x
      dsimp only at e0 e1 e2 e3 e4
      have HOKX := Aside0.mk hok
      have hd0 : decide ((i : Int) < (n : Int)) = true := decide_eq_true (by omega)
      have hd0' : decide (i < n) = true := decide_eq_true hlt
      have k1 : (x1 : Int) < 4294967296 := by have := hok.1; dsimp only at this; omega
      have k2 : (x2 : Int) < 18446744073709551616 := by have := hok.2.1; dsimp only at this; omega
      have k3 : (x3 : Int) < 256 := by have := hok.2.2.1; dsimp only at this; omega
      have k4 : (x4 : Int) < 4294967296 := by have := hok.2.2.2.1; dsimp only at this; omega
      have k5 : (x5 : Int) < 65536 := by have := hok.2.2.2.2; dsimp only at this; omega
      clear hx hok
      by_cases hmay : may (x1, x2, x3, x4, x5)
      · have HMAY := Aside0.mk hmay
        have hb5 : decide ((4096 : Int) < (x5 : Int)) = false := decide_eq_false (by unfold may at hmay; dsimp only at hmay; omega)
        rcases (show (x3 = 1) ∨ (x3 = 2 ∧ x4 = 0 ∧ x5 = 0) from by unfold may at hmay; dsimp only at hmay; omega) with h3 | ⟨h3, h4, h5⟩
        · have hb3 : ((x3 : Int) != 1) = false := by rw [h3]; rfl
          clear hmay h3
          go_wp2_with fail
          refine (rpack_lits w (wr.alloc (.cells #[.int .u32 (x1 : Int), .int .u64 (x2 : Int), .int .u8 (x3 : Int), .int .u32 (x4 : Int), .int .u16 (x5 : Int)] 47)) [4, 8, 1, 4, 2] [x1, x2, x3, x4, x5] _ _ _ rfl _ _ _ _ (by simp) (by simp) rfl rfl rfl (by decide) rfl ?hv (by decide) (by simp) (below_alloc HBW.out _)).mono ?_
          case hv =>
            intro y hy
            simp only [List.mem_cons, List.not_mem_nil, or_false] at hy
            rcases hy with rfl | rfl | rfl | rfl | rfl <;> omega
          rintro e w5 ⟨v5, rfl, hO5, hb5', hb25⟩
          have HO5 := Aside0.mk hO5
          have HB5 := Aside0.mk hb5'
          have hbw5 := below_go (alloc_below wr (.cells #[.int .u32 (x1 : Int), .int .u64 (x2 : Int), .int .u8 (x3 : Int), .int .u32 (x4 : Int), .int .u16 (x5 : Int)] 47)) hb25
          have HRC5 := Aside0.mk (blk_old hbw5 HR1.out)
          obtain ⟨A5, n5, c5, rfl, -, hC5⟩ := HO5.out.reads
          have HC5 := Aside0.mk hC5
          have HOW := Aside0.mk (HO.out.below hbw5)
          have HPL := Aside0.mk (show p.length + n5 ≤ 140737488355328 by
            have h1 := (C_len HC5.out).1
            have h2 : (pack [4, 8, 1, 4, 2] [x1, x2, x3, x4, x5]).length ≤ 40 := pack_len _ _
            rw [HP.out, List.length_append, HHL.out, itsB_len, List.length_take]
            omega)
          clear hC5 hO5 hb5' hb25 hbw5 e0 e1 e2 e3 e4 r1
          go_wp2_with (at_builtin; (refine app_row (w0 := w) w.heap.size (.tmp 69) (.tmp 86) rfl rfl _ p (pack [4, 8, 1, 4, 2] [x1, x2, x3, x4, x5]) A5 n5 c5 rfl rfl HOW.out HC5.out HB5.out HB5.out.size HPL.out ?_); intro v6 w6 hO6 hB6 hg6; (have HO6 := Aside0.mk hO6; have HB6 := Aside0.mk hB6; have HRC6 := Aside0.mk ((hg6.block g (Array.getElem?_eq_some_iff.1 HRC5.out).1 (own_ne_cell HOW.out HRC5.out)).trans HRC5.out); clear hO6 hB6 hg6))
          go_wp2
          go_roundg (gk - 1)
          case measure => have := HK.out; omega
          case rel =>
            refine ⟨i + 1, _, by congr 1, by omega, ⟨by have := HK.out; omega⟩, ⟨?_⟩, ⟨fun y hy => ?_⟩, HO6, HB6, HRC6⟩
            · rw [HP.out, HTK.out, HX.out, itsB_snoc, List.append_assoc]
              congr 2
            · rw [HTK.out, HX.out] at hy
              rcases List.mem_append.1 hy with hy | hy
              · exact HMY.out y hy
              · rw [List.mem_singleton.1 hy]; exact HMAY.out
        · have hb3 : ((x3 : Int) != 1) = true := by rw [h3]; rfl
          have hb32 : ((x3 : Int) != 2) = false := by rw [h3]; rfl
          have hb4 : ((x4 : Int) != 0) = false := by rw [h4]; rfl
          have hb50 : ((x5 : Int) != 0) = false := by rw [h5]; rfl
          clear hmay h3 h4 h5
          go_wp2_with fail
          refine (rpack_lits w (wr.alloc (.cells #[.int .u32 (x1 : Int), .int .u64 (x2 : Int), .int .u8 (x3 : Int), .int .u32 (x4 : Int), .int .u16 (x5 : Int)] 47)) [4, 8, 1, 4, 2] [x1, x2, x3, x4, x5] _ _ _ rfl _ _ _ _ (by simp) (by simp) rfl rfl rfl (by decide) rfl ?hv (by decide) (by simp) (below_alloc HBW.out _)).mono ?_
          case hv =>
            intro y hy
            simp only [List.mem_cons, List.not_mem_nil, or_false] at hy
            rcases hy with rfl | rfl | rfl | rfl | rfl <;> omega
          rintro e w5 ⟨v5, rfl, hO5, hb5', hb25⟩
          have HO5 := Aside0.mk hO5
          have HB5 := Aside0.mk hb5'
          have hbw5 := below_go (alloc_below wr (.cells #[.int .u32 (x1 : Int), .int .u64 (x2 : Int), .int .u8 (x3 : Int), .int .u32 (x4 : Int), .int .u16 (x5 : Int)] 47)) hb25
          have HRC5 := Aside0.mk (blk_old hbw5 HR1.out)
          obtain ⟨A5, n5, c5, rfl, -, hC5⟩ := HO5.out.reads
          have HC5 := Aside0.mk hC5
          have HOW := Aside0.mk (HO.out.below hbw5)
          have HPL := Aside0.mk (show p.length + n5 ≤ 140737488355328 by
            have h1 := (C_len HC5.out).1
            have h2 : (pack [4, 8, 1, 4, 2] [x1, x2, x3, x4, x5]).length ≤ 40 := pack_len _ _
            rw [HP.out, List.length_append, HHL.out, itsB_len, List.length_take]
            omega)
          clear hC5 hO5 hb5' hb25 hbw5 e0 e1 e2 e3 e4 r1
          go_wp2_with (at_builtin; (refine app_row (w0 := w) w.heap.size (.tmp 69) (.tmp 86) rfl rfl _ p (pack [4, 8, 1, 4, 2] [x1, x2, x3, x4, x5]) A5 n5 c5 rfl rfl HOW.out HC5.out HB5.out HB5.out.size HPL.out ?_); intro v6 w6 hO6 hB6 hg6; (have HO6 := Aside0.mk hO6; have HB6 := Aside0.mk hB6; have HRC6 := Aside0.mk ((hg6.block g (Array.getElem?_eq_some_iff.1 HRC5.out).1 (own_ne_cell HOW.out HRC5.out)).trans HRC5.out); clear hO6 hB6 hg6))
          go_wp2
          go_roundg (gk - 1)
          case measure => have := HK.out; omega
          case rel =>
            refine ⟨i + 1, _, by congr 1, by omega, ⟨by have := HK.out; omega⟩, ⟨?_⟩, ⟨fun y hy => ?_⟩, HO6, HB6, HRC6⟩
            · rw [HP.out, HTK.out, HX.out, itsB_snoc, List.append_assoc]
              congr 2
            · rw [HTK.out, HX.out] at hy
              rcases List.mem_append.1 hy with hy | hy
              · exact HMY.out y hy
              · rw [List.mem_singleton.1 hy]; exact HMAY.out
      · have HNO := Aside0.mk (show ¬ ROk l (bn : Int) from fun hr => hmay (hr.2.2 _ HXM.out))
        by_cases h5 : 4096 < x5
        · have hb5 : decide ((4096 : Int) < (x5 : Int)) = true := decide_eq_true (by omega)
          clear hmay h5
          go_wp2
          go_ret2
          exact ⟨below_alloc HBW.out _, .inr ⟨HNO.out, rfl⟩⟩
        have hb5 : decide ((4096 : Int) < (x5 : Int)) = false := decide_eq_false (by omega)
        have h3 : x3 ≠ 1 := fun h => hmay (.inl ⟨by dsimp only; omega, h⟩)
        have hb3 : ((x3 : Int) != 1) = true := by rw [bne_iff_ne]; omega
        by_cases h32 : x3 = 2
        · have hb32 : ((x3 : Int) != 2) = false := by rw [h32]; rfl
          by_cases h4 : x4 = 0
          · have hb4 : ((x4 : Int) != 0) = false := by rw [h4]; rfl
            have h50 : x5 ≠ 0 := fun h => hmay (.inr ⟨h32, h4, h⟩)
            have hb50 : ((x5 : Int) != 0) = true := by rw [bne_iff_ne]; omega
            clear hmay h5 h3 h32 h4 h50
            go_wp2
            go_ret2
            exact ⟨below_alloc HBW.out _, .inr ⟨HNO.out, rfl⟩⟩
          · have hb4 : ((x4 : Int) != 0) = true := by rw [bne_iff_ne]; omega
            clear hmay h5 h3 h32 h4
            go_wp2
            go_ret2
            exact ⟨below_alloc HBW.out _, .inr ⟨HNO.out, rfl⟩⟩
        · have hb32 : ((x3 : Int) != 2) = true := by rw [bne_iff_ne]; omega
          clear hmay h5 h3 h32
          go_wp2
          go_ret2
          exact ⟨below_alloc HBW.out _, .inr ⟨HNO.out, rfl⟩⟩
    · obtain rfl : i = n := by omega
      have hd0 : decide ((i : Int) < (i : Int)) = false := decide_eq_false (by omega)
      have hd0' : decide (i < i) = false := decide_eq_false (by omega)
      have HP2 := Aside0.mk (show p = hd ++ itsB l by have := HP.out; rw [List.take_of_length_le (by rw [HL.out]; omega)] at this; exact this)
      have HPL := Aside0.mk (show p.length = 18 + 19 * i by rw [HP2.out, List.length_append, HHL.out, itsB_len, HL.out])
      have HOK := Aside0.mk (show ROk l (bn : Int) from ⟨by have := H0.out; rw [HL.out]; omega, by have := H1.out; rw [HL.out]; omega, by have := HMY.out; rw [List.take_of_length_le (by rw [HL.out]; omega)] at this; exact this⟩)
      clear r1 
      have r1 : wr.cell? ⟨g, 1, none⟩ = some (.slice A i c) := by have := HR1.out; simp [World.cell?, this]
      go_wp2
      clear r1
      obtain ⟨lo, hlo⟩ : ∃ lo, 18 + 19 * i = lo := ⟨_, rfl⟩
      rw [hlo] at HPL
      have hlb : lo + 1 ≤ bn := by omega
      have HLO := Aside0.mk hlo
      clear hlo
      obtain ⟨wo, rfl⟩ : ∃ wo : World, wo = wr := ⟨_, rfl⟩
      go_loopg [7] (bn - 1 - lo) (fun g1 v7 wr => ∃ j : Nat, lo + j ≤ bn - 1 ∧ Aside0 (g1 + j = bn - 1 - lo) ∧ Aside0 (Base.Own wr w.heap.size v7 (p ++ List.replicate j 0)) ∧ Aside0 (Below w.heap.size w wr))
      case atStart => exact ⟨0, by omega, ⟨rfl⟩, ⟨by simpa using HO.out⟩, HBW⟩
      case round =>
        obtain ⟨j, hj, HK2, HO2, HB2⟩ := hrel
        obtain ⟨A7, n7, c7, rfl, -, hC7⟩ := HO2.out.reads
        have hn7 : n7 = lo + j := by have := (C_len hC7).1; rw [List.length_append, List.length_replicate, HPL.out] at this; omega
        subst hn7
        have HPJ := Aside0.mk (show (p ++ List.replicate j (0 : UInt8)).length + 1 ≤ 140737488355328 by rw [List.length_append, List.length_replicate, HPL.out]; omega)
        by_cases hjl : lo + j < bn - 1
        · have hd1 : decide (((lo + j : Nat) : Int) < (bn : Int) - 1) = true := decide_eq_true (by omega)
          have hd1' : decide ((lo : Int) + (j : Int) < (bn : Int) - 1) = true := decide_eq_true (by omega)
          have HLB := Aside0.mk (show byte.C (wr.alloc (.cells #[.int .u8 0] 5)) (some ⟨wr.heap.size, 0, none⟩) 1 [0] from C_lit rfl (by exact ⟨rfl, trivial⟩) rfl rfl (by simp))
          clear hC7
          go_wp2_with (at_builtin; (refine app_row (w0 := w) w.heap.size (.tmp 93) (.tmp 94) rfl rfl _ (p ++ List.replicate j 0) [0] _ _ _ rfl rfl (HO2.out.below (alloc_below _ _)) HLB.out (below_alloc HB2.out _) (below_alloc HB2.out _).size HPJ.out ?_); intro v2 w2 hO9 hB9 _; (have HO9 := Aside0.mk hO9; have HB9 := Aside0.mk hB9; clear hO9 hB9))
          go_wp2
          go_roundg (bn - 1 - lo - (j + 1))
          case measure => have := HK2.out; omega
          case rel => exact ⟨j + 1, by omega, ⟨by have := HK2.out; omega⟩, ⟨by rw [List.replicate_succ', ← List.append_assoc]; exact HO9.out⟩, HB9⟩
        · have hd1 : decide (((lo + j : Nat) : Int) < (bn : Int) - 1) = false := decide_eq_false (by omega)
          have hd1' : decide ((lo : Int) + (j : Int) < (bn : Int) - 1) = false := decide_eq_false (by omega)
          have HLB := Aside0.mk (show byte.C (wr.alloc (.cells #[.int .u8 231] 5)) (some ⟨wr.heap.size, 0, none⟩) 1 [231] from C_lit rfl (by exact ⟨rfl, trivial⟩) rfl rfl (by simp))
          have HPQ := Aside0.mk (show (p ++ List.replicate j (0 : UInt8)) ++ [231] = pre q l bn by
            have h1 := HHD.out
            have hk2 : bn - 19 - 19 * l.length = j := by rw [HL.out]; have := HLO.out; omega
            unfold pre
            rw [hk2, HP2.out, ← h1, HL.out]
            simp [pack, wd])
          clear hC7
          go_wp2_with (at_builtin; (refine app_row2 (w0 := w) w.heap.size (.tmp 96) (.tmp 97) rfl rfl _ (p ++ List.replicate j 0) [231] _ _ _ rfl rfl (HO2.out.below (alloc_below _ _)) HLB.out (below_alloc HB2.out _) (below_alloc HB2.out _).size HPJ.out bn (by rw [List.length_append, List.length_replicate, HPL.out]; omega) (by omega) ?_); intro g7 k7 w2 hO9 hB9 hg7 hk7; (rw [HPQ.out] at hO9; have HO9 := Aside0.mk hO9; have HB9 := Aside0.mk hB9; have HG7 := Aside0.mk hg7; clear hO9 hB9 hg7))
          refine (Crc.ref_sum_calls _ bn k7 (pre q l bn) _ (Kd.C_below (own_C HO9.out) (alloc_below _ _))).mono ?_
          rintro e w4 ⟨rfl, rfl⟩
          obtain ⟨sm, hsm⟩ : ∃ sm, Crc.sum (Crc.nat (pre q l bn)) = sm := ⟨_, rfl⟩
          have hsml : (sm : Int) < 4294967296 := by
            have : Crc.sum (Crc.nat (pre q l bn)) < 4294967296 := sum_lt _
            omega
          rw [hsm]
          have HSM := Aside0.mk hsm
          have hwr : IntKind.u64.wrap (sm : Int) = (sm : Int) := wrap_u64_in (by omega) (by omega)
          clear hsm hd1 hd1'
          go_wp2_with fail
          refine (rpack_lits w w2 [4] [sm] _ _ _ rfl _ _ _ _ rfl (by simp) rfl rfl rfl (by decide) rfl ?hv (by decide) (by simp) HB9.out).mono ?_
          case hv =>
            intro y hy
            rw [List.mem_singleton.1 hy]
            omega
          rintro e w5 ⟨v5, rfl, hO5, hb5, hb25⟩
          obtain ⟨bs, hbs⟩ : ∃ bs, pack [4] [sm] = bs := ⟨_, rfl⟩
          rw [hbs] at hO5
          have HBS := Aside0.mk (show bs = be 4 sm by rw [← hbs]; simp [pack, wd])
          have HBL := Aside0.mk (show bs.length = 4 by rw [HBS.out, be_len])
          obtain ⟨ga, ka, rfl, hga, hga2, hka, -⟩ := own_form hO5 (by rw [HBL.out]; omega)
          rw [HBL.out] at hO5 hka ⊢
          have HO5 := Aside0.mk hO5
          have HB5 := Aside0.mk hb5
          have HOP := Aside0.mk (HO9.out.below hb25)
          have HGA := Aside0.mk (show g7 < w2.heap.size ∧ w2.heap.size ≤ ga from ⟨Kd.R_lt HO9.out g7 rfl, hga⟩)
          have HPR := Aside0.mk (show (pre q l bn).length = bn from pre_len _ _ _ (by rw [HL.out]; have := HB4.out; omega))
          clear hO5 hb5 hb25 hbs hga hga2 hwr
          go_wp2
          obtain ⟨wo2, rfl⟩ : ∃ wo : World, wo = w5 := ⟨_, rfl⟩
          go_loopg [11] 4 (fun g1 v11 wr => ∃ k : Nat, v11 = .int .i64 (k : Int) ∧ k ≤ 4 ∧ Aside0 (g1 + k = 4) ∧ Aside0 (Base.Own wr w.heap.size (.slice (some ⟨g7, 0, none⟩) bn k7) ((pre q l bn).take 4 ++ (bs.take k ++ (pre q l bn).drop (4 + k)))) ∧ Aside0 (Base.Own wr w2.heap.size (.slice (some ⟨ga, 0, none⟩) 4 ka) bs) ∧ Aside0 (Below w.heap.size w wr))
          case atStart => exact ⟨0, rfl, by omega, ⟨rfl⟩, ⟨by simpa using HOP.out⟩, HO5, HB5⟩
          case round =>
            obtain ⟨k, rfl, hk, HK3, HO6, HO7, HB6⟩ := hrel
            by_cases hk4 : k < 4
            · have hd1 : decide ((k : Int) < 4) = true := decide_eq_true (by omega)
              have hd1' : decide (k < 4) = true := decide_eq_true hk4
              obtain ⟨z, hz⟩ : ∃ z, bs.getD k 0 = z := ⟨_, rfl⟩
              have f0 : wr.cell? ⟨ga, k, none⟩ = some (.int .u8 (z.toNat : Int)) := by
                obtain ⟨ad, hA, hcl⟩ := byte_at (own_C HO7.out) k hk4
                injection hA with hA
                subst hA
                rw [add_plain, hz] at hcl
                exact hcl
              obtain ⟨g', n', c', he, -, -, e0, z0, hO8⟩ := HO6.out.store (4 + k) (by have := HPR.out; have := HBL.out; have := HB4.out; simp only [List.length_append, List.length_take, List.length_drop]; omega) z
              simp only [Value.slice.injEq, Option.some.injEq, Addr.mk.injEq, and_true] at he
              obtain ⟨rfl, -, -⟩ := he
              have HO8 := Aside0.mk hO8
              have HO78 := Aside0.mk (show Base.Own (wr.setCell ⟨g7, 4 + k, none⟩ (.int .u8 (z.toNat : Int))) w2.heap.size (.slice (some ⟨ga, 0, none⟩) 4 ka) bs from Kd.R_grown1 HO7.out rfl (World.grownBy_set1 wr ⟨g7, 4 + k, none⟩ _) (by simp [Value.ownBlock]; have := HGA.out; omega))
              have HST := Aside0.mk (put_step (pre q l bn) bs k z hk4 HBL.out (by rw [HPR.out]; omega) hz)
              have i1 : (0 : Int) ≤ 4 + (k : Int) := by omega
              have i2 : 4 + (k : Int) < (bn : Int) := by omega
              clear hz hO8
              go_wp2
              go_roundg (4 - (k + 1))
              case measure => have := HK3.out; omega
              case rel => exact ⟨k + 1, by congr 1, by omega, ⟨by have := HK3.out; omega⟩, ⟨by rw [← HST.out]; exact HO8.out⟩, HO78, ⟨HB6.out.setCell (show w.heap.size ≤ g7 from HG7.out) _⟩⟩
            · obtain rfl : k = 4 := by omega
              have hd1 : decide (((4 : Nat) : Int) < 4) = false := decide_eq_false (by omega)
              go_wp2
              go_ret2
              refine ⟨HB6.out, .inl ⟨HOK.out, _, rfl, ?_⟩⟩
              have h9 := HO6.out
              rw [List.take_of_length_le (l := bs) (by rw [HBL.out]; omega), HBS.out] at h9
              rw [Int.toNat_natCast]
              unfold enc put4
              rw [HSM.out]
              exact h9
end Go.Proofs.Ytefgahakbnfdeaa.Rc
