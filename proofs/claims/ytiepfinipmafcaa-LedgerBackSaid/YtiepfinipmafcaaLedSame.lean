/- The ledger told as a function, and the document's rows: they tell the same. No function of the program in sight. -/
import Derived.Test.YtiepfinipmafcaaLedRefN
namespace Go.Proofs.Ytiepfinipmafcaa.Led
open Go.RowKit Go.Maps Go.Proofs.YtiepfinipmafcaaW.PrintWords Go.Proofs.YtiepfinipmafcaaW.PrintMore Go.Proofs.Ytiepfinipmafcaa.Base
set_option linter.unusedVariables false
set_option linter.unusedSimpArgs false
def lookL (l : List Row) (k : Nat) : Option (Nat × Nat) := (l.find? (fun r => decide (r.1 = k))).map (·.2)
def Asc (l : List Row) : Prop := l.Pairwise (fun a b => a.1 < b.1)
/-- The rows rise, and tell what the function tells. -/
structure FL (f : Nat → Option (Nat × Nat)) (l : List Row) : Prop where
  look : ∀ k, f k = lookL l k
  asc : Asc l
/-- A tenant is put among the rows, by recursion. -/
def insA (t : Ten) : List Row → List Row
  | [] => [(t.1, t.2.2.1, 0)]
  | r :: l => if t.1 ≤ r.1 then (t.1, t.2.2.1, 0) :: (r :: l).filter (fun x => decide (x.1 ≠ t.1)) else r :: insA t l
theorem fold_done (t : Ten) : ∀ (l acc : List Row), l.foldl (stepN t) (acc, true) = (acc ++ l.filter (fun x => decide (x.1 ≠ t.1)), true)
  | [], acc => by simp
  | r :: l, acc => by
    rw [List.foldl_cons]
    by_cases h : r.1 = t.1
    · have e : stepN t (acc, true) r = (acc, true) := by unfold stepN; simp [h]
      rw [e, fold_done t l acc, List.filter_cons_of_neg (by simp [h])]
    · have e : stepN t (acc, true) r = (acc ++ [r], true) := by unfold stepN; simp [h]
      rw [e, fold_done t l (acc ++ [r]), List.filter_cons_of_pos (by simp [h]), List.append_assoc]
      rfl
theorem fold_ins (t : Ten) : ∀ (l acc : List Row), (let s := l.foldl (stepN t) (acc, false); if s.2 = true then s.1 else s.1 ++ [(t.1, t.2.2.1, 0)]) = acc ++ insA t l
  | [], acc => by simp [insA]
  | r :: l, acc => by
    rw [List.foldl_cons]
    by_cases h : t.1 ≤ r.1
    · by_cases he : r.1 = t.1
      · have e : stepN t (acc, false) r = (acc ++ [(t.1, t.2.2.1, 0)], true) := by unfold stepN; simp [h, he]
        rw [e, fold_done]
        simp only [if_true, insA, if_pos h]
        rw [List.filter_cons_of_neg (by simp [he]), List.append_assoc]
        rfl
      · have e : stepN t (acc, false) r = (acc ++ [(t.1, t.2.2.1, 0)] ++ [r], true) := by unfold stepN; simp [h, he]
        rw [e, fold_done]
        simp only [if_true, insA, if_pos h]
        rw [List.filter_cons_of_pos (by simp [he]), List.append_assoc, List.append_assoc]
        rfl
    · have he : ¬ r.1 = t.1 := by omega
      have e : stepN t (acc, false) r = (acc ++ [r], false) := by unfold stepN; simp [h, he]
      rw [e]
      have := fold_ins t l (acc ++ [r])
      simp only at this ⊢
      rw [this]
      simp only [insA, if_neg h, List.append_assoc]
      rfl
theorem insN_eq (l : List Row) (t : Ten) : insN l t = insA t l := by
  have := fold_ins t l []
  simp only [List.nil_append] at this
  exact this
theorem look_cons (r : Row) (l : List Row) (k : Nat) : lookL (r :: l) k = if r.1 = k then some r.2 else lookL l k := by
  unfold lookL
  rw [List.find?_cons]
  by_cases h : r.1 = k <;> simp [h]
theorem look_filter (l : List Row) {j k : Nat} (h : k ≠ j) : lookL (l.filter (fun x => decide (x.1 ≠ j))) k = lookL l k := by
  induction l with
  | nil => rfl
  | cons r l ih =>
    by_cases hr : r.1 = j
    · rw [List.filter_cons_of_neg (by simp [hr]), ih, look_cons, if_neg (by omega)]
    · rw [List.filter_cons_of_pos (by simp [hr]), look_cons, look_cons, ih]
theorem look_ins (t : Ten) (l : List Row) (k : Nat) : lookL (insA t l) k = if k = t.1 then some (t.2.2.1, 0) else lookL l k := by
  induction l with
  | nil => rw [insA, look_cons]; by_cases h : k = t.1 <;> simp [h, lookL, eq_comm]
  | cons r l ih =>
    rw [insA]
    by_cases h : t.1 ≤ r.1
    · rw [if_pos h, look_cons]
      by_cases hk : k = t.1
      · rw [if_pos hk.symm, if_pos hk]
      · rw [if_neg (fun e => hk e.symm), if_neg hk, look_filter _ hk]
    · rw [if_neg h, look_cons, ih, look_cons]
      by_cases hk : k = t.1
      · rw [if_neg (by omega), if_pos hk, if_pos hk]
      · rw [if_neg hk, if_neg hk]
theorem mem_ins {t : Ten} {l : List Row} {x : Row} (h : x ∈ insA t l) : x = (t.1, t.2.2.1, 0) ∨ x ∈ l := by
  induction l with
  | nil => rw [insA] at h; exact .inl (List.mem_singleton.1 h)
  | cons r l ih =>
    rw [insA] at h
    split at h
    · rcases List.mem_cons.1 h with h | h
      · exact .inl h
      · exact .inr (List.mem_filter.1 h).1
    · rcases List.mem_cons.1 h with h | h
      · exact .inr (h ▸ List.mem_cons_self ..)
      · exact (ih h).imp id (List.mem_cons_of_mem _)
theorem asc_ins (t : Ten) {l : List Row} (h : Asc l) : Asc (insA t l) := by
  induction l with
  | nil => rw [insA]; exact List.pairwise_singleton _ _
  | cons r l ih =>
    have h1 := (List.pairwise_cons.1 h).1
    have h2 := h.of_cons
    rw [insA]
    split
    · rename_i hle
      refine List.Pairwise.cons (fun x hx => ?_) (List.Pairwise.filter _ h)
      have hx' := List.mem_filter.1 hx
      have hne : x.1 ≠ t.1 := by simpa using hx'.2
      rcases List.mem_cons.1 hx'.1 with e | e
      · show t.1 < x.1
        rw [e] at hne ⊢
        omega
      · have := h1 x e
        show t.1 < x.1
        omega
    · rename_i hle
      refine List.Pairwise.cons (fun x hx => ?_) (ih h2)
      rcases mem_ins hx with e | e
      · rw [e]; show r.1 < t.1; omega
      · exact h1 x e
theorem FL.ins {f : Nat → Option (Nat × Nat)} {l : List Row} (h : FL f l) (t : Ten) : FL (upd f t.1 (t.2.2.1, 0)) (insN l t) := by
  rw [insN_eq]
  refine ⟨fun k => ?_, asc_ins t h.asc⟩
  rw [look_ins, ← h.look]
  rfl
theorem FL.new (xs : List Ten) : FL (newF xs) (newL xs) := by
  have key : ∀ (xs : List Ten) f l, FL f l → FL (xs.foldl (fun f t => upd f t.1 (t.2.2.1, 0)) f) (xs.foldl insN l) := by
    intro xs
    induction xs with
    | nil => intro f l h; exact h
    | cons t xs ih => intro f l h; exact ih _ _ (h.ins t)
  exact key xs _ _ ⟨fun k => rfl, List.Pairwise.nil⟩
/-- Where no row is, nothing is told. -/
theorem look_none {l : List Row} {k : Nat} (h : ∀ p, p < l.length → (l.getD p (0, 0, 0)).1 ≠ k) : lookL l k = none := by
  unfold lookL
  rw [List.find?_eq_none.2 (fun r hr => ?_)]
  · rfl
  · obtain ⟨p, hp, rfl⟩ := List.getElem_of_mem hr
    have := h p hp
    rw [List.getD_eq_getElem?_getD, List.getElem?_eq_getElem hp] at this
    simpa using this
/-- A row, and what stands ahead of it and behind. -/
theorem row_cut {l : List Row} {j k : Nat} (hj : j < l.length) (hk : (l.getD j (0, 0, 0)).1 = k) (hp : ∀ p, p < j → (l.getD p (0, 0, 0)).1 ≠ k) :
    ∃ l1 l2, l = l1 ++ l.getD j (0, 0, 0) :: l2 ∧ (∀ x ∈ l1, x.1 ≠ k) ∧ ∀ y, l.set j y = l1 ++ y :: l2 := by
  refine ⟨l.take j, l.drop (j + 1), ?_, fun x hx => ?_, fun y => ?_⟩
  · rw [List.getD_eq_getElem?_getD, List.getElem?_eq_getElem hj]
    show l = l.take j ++ l[j] :: l.drop (j + 1)
    rw [List.getElem_cons_drop, List.take_append_drop]
  · obtain ⟨p, hpl, rfl⟩ := List.getElem_of_mem hx
    have hpj : p < j := by rw [List.length_take] at hpl; omega
    have := hp p hpj
    rw [List.getElem_take]
    rw [List.getD_eq_getElem?_getD, List.getElem?_eq_getElem (by omega)] at this
    exact this
  · exact List.set_eq_take_append_cons_drop ▸ by rw [if_pos hj]
theorem look_mid {l1 l2 : List Row} {r : Row} (h1 : ∀ x ∈ l1, x.1 ≠ r.1) (k : Nat) : lookL (l1 ++ r :: l2) k = if k = r.1 then some r.2 else lookL (l1 ++ l2) k := by
  induction l1 with
  | nil =>
    rw [List.nil_append, List.nil_append, look_cons]
    by_cases h : k = r.1
    · rw [if_pos h, if_pos h.symm]
    · rw [if_neg h, if_neg (fun e => h e.symm)]
  | cons x l1 ih =>
    rw [List.cons_append, List.cons_append, look_cons, look_cons, ih (fun y hy => h1 y (List.mem_cons_of_mem _ hy))]
    have hx := h1 x (List.mem_cons_self ..)
    by_cases h : k = r.1
    · rw [if_pos h, if_pos h, if_neg (by omega)]
    · rw [if_neg h, if_neg h]
theorem asc_set {l1 l2 : List Row} {r r' : Row} (h : Asc (l1 ++ r :: l2)) (e : r'.1 = r.1) : Asc (l1 ++ r' :: l2) := by
  unfold Asc at *
  rw [List.pairwise_append] at h ⊢
  obtain ⟨a, b, c⟩ := h
  rw [List.pairwise_cons] at b ⊢
  refine ⟨a, ⟨fun x hx => by rw [e]; exact b.1 x hx, b.2⟩, fun x hx y hy => ?_⟩
  rcases List.mem_cons.1 hy with h1 | h1
  · rw [h1, e]; exact c x hx r (List.mem_cons_self ..)
  · exact c x hx y (List.mem_cons_of_mem _ h1)
section
variable {f : Nat → Option (Nat × Nat)} {l l' : List Row} {k m j : Nat} {b : Bool}
theorem FL.none_at (h : FL f l) (hn : ∀ p, p < l.length → (l.getD p (0, 0, 0)).1 ≠ k) : f k = none := by rw [h.look, look_none hn]
theorem FL.some_at (h : FL f l) (hj : j < l.length) (hk : (l.getD j (0, 0, 0)).1 = k) (hp : ∀ p, p < j → (l.getD p (0, 0, 0)).1 ≠ k) : f k = some (l.getD j (0, 0, 0)).2 := by
  obtain ⟨l1, l2, e, h1, -⟩ := row_cut hj hk hp
  rw [h.look, e, look_mid (by rw [hk]; exact h1), if_pos hk.symm, ← e]
theorem FL.set_at (h : FL f l) (hj : j < l.length) (hk : (l.getD j (0, 0, 0)).1 = k) (hp : ∀ p, p < j → (l.getD p (0, 0, 0)).1 ≠ k) (u : Nat) : FL (setF f k ((l.getD j (0, 0, 0)).2.1, u)) (setL l j u) := by
  have hs := h.some_at hj hk hp
  obtain ⟨l1, l2, e, h1, h2⟩ := row_cut hj hk hp
  have e2 : setF f k ((l.getD j (0, 0, 0)).2.1, u) = upd f k ((l.getD j (0, 0, 0)).2.1, u) := by unfold setF; rw [hs]; rfl
  unfold setL
  rw [e2, h2]
  refine ⟨fun i => ?_, asc_set (r := l.getD j (0, 0, 0)) (e ▸ h.asc) rfl⟩
  rw [look_mid (by show ∀ x ∈ l1, x.1 ≠ (l.getD j (0, 0, 0)).1; rw [hk]; exact h1)]
  show (if i = k then _ else f i) = if i = (l.getD j (0, 0, 0)).1 then _ else _
  rw [hk]
  by_cases hi : i = k
  · rw [if_pos hi, if_pos hi]
  · rw [if_neg hi, if_neg hi, h.look]
    conv => lhs; rw [e]
    rw [look_mid (by rw [hk]; exact h1), if_neg (by rw [hk]; exact hi)]
theorem FL.take (h : FL f l) (ht : TakeL l k m b l') : b = decide (m ≤ ((f k).getD (0, 0)).1 - ((f k).getD (0, 0)).2) ∧ FL (takeF f k m) l' := by
  rcases ht with ⟨hn, rfl, rfl⟩ | ⟨j, hj, hk, hp, ht⟩
  · have e := h.none_at hn
    refine ⟨by rw [e]; show decide (m = 0) = decide (m ≤ 0); exact decide_eq_decide.2 (by omega), ?_⟩
    have : takeF f k m = f := by
      unfold takeF setF
      rw [e]
      simp
    rw [this]; exact h
  · have e := h.some_at hj hk hp
    rcases ht with ⟨h1, rfl, hl⟩ | ⟨h1, rfl, hl⟩ <;> rw [hl]
    · refine ⟨by rw [e]; exact (decide_eq_true h1).symm, ?_⟩
      rw [takeF_yes (y := (l.getD j (0, 0, 0)).2.1) (z := (l.getD j (0, 0, 0)).2.2) (by rw [e]; rfl) h1]
      exact h.set_at hj hk hp _
    · refine ⟨by rw [e]; exact (decide_eq_false h1).symm, ?_⟩
      rw [takeF_no (y := (l.getD j (0, 0, 0)).2.1) (z := (l.getD j (0, 0, 0)).2.2) (by rw [e]; rfl) h1]
      exact h
theorem FL.give (h : FL f l) (ht : GiveL l k m b l') : b = decide (m ≤ ((f k).getD (0, 0)).2) ∧ FL (giveF f k m) l' := by
  rcases ht with ⟨hn, rfl, rfl⟩ | ⟨j, hj, hk, hp, ht⟩
  · have e := h.none_at hn
    refine ⟨by rw [e]; show decide (m = 0) = decide (m ≤ 0); exact decide_eq_decide.2 (by omega), ?_⟩
    have : giveF f k m = f := by
      unfold giveF setF
      rw [e]
      simp
    rw [this]; exact h
  · have e := h.some_at hj hk hp
    rcases ht with ⟨h1, rfl, hl⟩ | ⟨h1, rfl, hl⟩ <;> rw [hl]
    · refine ⟨by rw [e]; exact (decide_eq_true h1).symm, ?_⟩
      rw [giveF_yes (y := (l.getD j (0, 0, 0)).2.1) (z := (l.getD j (0, 0, 0)).2.2) (by rw [e]; rfl) h1]
      exact h.set_at hj hk hp _
    · refine ⟨by rw [e]; exact (decide_eq_false h1).symm, ?_⟩
      rw [giveF_no (y := (l.getD j (0, 0, 0)).2.1) (z := (l.getD j (0, 0, 0)).2.2) (by rw [e]; rfl) h1]
      exact h
/-- What All tells, out of the numbers that are there, rising. -/
def usedF (f : Nat → Option (Nat × Nat)) (ks : List Nat) : List (Nat × Nat) := ks.map fun k => (k, ((f k).getD (0, 0)).2)
def Rise (f : Nat → Option (Nat × Nat)) (ks : List Nat) : Prop := ks.Pairwise (· < ·) ∧ ∀ k, k ∈ ks ↔ (f k).isSome = true
theorem asc_uniq : ∀ {a b : List Nat}, a.Pairwise (· < ·) → b.Pairwise (· < ·) → (∀ k, k ∈ a ↔ k ∈ b) → a = b
  | [], [], _, _, _ => rfl
  | [], y :: b, _, _, h => absurd ((h y).2 (List.mem_cons_self ..)) (by simp)
  | x :: a, [], _, _, h => absurd ((h x).1 (List.mem_cons_self ..)) (by simp)
  | x :: a, y :: b, ha, hb, h => by
    have ha1 := (List.pairwise_cons.1 ha).1
    have hb1 := (List.pairwise_cons.1 hb).1
    have exy : x = y := by
      rcases List.mem_cons.1 ((h x).1 (List.mem_cons_self ..)) with e | e
      · exact e
      · rcases List.mem_cons.1 ((h y).2 (List.mem_cons_self ..)) with e2 | e2
        · exact e2.symm
        · have h1 := hb1 _ e; have h2 := ha1 _ e2; omega
    subst exy
    congr 1
    refine asc_uniq ha.of_cons hb.of_cons (fun k => ⟨fun hk => ?_, fun hk => ?_⟩)
    · rcases List.mem_cons.1 ((h k).1 (List.mem_cons_of_mem _ hk)) with e | e
      · have := ha1 _ hk; omega
      · exact e
    · rcases List.mem_cons.1 ((h k).2 (List.mem_cons_of_mem _ hk)) with e | e
      · have := hb1 _ hk; omega
      · exact e
theorem Rise.uniq {ks ks' : List Nat} (h : Rise f ks) (h' : Rise f ks') : ks = ks' := asc_uniq h.1 h'.1 (fun k => by rw [h.2, h'.2])
theorem FL.mem (h : FL f l) {r : Row} (hr : r ∈ l) : f r.1 = some r.2 := by
  obtain ⟨l1, l2, e⟩ := List.append_of_mem hr
  have ha := h.asc
  unfold Asc at ha
  rw [e, List.pairwise_append] at ha
  rw [h.look, e, look_mid (fun x hx => by have := ha.2.2 x hx r (List.mem_cons_self ..); omega), if_pos rfl]
theorem FL.rise (h : FL f l) : Rise f (l.map (·.1)) := by
  refine ⟨List.pairwise_map.2 h.asc, fun k => ⟨fun hk => ?_, fun hk => ?_⟩⟩
  · obtain ⟨r, hr, rfl⟩ := List.mem_map.1 hk
    rw [h.mem hr]; rfl
  · rw [h.look] at hk
    unfold lookL at hk
    rw [Option.isSome_map] at hk
    obtain ⟨r, hr⟩ := Option.isSome_iff_exists.1 hk
    exact List.mem_map.2 ⟨r, List.mem_of_find?_eq_some hr, by simpa using List.find?_some hr⟩
theorem FL.used (h : FL f l) {ks : List Nat} (hk : Rise f ks) : usedF f ks = l.map (fun r => (r.1, r.2.2)) := by
  rw [hk.uniq h.rise]
  unfold usedF
  rw [List.map_map]
  refine List.map_congr_left fun r hr => ?_
  show (r.1, ((f r.1).getD (0, 0)).2) = _
  rw [h.mem hr]
  rfl
end
end Go.Proofs.Ytiepfinipmafcaa.Led
