/-
  Laws of what package graph computes. Plain Lean.
-/
import Derived.Test.YtahonnlgkmimlaaGraphB
import Derived.Lib.RowBridge
set_option linter.unusedSimpArgs false
set_option linter.unusedVariables false
namespace Go.Proofs.Ytahonnlgkmimlaa
open Go.RowKit

/-- Strictly rising lists. -/
abbrev Asc (l : List Int) : Prop := l.Pairwise (· < ·)
theorem rises_iff {l : List Int} {n : Int} : risesP l n ↔ Asc l ∧ ∀ x ∈ l, 0 ≤ x ∧ x < n := by
  constructor
  · intro h
    refine ⟨List.pairwise_iff_getElem.2 fun i j hi hj hij => ?_, fun x hx => ?_⟩
    · have := rises_lt h hij hj
      simpa [List.getD_eq_getElem?_getD, List.getElem?_eq_getElem hi, List.getElem?_eq_getElem hj] using this
    · obtain ⟨j, hj, rfl⟩ := mem_getD.1 hx
      have := h j hj; omega
  · rintro ⟨h1, h2⟩ j hj
    have hm := h2 (l.getD j 0) (mem_getD.2 ⟨j, hj, rfl⟩)
    refine ⟨hm.1, hm.2, fun h0 => ?_⟩
    have := List.pairwise_iff_getElem.1 h1 (j - 1) j (by omega) hj (by omega)
    simpa [List.getD_eq_getElem?_getD, List.getElem?_eq_getElem hj, List.getElem?_eq_getElem (show j - 1 < l.length by omega)] using this
theorem asc_ext {l m : List Int} (hl : Asc l) (hm : Asc m) (h : ∀ x, x ∈ l ↔ x ∈ m) : l = m := by
  induction l generalizing m with
  | nil =>
    cases m with
    | nil => rfl
    | cons b m => exact absurd ((h b).2 List.mem_cons_self) (by simp)
  | cons a l ih =>
    cases m with
    | nil => exact absurd ((h a).1 List.mem_cons_self) (by simp)
    | cons b m =>
      obtain ⟨a1, a2⟩ := List.pairwise_cons.1 hl
      obtain ⟨b1, b2⟩ := List.pairwise_cons.1 hm
      have e : a = b := by
        rcases List.mem_cons.1 ((h a).1 List.mem_cons_self) with q | q
        · exact q
        · rcases List.mem_cons.1 ((h b).2 List.mem_cons_self) with p | p
          · exact p.symm
          · have := b1 a q; have := a1 b p; omega
      subst e
      congr 1
      refine ih a2 b2 fun x => ⟨fun hx => ?_, fun hx => ?_⟩
      · rcases List.mem_cons.1 ((h x).1 (List.mem_cons_of_mem _ hx)) with q | q
        · subst q; have := a1 x hx; omega
        · exact q
      · rcases List.mem_cons.1 ((h x).2 (List.mem_cons_of_mem _ hx)) with q | q
        · subst q; have := b1 x hx; omega
        · exact q

theorem upto_asc (n : Int) : Asc (upto n) := by
  unfold upto
  rw [Asc, List.pairwise_map]
  exact List.pairwise_lt_range.imp fun h => by omega
theorem upto_rises {n m : Int} (h : n ≤ m) : risesP (upto n) m := rises_iff.2 ⟨upto_asc n, fun x hx => by have := mem_upto.1 hx; omega⟩

theorem compact_upTo {d : Array Int} (hs : ∀ j, j + 1 < d.size → d[j]! ≤ d[j + 1]!) : ∀ m, m ≤ d.size → Asc (Lib.compactUpTo d m) ∧ (∀ x, x ∈ Lib.compactUpTo d m ↔ ∃ j, j < m ∧ d[j]! = x) ∧ (∀ x ∈ Lib.compactUpTo d m, ∀ j, m = j + 1 → x ≤ d[j]!)
  | 0, _ => ⟨by simp [Lib.compactUpTo], fun x => by simp [Lib.compactUpTo], fun x hx j hj => by omega⟩
  | m + 1, hm => by
    obtain ⟨h1, h2, h3⟩ := compact_upTo hs m (by omega)
    rw [Lib.compactUpTo_succ]
    have hle : ∀ x ∈ Lib.compactUpTo d m, x ≤ d[m]! := fun x hx => by
      cases m with
      | zero => exact absurd ((h2 x).1 hx) (by simp)
      | succ k => have := h3 x hx k rfl; have := hs k (by omega); omega
    by_cases hk : Lib.keeps d m = true
    · rw [if_pos hk]
      have hlt : ∀ x ∈ Lib.compactUpTo d m, x < d[m]! := fun x hx => by
        cases m with
        | zero => exact absurd ((h2 x).1 hx) (by simp)
        | succ k =>
          have a := h3 x hx k rfl; have b := hs k (by omega)
          have : d[k + 1]! ≠ d[k]! := by
            have := of_decide_eq_true hk
            rcases this with q | q
            · omega
            · simpa using q
          omega
      refine ⟨List.pairwise_append.2 ⟨h1, by simp, fun x hx y hy => by simp at hy; subst hy; exact hlt x hx⟩, fun x => ?_, fun x hx j hj => ?_⟩
      · rw [List.mem_append, h2]
        constructor
        · rintro (⟨j, hj, e⟩ | q)
          · exact ⟨j, by omega, e⟩
          · simp at q; exact ⟨m, by omega, q.symm⟩
        · rintro ⟨j, hj, e⟩
          by_cases q : j = m
          · subst q; exact .inr (by simp [e])
          · exact .inl ⟨j, by omega, e⟩
      · obtain rfl : j = m := by omega
        rcases List.mem_append.1 hx with q | q
        · exact hle x q
        · simp at q; omega
    · rw [if_neg hk, List.append_nil]
      have hm0 : 0 < m := by
        rcases Nat.eq_zero_or_pos m with q | q
        · subst q; exact absurd (decide_eq_true (Or.inl rfl)) hk
        · exact q
      have he : d[m]! = d[m - 1]! := Classical.byContradiction fun q => hk (decide_eq_true (Or.inr q))
      refine ⟨h1, fun x => ?_, fun x hx j hj => ?_⟩
      · rw [h2]
        constructor
        · rintro ⟨j, hj, e⟩; exact ⟨j, by omega, e⟩
        · rintro ⟨j, hj, e⟩
          by_cases q : j = m
          · subst q; exact ⟨j - 1, by omega, by rw [← he]; exact e⟩
          · exact ⟨j, by omega, e⟩
      · obtain rfl : j = m := by omega
        exact hle x hx
theorem compact_sort (l : List Int) : Asc (Lib.compact (sortL l)) ∧ ∀ x, x ∈ Lib.compact (sortL l) ↔ x ∈ l := by
  have hp : (sortL l).Pairwise (· ≤ ·) := by
    have := List.pairwise_mergeSort (le := fun x y : Int => decide (x ≤ y)) (fun a b c h1 h2 => by simp only [decide_eq_true_eq] at *; omega) (fun a b => by simp only [Bool.or_eq_true, decide_eq_true_eq]; omega) l
    exact this.imp fun h => of_decide_eq_true h
  have hs : ∀ j, j + 1 < (sortL l).toArray.size → (sortL l).toArray[j]! ≤ (sortL l).toArray[j + 1]! := fun j hj => by
    rw [getElem!_pos _ j (by omega), getElem!_pos _ (j + 1) hj]
    exact List.pairwise_iff_getElem.1 hp j (j + 1) (by simpa using (by omega : j < (sortL l).toArray.size)) (by simpa using hj) (by omega)
  obtain ⟨h1, h2, _⟩ := compact_upTo hs (sortL l).length (by simp)
  refine ⟨h1, fun x => ?_⟩
  refine (h2 x).trans ?_
  have hperm : ∀ x, x ∈ sortL l ↔ x ∈ l := fun x => List.mem_mergeSort
  rw [← hperm, List.mem_iff_getElem]
  constructor
  · rintro ⟨j, hj, e⟩
    rw [getElem!_pos _ j (by simpa using hj)] at e
    exact ⟨j, hj, by simpa using e⟩
  · rintro ⟨j, hj, e⟩
    exact ⟨j, hj, by rw [getElem!_pos _ j (by simpa using hj)]; simpa using e⟩

theorem mem_endsL {E : List (Int × Int)} {L : List Int} {x : Int} : x ∈ endsL E L ↔ ∃ e ∈ L, touchP E e x := by
  unfold endsL touchP
  simp only [List.mem_flatMap, List.mem_cons, List.not_mem_nil, or_false]
  constructor <;> rintro ⟨e, he, h⟩ <;> exact ⟨e, he, by rcases h with h | h; exact .inl h.symm; exact .inr h.symm⟩
theorem touchB_iff {E : List (Int × Int)} {L : List Int} {v : Int} : touchB E L v = true ↔ ∃ e ∈ L, touchP E e v := by
  unfold touchB
  rw [decide_eq_true_eq]
  constructor
  · rintro ⟨j, hj, h⟩; exact ⟨_, mem_getD.2 ⟨j, hj, rfl⟩, h⟩
  · rintro ⟨e, he, h⟩; obtain ⟨j, hj, rfl⟩ := mem_getD.1 he; exact ⟨j, hj, h⟩
theorem okEs_at {n : Int} {E : List (Int × Int)} (h : okEs n E) {e : Int} (h0 : 0 ≤ e) (h1 : e < (E.length : Int)) : okE n (E.getD e.toNat (0, 0)) := h e.toNat (by omega)
theorem touch_bound {n : Int} {E : List (Int × Int)} {L : List Int} (hE : okEs n E) (hL : risesP L (E.length : Int)) {e v : Int} (he : e ∈ L) (h : touchP E e v) : 0 ≤ v ∧ v < n := by
  have hb := (rises_iff.1 hL).2 e he
  have := okEs_at hE hb.1 hb.2
  unfold okE at this; unfold touchP at h; omega
/-- Span: the ends in their order are the vertices that are touched. -/
theorem span_touch {n : Int} {E : List (Int × Int)} {L : List Int} (hE : okEs n E) (hL : risesP L (E.length : Int)) : Lib.compact (sortL (endsL E L)) = touchL E L n := by
  obtain ⟨h1, h2⟩ := compact_sort (endsL E L)
  refine asc_ext h1 ((upto_asc n).sublist List.filter_sublist) fun x => ?_
  rw [h2, mem_endsL]
  unfold touchL
  rw [List.mem_filter, touchB_iff, mem_upto]
  exact ⟨fun ⟨e, he, h⟩ => ⟨touch_bound hE hL he h, e, he, h⟩, fun h => h.2⟩
theorem spanE_ok {n : Int} {E : List (Int × Int)} {L : List Int} (h : rightE n E = 0) (hL : risesP L (E.length : Int)) : spanE n E L = ((touchL E L n, L), 0) := by
  unfold spanE
  rw [if_neg (by omega), if_neg (fun q => q hL), span_touch (rightE_0 h).2.2.2 hL]

theorem ends_ok {n : Int} {E : List (Int × Int)} {d : Int} (h : (endsE n E d).2.2 = true) : rightE n E = 0 ∧ 0 ≤ d ∧ d / 2 < (E.length : Int) ∧ endsE n E d = (tailE E d, tailE E (twinE d), true) := by
  unfold endsE at h ⊢
  by_cases c : rightE n E ≠ 0 ∨ d < 0 ∨ (E.length : Int) ≤ d / 2
  · rw [if_pos c] at h; cases h
  · rw [if_neg c]
    refine ⟨by omega, by omega, by omega, ?_⟩
    unfold tailE twinE
    by_cases c2 : d % 2 = 0
    · rw [if_pos c2, if_pos c2, if_pos c2, if_neg (by omega), show (d + 1) / 2 = d / 2 by omega]
    · rw [if_neg c2, if_neg c2, if_neg c2, if_pos (by omega), show (d - 1) / 2 = d / 2 by omega]
theorem ends_no {n : Int} {E : List (Int × Int)} {d : Int} (h : (endsE n E d).2.2 = false) : endsE n E d = (0, 0, false) ∧ (rightE n E ≠ 0 ∨ d < 0 ∨ (E.length : Int) ≤ d / 2) := by
  unfold endsE at h ⊢
  by_cases c : rightE n E ≠ 0 ∨ d < 0 ∨ (E.length : Int) ≤ d / 2
  · rw [if_pos c]; exact ⟨rfl, c⟩
  · rw [if_neg c] at h; split at h <;> cases h
theorem twin_twin {d : Int} (h : 0 ≤ d) : twinE (twinE d) = d := by unfold twinE; split <;> split <;> omega
theorem twin_ok {d : Int} (h : 0 ≤ d) : 0 ≤ twinE d ∧ twinE d / 2 = d / 2 := by unfold twinE; split <;> omega
theorem ends_twin {n : Int} {E : List (Int × Int)} {d : Int} (h : rightE n E = 0) (h0 : 0 ≤ d) (h1 : d / 2 < (E.length : Int)) : endsE n E (twinE d) = (tailE E (twinE d), tailE E d, true) := by
  have ht := twin_ok h0
  have h2 : (endsE n E (twinE d)).2.2 = true := by
    unfold endsE
    rw [if_neg (by omega)]
    split <;> rfl
  have := (ends_ok h2).2.2.2
  rw [twin_twin h0] at this
  exact this

theorem mem_dartsL {E : List (Int × Int)} {L : List Int} {v d : Int} : d ∈ dartsL E L v ↔ d / 2 ∈ L ∧ tailE E d = v := by
  unfold dartsL dartsFrom
  simp only [List.mem_flatMap, List.mem_append]
  constructor
  · rintro ⟨e, he, h⟩
    rcases h with h | h
    · split at h
      · rename_i q; simp at h; subst h; refine ⟨by rw [show (2 * e) / 2 = e by omega]; exact he, ?_⟩
        have := q.2; rw [show 2 * e + 0 = 2 * e by omega] at this; exact this
      · simp at h
    · split at h
      · rename_i q; simp at h; subst h; exact ⟨by rw [show (2 * e + 1) / 2 = e by omega]; exact he, q.2⟩
      · simp at h
  · rintro ⟨he, h⟩
    refine ⟨d / 2, he, ?_⟩
    by_cases c : d % 2 = 0
    · left; rw [if_pos ⟨by omega, by rw [show 2 * (d / 2) + 0 = d by omega]; exact h⟩]; simp; omega
    · right; rw [if_pos ⟨by omega, by rw [show 2 * (d / 2) + 1 = d by omega]; exact h⟩]; simp; omega
theorem mem_dartsFrom {E : List (Int × Int)} {e v s d : Int} (h : d ∈ dartsFrom E e v s) : d = 2 * e ∨ d = 2 * e + 1 := by
  unfold dartsFrom at h
  rcases List.mem_append.1 h with h | h <;> split at h <;> simp at h <;> omega
theorem dartsFrom_asc (E : List (Int × Int)) (e v s : Int) : Asc (dartsFrom E e v s) := by
  unfold dartsFrom
  split <;> split <;> simp <;> omega
theorem dartsL_rises {E : List (Int × Int)} {L : List Int} {v m : Int} (h : risesP L m) : risesP (dartsL E L v) (2 * m) := by
  obtain ⟨h1, h2⟩ := rises_iff.1 h
  refine rises_iff.2 ⟨?_, fun x hx => by have := h2 _ (mem_dartsL.1 hx).1; omega⟩
  unfold dartsL
  rw [Asc, List.pairwise_flatMap]
  refine ⟨fun e _ => dartsFrom_asc E e v 0, h1.imp fun hab x hx y hy => ?_⟩
  have := mem_dartsFrom hx; have := mem_dartsFrom hy; omega

theorem wholeE_ok {n : Int} {E : List (Int × Int)} (h : rightE n E = 0) : wholeE n E = (upto n, upto (E.length : Int)) := by unfold wholeE; rw [if_neg (by omega)]
theorem whole_part {n : Int} {E : List (Int × Int)} (h : rightE n E = 0) : partE n E (upto n) (upto (E.length : Int)) = 0 := by
  have hr := rightE_0 h
  unfold partE
  rw [if_neg (by omega), if_neg (fun q => q.elim (fun q => q (upto_rises (Int.le_refl _))) (fun q => q (upto_rises (Int.le_refl _)))), if_pos ?_]
  intro j hj
  rw [hasB_mem (upto_rises (Int.le_refl n)), hasB_mem (upto_rises (Int.le_refl n)), upto_getD hj]
  rw [upto_len] at hj
  have := okEs_at hr.2.2.2 (e := (j : Int)) (by omega) (by omega)
  unfold okE at this
  exact ⟨decide_eq_true (mem_upto.2 (by omega)), decide_eq_true (mem_upto.2 (by omega))⟩
theorem dartsE_ok {n : Int} {E : List (Int × Int)} {V L : List Int} {v : Int} (h : partE n E V L = 0) : dartsE n E V L v = dartsL E L v := by unfold dartsE; rw [if_neg (by omega)]

/-- GraphTwins. -/
theorem twins_law {n : Int} {E : List (Int × Int)} {d : Int} (h : rightE n E = 0) (h0 : 0 ≤ d) (h1 : d / 2 < (E.length : Int)) :
    d ∈ dartsE n E (wholeE n E).1 (wholeE n E).2 (tailE E d) ∧ risesP (dartsE n E (wholeE n E).1 (wholeE n E).2 (tailE E d)) (2 * (E.length : Int)) := by
  rw [wholeE_ok h]
  simp only
  rw [dartsE_ok (whole_part h)]
  exact ⟨mem_dartsL.2 ⟨mem_upto.2 (by omega), rfl⟩, dartsL_rises (upto_rises (Int.le_refl _))⟩

abbrev awE : List (Int × Int) := [(0, 1), (1, 1)]
theorem aw_darts : dartsE 2 awE (wholeE 2 awE).1 (wholeE 2 awE).2 1 = [1, 2, 3] := by decide +kernel
theorem aw_span : spanE 2 awE [1] = (([1], [1]), 0) := by
  rw [spanE_ok (by decide +kernel) (by decide +kernel)]
  decide +kernel
end Go.Proofs.Ytahonnlgkmimlaa
