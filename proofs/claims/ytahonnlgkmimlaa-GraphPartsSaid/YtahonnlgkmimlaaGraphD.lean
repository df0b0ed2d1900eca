/-
  More laws of what package graph computes: merged lists, parts. Plain Lean.
-/
import Derived.Test.YtahonnlgkmimlaaGraphC
set_option linter.unusedSimpArgs false
set_option linter.unusedVariables false
namespace Go.Proofs.Ytahonnlgkmimlaa
open Go.RowKit

theorem mgF_spec (n : Int) : ∀ (f : Nat) (a b : List Int), a.length + b.length ≤ f → Asc a → Asc b → Asc (mgF f a b n) ∧ ∀ x, x ∈ mgF f a b n ↔ (n = 1 ∧ (x ∈ a ∨ x ∈ b)) ∨ (x ∈ a ∧ x ∈ b)
  | 0, a, b, h, ha, hb => by
    rw [List.eq_nil_of_length_eq_zero (show a.length = 0 by omega), List.eq_nil_of_length_eq_zero (show b.length = 0 by omega)]
    simp [mgF]
  | f + 1, [], [], h, ha, hb => by simp [mgF]
  | f + 1, x :: a, [], h, ha, hb => by
    obtain ⟨h1, h2⟩ := mgF_spec n f a [] (by simp at h ⊢; omega) (List.pairwise_cons.1 ha).2 hb
    have e : mgF (f + 1) (x :: a) [] n = (if n = 1 then [x] else []) ++ mgF f a [] n := by simp [mgF]
    rw [e]
    by_cases hn : n = 1
    · rw [if_pos hn]
      refine ⟨List.pairwise_cons.2 ⟨fun y hy => (List.pairwise_cons.1 ha).1 y ?_, h1⟩, fun y => ?_⟩
      · rcases (h2 y).1 hy with q | q
        · simpa using q.2
        · exact q.1
      · subst hn; have := h2 y; simp at this; simp [this]
    · rw [if_neg hn]; exact ⟨h1, fun y => by simp [h2 y, hn]⟩
  | f + 1, [], x :: b, h, ha, hb => by
    obtain ⟨h1, h2⟩ := mgF_spec n f [] b (by simp at h ⊢; omega) ha (List.pairwise_cons.1 hb).2
    have e : mgF (f + 1) [] (x :: b) n = (if n = 1 then [x] else []) ++ mgF f [] b n := by simp [mgF]
    rw [e]
    by_cases hn : n = 1
    · rw [if_pos hn]
      refine ⟨List.pairwise_cons.2 ⟨fun y hy => (List.pairwise_cons.1 hb).1 y ?_, h1⟩, fun y => ?_⟩
      · rcases (h2 y).1 hy with q | q
        · simpa using q.2
        · exact q.2
      · subst hn; have := h2 y; simp at this; simp [this]
    · rw [if_neg hn]; exact ⟨h1, fun y => by simp [h2 y, hn]⟩
  | f + 1, x :: a, y :: b, h, ha, hb => by
    obtain ⟨a1, a2⟩ := List.pairwise_cons.1 ha
    obtain ⟨b1, b2⟩ := List.pairwise_cons.1 hb
    have hl : a.length + b.length + 2 ≤ f + 1 := by simp at h; omega
    by_cases c1 : x < y
    · obtain ⟨h1, h2⟩ := mgF_spec n f a (y :: b) (by simp; omega) a2 hb
      have e : mgF (f + 1) (x :: a) (y :: b) n = (if n = 1 then [x] else []) ++ mgF f a (y :: b) n := by simp [mgF, c1]
      rw [e]
      have hx : ∀ z ∈ mgF f a (y :: b) n, x < z := fun z hz => by
        have hm : z ∈ a ∨ z ∈ y :: b := by rcases (h2 z).1 hz with q | q; exact q.2; exact .inl q.1
        rcases hm with q | q
        · exact a1 z q
        · rcases List.mem_cons.1 q with q | q
          · omega
          · have := b1 z q; omega
      have hxb : x ∉ y :: b := fun q => by
        rcases List.mem_cons.1 q with q | q
        · omega
        · have := b1 x q; omega
      by_cases hn : n = 1
      · rw [if_pos hn]
        refine ⟨List.pairwise_cons.2 ⟨hx, h1⟩, fun z => ?_⟩
        rw [List.singleton_append, List.mem_cons, h2 z]
        simp only [hn, true_and, List.mem_cons]
        clear h2 hx hxb ha hb
        by_cases p1 : z = x <;> by_cases p2 : z ∈ a <;> by_cases p3 : z = y <;> by_cases p4 : z ∈ b <;> simp [p1, p2, p3, p4]
      · rw [if_neg hn, List.nil_append]
        refine ⟨h1, fun z => ?_⟩
        rw [h2 z]
        simp only [hn, false_and, false_or]
        constructor
        · rintro ⟨q, q'⟩; exact ⟨List.mem_cons_of_mem _ q, q'⟩
        · rintro ⟨q, q'⟩
          rcases List.mem_cons.1 q with q | q
          · subst q; exact (hxb q').elim
          · exact ⟨q, q'⟩
    · by_cases c2 : y < x
      · obtain ⟨h1, h2⟩ := mgF_spec n f (x :: a) b (by simp; omega) ha b2
        have e : mgF (f + 1) (x :: a) (y :: b) n = (if n = 1 then [y] else []) ++ mgF f (x :: a) b n := by simp [mgF, c1, c2]
        rw [e]
        have hx : ∀ z ∈ mgF f (x :: a) b n, y < z := fun z hz => by
          have hm : z ∈ x :: a ∨ z ∈ b := by rcases (h2 z).1 hz with q | q; exact q.2; exact .inr q.2
          rcases hm with q | q
          · rcases List.mem_cons.1 q with q | q
            · omega
            · have := a1 z q; omega
          · exact b1 z q
        have hyb : y ∉ x :: a := fun q => by
          rcases List.mem_cons.1 q with q | q
          · omega
          · have := a1 y q; omega
        by_cases hn : n = 1
        · rw [if_pos hn]
          refine ⟨List.pairwise_cons.2 ⟨hx, h1⟩, fun z => ?_⟩
          rw [List.singleton_append, List.mem_cons, h2 z]
          simp only [hn, true_and, List.mem_cons]
          clear h2 hx hyb ha hb
          by_cases p1 : z = x <;> by_cases p2 : z ∈ a <;> by_cases p3 : z = y <;> by_cases p4 : z ∈ b <;> simp [p1, p2, p3, p4]
        · rw [if_neg hn, List.nil_append]
          refine ⟨h1, fun z => ?_⟩
          rw [h2 z]
          simp only [hn, false_and, false_or]
          constructor
          · rintro ⟨q, q'⟩; exact ⟨q, List.mem_cons_of_mem _ q'⟩
          · rintro ⟨q, q'⟩
            rcases List.mem_cons.1 q' with p | p
            · subst p; exact (hyb q).elim
            · exact ⟨q, p⟩
      · obtain rfl : x = y := by omega
        obtain ⟨h1, h2⟩ := mgF_spec n f a b (by omega) a2 b2
        have e : mgF (f + 1) (x :: a) (x :: b) n = [x] ++ mgF f a b n := by simp [mgF]
        rw [e]
        refine ⟨List.pairwise_cons.2 ⟨fun z hz => ?_, h1⟩, fun z => ?_⟩
        · rcases (h2 z).1 hz with q | q
          · rcases q.2 with q | q
            · exact a1 z q
            · exact b1 z q
          · exact a1 z q.1
        · rw [List.singleton_append, List.mem_cons, h2 z]
          simp only [List.mem_cons]
          by_cases hz : z = x
          · simp [hz]
          · simp [hz]
theorem or_spec {a b : List Int} (ha : Asc a) (hb : Asc b) : Asc (mergeL a b 1) ∧ ∀ x, x ∈ mergeL a b 1 ↔ x ∈ a ∨ x ∈ b := by
  obtain ⟨h1, h2⟩ := mgF_spec 1 _ a b (Nat.le_refl _) ha hb
  exact ⟨h1, fun x => (h2 x).trans ⟨fun q => q.elim (fun q => q.2) (fun q => .inl q.1), fun q => .inl ⟨rfl, q⟩⟩⟩
theorem and_spec {a b : List Int} (ha : Asc a) (hb : Asc b) : Asc (mergeL a b 2) ∧ ∀ x, x ∈ mergeL a b 2 ↔ x ∈ a ∧ x ∈ b := by
  obtain ⟨h1, h2⟩ := mgF_spec 2 _ a b (Nat.le_refl _) ha hb
  exact ⟨h1, fun x => (h2 x).trans ⟨fun q => q.elim (fun q => absurd q.1 (by decide)) id, fun q => .inr q⟩⟩
theorem and_andL {a b : List Int} (ha : Asc a) (hb : Asc b) : mergeL a b 2 = andL a b := by
  obtain ⟨h1, h2⟩ := and_spec ha hb
  exact asc_ext h1 (ha.sublist List.filter_sublist) fun x => by rw [h2]; simp [andL]

theorem allP_iff {l m : List Int} {n : Int} (h : risesP m n) : allP l m ↔ ∀ x ∈ l, x ∈ m := by
  unfold allP
  constructor
  · intro q x hx
    obtain ⟨j, hj, rfl⟩ := mem_getD.1 hx
    have := q j hj
    rw [hasB_mem h] at this
    exact of_decide_eq_true this
  · intro q j hj
    rw [hasB_mem h]
    exact decide_eq_true (q _ (mem_getD.2 ⟨j, hj, rfl⟩))
theorem part_iff {n : Int} {E : List (Int × Int)} {V L : List Int} : partE n E V L = 0 ↔ rightE n E = 0 ∧ risesP V n ∧ risesP L (E.length : Int) ∧ ∀ e ∈ L, ∀ v, touchP E e v → v ∈ V := by
  constructor
  · intro h
    obtain ⟨h1, h2, h3, h4⟩ := partE_0 h
    refine ⟨h1, h2, h3, fun e he v hv => ?_⟩
    obtain ⟨j, hj, rfl⟩ := mem_getD.1 he
    have := h4 j hj
    rw [hasB_mem h2, hasB_mem h2, decide_eq_true_eq, decide_eq_true_eq] at this
    rcases hv with rfl | rfl
    · exact this.1
    · exact this.2
  · rintro ⟨h1, h2, h3, h4⟩
    unfold partE
    rw [if_neg (by omega), if_neg (fun q => q.elim (fun q => q h2) (fun q => q h3)), if_pos]
    intro j hj
    rw [hasB_mem h2, hasB_mem h2]
    have hm := mem_getD.2 ⟨j, hj, rfl⟩
    exact ⟨decide_eq_true (h4 _ hm _ (.inl rfl)), decide_eq_true (h4 _ hm _ (.inr rfl))⟩
theorem mem_dropL {L : List Int} {x y : Int} : y ∈ dropL L x ↔ y ∈ L ∧ y ≠ x := by simp [dropL]
theorem dropL_asc {L : List Int} {x : Int} (h : Asc L) : Asc (dropL L x) := h.sublist List.filter_sublist
theorem rises_sub {l m : List Int} {n : Int} (h : Asc l) (hm : risesP m n) (hs : ∀ x ∈ l, x ∈ m) : risesP l n := rises_iff.2 ⟨h, fun x hx => (rises_iff.1 hm).2 x (hs x hx)⟩

/-- GraphParts. -/
theorem parts_law {n : Int} {E : List (Int × Int)} {A B C D : List Int} {e : Int} (h1 : partE n E A B = 0) (h2 : partE n E C D = 0) :
    partE n E (mergeL A C 2) (mergeL B D 2) = 0 ∧ partE n E (mergeL A C 1) (mergeL B D 1) = 0 ∧ partE n E A (dropL B e) = 0 ∧
    (allP (mergeL A C 2) A ∧ allP (mergeL B D 2) B) ∧ (allP (mergeL A C 2) C ∧ allP (mergeL B D 2) D) ∧ (allP A (mergeL A C 1) ∧ allP B (mergeL B D 1)) ∧ (allP C (mergeL A C 1) ∧ allP D (mergeL B D 1)) ∧
    (allP A A ∧ allP (dropL B e) B) ∧ hasB (dropL B e) e = false ∧ (mergeL (mergeL A C 2) (mergeL A C 1) 1 = mergeL A C 1 ∧ mergeL (mergeL B D 2) (mergeL B D 1) 1 = mergeL B D 1) ∧
    (allP A (upto n) ∧ allP B (upto (E.length : Int))) := by
  obtain ⟨r, rA, rB, t1⟩ := part_iff.1 h1
  obtain ⟨_, rC, rD, t2⟩ := part_iff.1 h2
  have aA := (rises_iff.1 rA).1; have aB := (rises_iff.1 rB).1; have aC := (rises_iff.1 rC).1; have aD := (rises_iff.1 rD).1
  obtain ⟨s1, m1⟩ := and_spec aA aC; obtain ⟨s2, m2⟩ := and_spec aB aD
  obtain ⟨s3, m3⟩ := or_spec aA aC; obtain ⟨s4, m4⟩ := or_spec aB aD
  have q1 : risesP (mergeL A C 2) n := rises_sub s1 rA fun x hx => ((m1 x).1 hx).1
  have q2 : risesP (mergeL B D 2) (E.length : Int) := rises_sub s2 rB fun x hx => ((m2 x).1 hx).1
  have q3 : risesP (mergeL A C 1) n := rises_iff.2 ⟨s3, fun x hx => ((m3 x).1 hx).elim (fun q => (rises_iff.1 rA).2 x q) (fun q => (rises_iff.1 rC).2 x q)⟩
  have q4 : risesP (mergeL B D 1) (E.length : Int) := rises_iff.2 ⟨s4, fun x hx => ((m4 x).1 hx).elim (fun q => (rises_iff.1 rB).2 x q) (fun q => (rises_iff.1 rD).2 x q)⟩
  have q5 : risesP (dropL B e) (E.length : Int) := rises_sub (dropL_asc aB) rB fun x hx => (mem_dropL.1 hx).1
  obtain ⟨s5, m5⟩ := or_spec s1 s3; obtain ⟨s6, m6⟩ := or_spec s2 s4
  refine ⟨part_iff.2 ⟨r, q1, q2, fun e he v hv => (m1 v).2 ⟨t1 e ((m2 e).1 he).1 v hv, t2 e ((m2 e).1 he).2 v hv⟩⟩, part_iff.2 ⟨r, q3, q4, fun e he v hv => (m3 v).2 (((m4 e).1 he).imp (fun q => t1 e q v hv) (fun q => t2 e q v hv))⟩,
    part_iff.2 ⟨r, rA, q5, fun e he v hv => t1 e (mem_dropL.1 he).1 v hv⟩, ⟨(allP_iff rA).2 fun x hx => ((m1 x).1 hx).1, (allP_iff rB).2 fun x hx => ((m2 x).1 hx).1⟩, ⟨(allP_iff rC).2 fun x hx => ((m1 x).1 hx).2, (allP_iff rD).2 fun x hx => ((m2 x).1 hx).2⟩,
    ⟨(allP_iff q3).2 fun x hx => (m3 x).2 (.inl hx), (allP_iff q4).2 fun x hx => (m4 x).2 (.inl hx)⟩, ⟨(allP_iff q3).2 fun x hx => (m3 x).2 (.inr hx), (allP_iff q4).2 fun x hx => (m4 x).2 (.inr hx)⟩,
    ⟨(allP_iff rA).2 fun x hx => hx, (allP_iff rB).2 fun x hx => (mem_dropL.1 hx).1⟩, ?_, ⟨asc_ext s5 s3 fun x => ?_, asc_ext s6 s4 fun x => ?_⟩,
    ⟨(allP_iff (upto_rises (Int.le_refl _))).2 fun x hx => mem_upto.2 ((rises_iff.1 rA).2 x hx), (allP_iff (upto_rises (Int.le_refl _))).2 fun x hx => mem_upto.2 ((rises_iff.1 rB).2 x hx)⟩⟩
  · rw [hasB_mem q5]; exact decide_eq_false fun q => (mem_dropL.1 q).2 rfl
  · rw [m5, m1, m3]; exact ⟨fun q => q.elim (fun q => .inl q.1) id, .inr⟩
  · rw [m6, m2, m4]; exact ⟨fun q => q.elim (fun q => .inl q.1) id, .inr⟩

/-- GraphLists. -/
theorem lists_law {A B C D : List Int} {x : Int} (rA : risesP A 1099511627776) (rB : risesP B 1099511627776) (rC : risesP C 1099511627776) (rD : risesP D 1099511627776) :
    mergeL A C 2 = andL A C ∧ mergeL B D 2 = andL B D ∧ hasB A x = decide (x ∈ A) ∧ ((allP A C ∧ allP B D) ↔ (mergeL A C 2).length = A.length ∧ (mergeL B D 2).length = B.length) := by
  have aA := (rises_iff.1 rA).1; have aB := (rises_iff.1 rB).1; have aC := (rises_iff.1 rC).1; have aD := (rises_iff.1 rD).1
  refine ⟨and_andL aA aC, and_andL aB aD, hasB_mem rA, ?_⟩
  rw [and_andL aA aC, and_andL aB aD, allP_iff rC, allP_iff rD]
  have key : ∀ a b : List Int, (andL a b).length = a.length ↔ ∀ x ∈ a, x ∈ b := fun a b => by
    unfold andL
    rw [List.length_filter_eq_length_iff]
    exact ⟨fun q x hx => of_decide_eq_true (q x hx), fun q x hx => decide_eq_true (q x hx)⟩
  rw [key, key]

/-- GraphPuts. -/
theorem puts_no {L : List Int} {e : Int} {n : Int} (hL : risesP L n) (h : hasB L e = false) : dropL L e = L := by
  rw [hasB_mem hL] at h
  have := of_decide_eq_false h
  unfold dropL
  rw [List.filter_eq_self]
  exact fun x hx => decide_eq_true fun q => this (q ▸ hx)
theorem span_rises {n : Int} {E : List (Int × Int)} {L : List Int} (hr : rightE n E = 0) (h : (spanE n E L).2 = 0) : risesP L (E.length : Int) := by
  unfold spanE at h
  rw [if_neg (by omega)] at h
  by_cases c : risesP L (E.length : Int)
  · exact c
  · rw [if_pos c] at h; simp at h
theorem touchL_rises {E : List (Int × Int)} {L : List Int} {n : Int} : risesP (touchL E L n) n := rises_iff.2 ⟨(upto_asc n).sublist List.filter_sublist, fun x hx => mem_upto.1 (List.mem_filter.1 hx).1⟩
theorem puts_law {n : Int} {E : List (Int × Int)} {V L : List Int} {e : Int} (h : partE n E V L = 0) (hf : (spanE n E [e]).2 = 0) (hh : hasB L e = true) :
    spanE n E [e] = ((touchL E [e] n, [e]), 0) ∧ hasB (dropL L e) e = false ∧ (mergeL V (touchL E [e] n) 1 = V ∧ mergeL (dropL L e) [e] 1 = L) ∧ (allP (touchL E [e] n) V ∧ allP [e] L) ∧ ¬ allP [e] (dropL L e) := by
  obtain ⟨r, rV, rL, t⟩ := part_iff.1 h
  have re := span_rises r hf
  have he : e ∈ L := of_decide_eq_true (by rw [← hasB_mem rL]; exact hh)
  have aV := (rises_iff.1 rV).1; have aL := (rises_iff.1 rL).1
  have rd : risesP (dropL L e) (E.length : Int) := rises_sub (dropL_asc aL) rL fun x hx => (mem_dropL.1 hx).1
  have ht : ∀ x ∈ touchL E [e] n, x ∈ V := fun x hx => by
    obtain ⟨e', he', q⟩ := touchB_iff.1 (List.mem_filter.1 hx).2
    rw [List.mem_singleton.1 he'] at q
    exact t e he x q
  obtain ⟨s1, m1⟩ := or_spec aV (rises_iff.1 (touchL_rises (E := E) (L := [e]) (n := n))).1
  obtain ⟨s2, m2⟩ := or_spec (dropL_asc (x := e) aL) (rises_iff.1 re).1
  refine ⟨spanE_ok r re, ?_, ⟨asc_ext s1 aV fun x => ?_, asc_ext s2 aL fun x => ?_⟩, ⟨(allP_iff rV).2 ht, (allP_iff rL).2 fun x hx => by rw [List.mem_singleton.1 hx]; exact he⟩, fun q => ?_⟩
  · rw [hasB_mem rd]; exact decide_eq_false fun q => (mem_dropL.1 q).2 rfl
  · rw [m1]; exact ⟨fun q => q.elim id (ht x), .inl⟩
  · rw [m2, mem_dropL, List.mem_singleton]
    constructor
    · rintro (q | q)
      · exact q.1
      · rw [q]; exact he
    · intro q
      by_cases c : x = e
      · exact .inr c
      · exact .inl ⟨q, c⟩
  · exact (mem_dropL.1 ((allP_iff rd).1 q e (List.mem_singleton.2 rfl))).2 rfl
theorem mgF_len (n : Int) : ∀ (f : Nat) (a b : List Int), (mgF f a b n).length ≤ f
  | 0, a, b => by simp [mgF]
  | f + 1, a, b => by
    unfold mgF
    have h1 := mgF_len n f (a.drop 1) b
    have h2 := mgF_len n f a (b.drop 1)
    have h3 := mgF_len n f (a.drop 1) (b.drop 1)
    (repeat' split) <;> simp only [List.length_append, List.length_cons, List.length_nil] <;> omega
theorem mergeL_len (a b : List Int) (n : Int) : (mergeL a b n).length ≤ a.length + b.length := mgF_len n _ a b
theorem rights_bad {n : Int} {E : List (Int × Int)} {V L : List Int} {x : Int} (h : ¬ rightE n E = 0) : dartsE n E V L x = [] := by
  unfold dartsE partE; rw [if_pos h, if_pos h]
theorem rights_ends {n : Int} {E : List (Int × Int)} {d : Int} (h : ¬ rightE n E = 0) : (endsE n E d).2.2 = false := by
  unfold endsE; rw [if_pos (.inl h)]
theorem rights_whole {n : Int} {E : List (Int × Int)} (h : ¬ rightE n E = 0) : wholeE n E = ([], []) := by
  unfold wholeE; rw [if_pos h]
theorem rights_ok {n : Int} {E : List (Int × Int)} {d : Int} (h : rightE n E = 0) : (endsE n E d).2.2 = (decide (0 ≤ d) && decide (d / 2 < (E.length : Int))) := by
  cases hb : (endsE n E d).2.2
  · have := (ends_no hb).2
    symm; rw [Bool.and_eq_false_iff, decide_eq_false_iff_not, decide_eq_false_iff_not]; omega
  · have := ends_ok hb
    symm; rw [Bool.and_eq_true, decide_eq_true_eq, decide_eq_true_eq]; omega
theorem rights_eq {n : Int} {E : List (Int × Int)} {d : Int} (h : (endsE n E d).2.2 = true) : (endsE n E d).1 = tailE E d ∧ (endsE n E d).2.1 = tailE E (twinE d) := by
  rw [(ends_ok h).2.2.2]; exact ⟨rfl, rfl⟩
theorem lists_end {A B C D : List Int} {x : Int} (h1 : hasB A x = decide (x ∈ A)) (h2 : (allP A C ∧ allP B D) ↔ (mergeL A C 2).length = A.length ∧ (mergeL B D 2).length = B.length) :
    (((((decide (dropL B x = dropL B x)) && (decide (A = A))) && ((hasB A x) == (decide (x ∈ A)))) && (((decide (A = C)) && (decide (B = D))) == ((decide (A = C)) && (decide (B = D))))) &&
      (((decide (allP A C)) && (decide (allP B D))) == ((decide (((mergeL A C 2).length : Int) = (A.length : Int))) && (decide (((mergeL B D 2).length : Int) = (B.length : Int)))))) = true := by
  rw [h1]
  have e : ((decide (allP A C)) && (decide (allP B D))) = ((decide (((mergeL A C 2).length : Int) = (A.length : Int))) && (decide (((mergeL B D 2).length : Int) = (B.length : Int)))) := by
    rw [← Bool.decide_and, ← Bool.decide_and]
    refine decide_eq_decide.2 (h2.trans ?_)
    omega
  rw [e]
  simp
end Go.Proofs.Ytahonnlgkmimlaa
