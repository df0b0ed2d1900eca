/-
  What a name begins with; names, numbers and bad places are the document's. Plain Lean.
-/
import Derived.Test.YtbdgelipabndaaaWordE
set_option linter.unusedSimpArgs false
set_option linter.unusedVariables false
namespace Go.Proofs.Ytbdgelipabndaaa
open Go.RowKit

/-! ### Cut texts -/
theorem decF_cut {b0 b1 b2 b3 c1 c2 c3 : Nat} {s1 s2 s3 t1 t2 t3 : Prop} [Decidable s1] [Decidable s2] [Decidable s3] [Decidable t1] [Decidable t2] [Decidable t3]
    (h1 : t1 → s1 ∧ c1 = b1) (h2 : t2 → t1 ∧ s2 ∧ c2 = b2) (h3 : t3 → t2 ∧ s3 ∧ c3 = b3)
    (w1 : 1 < (decF b0 b1 b2 b3 s1 s2 s3).2 → t1) (w2 : 2 < (decF b0 b1 b2 b3 s1 s2 s3).2 → t2) (w3 : 3 < (decF b0 b1 b2 b3 s1 s2 s3).2 → t3) :
    decF b0 c1 c2 c3 t1 t2 t3 = decF b0 b1 b2 b3 s1 s2 s3 := by
  by_cases q0 : b0 < 128
  · rw [decF_low q0, decF_low q0]
  by_cases q1 : t1
  · obtain ⟨p1, rfl⟩ := h1 q1
    by_cases q2 : t2
    · obtain ⟨_, p2, rfl⟩ := h2 q2
      by_cases q3 : t3
      · obtain ⟨_, p3, rfl⟩ := h3 q3
        simp only [decF, q0, q1, q2, q3, p1, p2, p3]
      · unfold decF at w3 ⊢
        simp only [q0, q1, q2, q3, p1, p2, if_false, true_and, and_true, false_and, and_false] at w3 ⊢
        (repeat' split at w3) <;> (repeat' split) <;> first | rfl | omega | (exfalso; apply w3; decide) | (exfalso; exact w3 (by decide)) | simp_all
    · have q3 : ¬ t3 := fun h => q2 (h3 h).1
      unfold decF at w2 ⊢
      simp only [q0, q1, q2, q3, p1, if_false, true_and, and_true, false_and, and_false] at w2 ⊢
      (repeat' split at w2) <;> (repeat' split) <;> first | rfl | omega | (exfalso; exact w2 (by decide)) | simp_all
  · have q2 : ¬ t2 := fun h => q1 (h2 h).1
    have q3 : ¬ t3 := fun h => q2 (h3 h).1
    unfold decF at w1 ⊢
    simp only [q0, q1, q2, q3, if_false, true_and, and_true, false_and, and_false] at w1 ⊢
    (repeat' split at w1) <;> (repeat' split) <;> first | rfl | omega | (exfalso; exact w1 (by decide)) | simp_all

theorem cut_size {s : ByteArray} {e : Nat} (h : e ≤ s.size) : (s.extract 0 e).size = e := by
  rw [ByteArray.size_extract]; omega
theorem cut_get {s : ByteArray} {e k : Nat} (h : k < e) : (s.extract 0 e).get! k = s.get! k := by
  show (s.extract 0 e).data.getD k 0 = s.data.getD k 0
  rw [ByteArray.data_extract, Array.getD_eq_getD_getElem?, Array.getD_eq_getD_getElem?]
  congr 1
  rw [Array.getElem?_extract]
  split
  · simp
  · rename_i hh
    rw [Array.getElem?_eq_none]
    have : s.data.size ≤ k := by omega
    omega
theorem decode_cut {s : ByteArray} {e q : Nat} (he : e ≤ s.size) (hq : q < e) (hw : q + (Utf8.decode s q).2 ≤ e) : Utf8.decode (s.extract 0 e) q = Utf8.decode s q := by
  rw [decode_eq] at hw
  rw [decode_eq, decode_eq]
  rw [show ((s.extract 0 e).get! (q + 0)).toNat = (s.get! (q + 0)).toNat by rw [cut_get (by omega)]]
  rw [cut_size he]
  exact decF_cut (fun h => ⟨by omega, by rw [cut_get (by omega)]⟩) (fun h => ⟨by omega, by omega, by rw [cut_get (by omega)]⟩) (fun h => ⟨by omega, by omega, by rw [cut_get (by omega)]⟩) (fun h => by omega) (fun h => by omega) (fun h => by omega)

/-- The runes of a text, up to a place: of what is cut off there too. -/
def Pre (s : ByteArray) (pos : Nat) (l : List (Nat × Int)) : Prop := (pos = 0 ∨ l ≠ []) ∧ ∀ e, pos ≤ e → e ≤ s.size → runes (s.extract 0 e) 0 = l ++ runes (s.extract 0 e) pos
theorem pre_0 (s : ByteArray) : Pre s 0 [] := ⟨.inl rfl, fun e _ _ => rfl⟩
theorem pre_step {s : ByteArray} {pos : Nat} {l : List (Nat × Int)} (h : Pre s pos l) (hp : pos < s.size) : Pre s (pos + (Utf8.decode s pos).2) (l ++ [(pos, ((Utf8.decode s pos).1 : Int))]) := by
  have hw := width_pos s pos hp
  refine ⟨.inr (by simp), fun e h1 h2 => ?_⟩
  rw [h.2 e (by omega) h2, runes_cons _ pos (by rw [cut_size h2]; omega), decode_cut h2 (by omega) h1, List.append_assoc]
  rfl

theorem nameGo_part : ∀ (l m : List (Nat × Int)) (n k : Int), nameGo (l ++ m) n k = true → (0 < n ∨ (0 ≤ n ∧ l ≠ [])) → nameGo l n k = true
  | [], m, n, k, h, h0 => by
    simp only [nameGo, decide_eq_true_eq]
    rcases h0 with h0 | h0
    · exact h0
    · exact absurd rfl h0.2
  | (p, r) :: l, m, n, k, h, h0 => by
    have ih := fun n' k' h' (hn : 0 < n') => nameGo_part l m n' k' h' (.inl hn)
    simp only [List.cons_append, nameGo] at h ⊢
    have hn : 0 < n + 1 := by omega
    (repeat' split at h) <;> first | (simp at h; done) | skip
    all_goals (repeat' split) <;> first | (exfalso; omega) | exact ih _ _ h hn

theorem name_cut {s : ByteArray} {pos : Nat} {l : List (Nat × Int)} (h : Pre s pos l) (h0 : 0 < pos) (hs : pos ≤ s.size) (hn : nameB s = true) : nameB (s.extract 0 pos) = true := by
  have h1 := h.2 pos (Nat.le_refl _) hs
  have h2 := h.2 s.size hs (Nat.le_refl _)
  rw [ByteArray.extract_zero_size] at h2
  unfold nameB at hn ⊢
  rw [runes_nil _ pos (by rw [cut_size hs]; omega), List.append_nil] at h1
  rw [h2] at hn
  rw [h1]
  exact nameGo_part _ _ _ _ hn (.inr ⟨Int.le_refl _, h.1.resolve_left (by omega)⟩)

/-! ### Bad places -/
def Same2 (x : Int × Bool) (y : Int) : Prop := (0 ≤ y ∧ x = (y, true)) ∨ (y = -1 ∧ x = (0, false))
theorem Same2.out {x : Int × Bool} {y : Int} (h : Same2 x y) : x.2 = decide (0 ≤ y) ∧ x.1 = max y 0 := by
  rcases h with ⟨h, rfl⟩ | ⟨rfl, rfl⟩
  · exact ⟨(decide_eq_true h).symm, by simp only; omega⟩
  · exact ⟨rfl, rfl⟩
theorem bad_law (s : ByteArray) : ∀ (f pos : Nat), s.size - pos ≤ f → pos ≤ s.size → Same2 (badGo (runes s pos)) (brGo s (runes s pos))
  | 0, pos, h, h2 => by rw [runes_nil s pos (by omega)]; exact .inr ⟨rfl, rfl⟩
  | f + 1, pos, h, h2 => by
    by_cases hp : pos < s.size
    · have ih := bad_law s f (pos + (Utf8.decode s pos).2) (by have := width_pos s pos hp; omega) (rune_fits hp)
      rw [runes_cons s pos hp]
      simp only [badGo, brGo]
      have ha := rRune_decode s pos
      have key : (cls ((Utf8.decode s pos).1 : Int) = 0 ∧ markB ((Utf8.decode s pos).1 : Int) = false) ↔ ¬ okText (rRune s pos).1 := by
        unfold okText markB
        rw [decide_eq_false_iff_not]
        rcases ha.2 with e | ⟨e, e'⟩
        · rw [e]
          by_cases c : ((Utf8.decode s pos).1 : Int) = 65533
          · rw [c]; constructor
            · intro _ hh; exact hh (.inr (.inl rfl))
            · intro _; exact ⟨by decide, by omega⟩
          · omega
        · rw [e, e']; constructor
          · intro _ hh; exact hh (.inl (by omega))
          · intro _; exact ⟨by decide, by omega⟩
      by_cases c : okText (rRune s pos).1
      · rw [if_pos c, if_neg (fun h => (key.1 h) c)]; exact ih
      · rw [if_neg c, if_pos (key.2 c)]
        exact .inl ⟨Int.natCast_nonneg pos, rfl⟩
    · rw [runes_nil s pos hp]; exact .inr ⟨rfl, rfl⟩
theorem bad_eq (s : ByteArray) : (badB s).2 = decide (0 ≤ refBad s) ∧ (badB s).1 = max (refBad s) 0 := (bad_law s s.size 0 (by omega) (by omega)).out

/-! ### Numbers -/
theorem rune_digit {s : ByteArray} {pos : Nat} : (cls ((Utf8.decode s pos).1 : Int) = 2 ↔ (48 ≤ StrAt s pos ∧ StrAt s pos ≤ 57)) := by
  have hb := strAt_byte s pos
  by_cases h : StrAt s pos < 128
  · rw [rune_low h]
    simp only
    rw [show (((StrAt s pos).toNat : Nat) : Int) = StrAt s pos by omega]
    unfold cls letP
    (repeat' split) <;> omega
  · have := (rune_high h).1
    constructor
    · intro hc; have := cls_2 hc; omega
    · intro hc; omega
theorem num_law (s : ByteArray) : ∀ (f pos : Nat), s.size - pos = f → pos ≤ s.size → ∀ n : Int, 0 ≤ n → Same2 (numGo (runes s pos) n) (rnGo s f pos n)
  | 0, pos, h, h2, n, hn => by
    rw [runes_nil s pos (by omega)]
    exact .inl ⟨hn, rfl⟩
  | f + 1, pos, h, h2, n, hn => by
    have hp : pos < s.size := by omega
    rw [runes_cons s pos hp]
    simp only [numGo, rnGo]
    by_cases c : 48 ≤ StrAt s pos ∧ StrAt s pos ≤ 57
    · rw [if_pos (rune_digit.2 c), if_neg (by omega), rune_low (by omega)]
      simp only
      have ih := num_law s f (pos + 1) (by omega) (by omega) (n * 10 + StrAt s pos - 48) (by omega)
      rw [show 10 * n + (((StrAt s pos).toNat : Nat) - 48 : Int) = n * 10 + StrAt s pos - 48 by omega]
      exact ih
    · rw [if_neg (fun h => c (rune_digit.1 h)), if_pos (by omega)]
      exact .inr ⟨rfl, rfl⟩
theorem num_same (s : ByteArray) : Same2 (numB s) (refNum s) := by
  unfold numB refNum
  by_cases h0 : s.size = 0
  · rw [if_pos h0, if_pos (by omega)]; exact .inr ⟨rfl, rfl⟩
  by_cases h9 : 9 < s.size
  · rw [if_neg h0, if_pos h9, if_pos (by omega)]; exact .inr ⟨rfl, rfl⟩
  by_cases h1 : 1 < s.size ∧ StrAt s 0 = 48
  · rw [if_neg h0, if_neg h9, if_pos h1, if_pos (by omega)]; exact .inr ⟨rfl, rfl⟩
  · rw [if_neg h0, if_neg h9, if_neg h1, if_neg (by omega)]
    exact num_law s s.size 0 (by omega) (by omega) 0 (by omega)
theorem num_eq (s : ByteArray) : (numB s).2 = decide (0 ≤ refNum s) ∧ (numB s).1 = max (refNum s) 0 := (num_same s).out

/-! ### Names -/
def nameC : List Int → Int → Int → Bool
  | [], n, _ => decide (0 < n)
  | c :: l, n, k =>
    if c = 1 then (if 0 < k then false else if 16 < n + 1 then false else if 3 < k then false else nameC l (n + 1) k)
    else if c = 2 then (if n + 1 = 1 then false else if 0 < k then false else if 16 < n + 1 then false else if 3 < k then false else nameC l (n + 1) k)
    else if c = 3 then (if n + 1 = 1 then false else if 16 < n + 1 then false else if 3 < k + 1 then false else nameC l (n + 1) (k + 1))
    else false
theorem name_classes (s : ByteArray) : ∀ (f pos : Nat), s.size - pos ≤ f → pos ≤ s.size → ∀ n k, nameGo (runes s pos) n k = nameC ((runes s pos).map (rcl s)) n k
  | 0, pos, h, h2, n, k => by rw [runes_nil s pos (by omega)]; rfl
  | f + 1, pos, h, h2, n, k => by
    by_cases hp : pos < s.size
    · have ih := name_classes s f (pos + (Utf8.decode s pos).2) (by have := width_pos s pos hp; omega) (rune_fits hp)
      rw [runes_cons s pos hp]
      simp only [List.map_cons, nameGo, nameC]
      have ha := rRune_decode s pos
      by_cases hn : (rRune s pos).1 < 0
      · rw [rcl_neg hn]
        have e : (Utf8.decode s pos).1 = 65533 := by rcases ha.2 with e | e <;> omega
        rw [e]
        rw [if_neg (by decide), if_neg (by decide), if_neg (by decide), if_neg (by decide), if_neg (by decide), if_neg (by decide)]
      · rw [rcl_pos hn, show (rRune s pos).1 = ((Utf8.decode s pos).1 : Int) by rcases ha.2 with e | e <;> omega]
        simp only [ih]
    · rw [runes_nil s pos hp]; rfl

def Sgn (l : List Int) : Prop := ∀ x ∈ l, x = 3
def Ltr (l : List Int) : Prop := ∀ x ∈ l, x = 1 ∨ x = 2
def NameP (l : List Int) (n : Int) : Prop := ∃ a b, l = a ++ b ∧ Ltr a ∧ Sgn b ∧ b.length ≤ 3 ∧ n + l.length ≤ 16

theorem nameC_sgn : ∀ (l : List Int) (n k : Int), 0 < n → n ≤ 16 → 0 < k → k ≤ 3 → (nameC l n k = true ↔ Sgn l ∧ k + l.length ≤ 3 ∧ n + l.length ≤ 16)
  | [], n, k, h1, h2, h3, h4 => by
    simp only [nameC, List.length_nil, decide_eq_true_eq]
    exact ⟨fun _ => ⟨fun x hx => by simp at hx, by omega, by omega⟩, fun _ => h1⟩
  | c :: l, n, k, h1, h2, h3, h4 => by
    simp only [nameC, List.length_cons]
    have hs : Sgn (c :: l) ↔ c = 3 ∧ Sgn l := ⟨fun h => ⟨h c (List.mem_cons_self ..), fun x hx => h x (List.mem_cons_of_mem _ hx)⟩, fun h x hx => by rcases List.mem_cons.1 hx with rfl | hx; exact h.1; exact h.2 x hx⟩
    rw [hs]
    by_cases c1 : c = 1
    · rw [if_pos c1, if_pos h3]; constructor
      · intro h; cases h
      · rintro ⟨⟨h, _⟩, _⟩; omega
    by_cases c2 : c = 2
    · rw [if_neg c1, if_pos c2, if_neg (by omega), if_pos h3]; constructor
      · intro h; cases h
      · rintro ⟨⟨h, _⟩, _⟩; omega
    by_cases c3 : c = 3
    · rw [if_neg c1, if_neg c2, if_pos c3, if_neg (by omega)]
      by_cases q1 : 16 < n + 1
      · rw [if_pos q1]; constructor
        · intro h; cases h
        · rintro ⟨_, _, h⟩; omega
      by_cases q2 : 3 < k + 1
      · rw [if_neg q1, if_pos q2]; constructor
        · intro h; cases h
        · rintro ⟨_, h, _⟩; omega
      rw [if_neg q1, if_neg q2, nameC_sgn l (n + 1) (k + 1) (by omega) (by omega) (by omega) (by omega)]
      constructor
      · rintro ⟨h, h', h''⟩; exact ⟨⟨c3, h⟩, by omega, by omega⟩
      · rintro ⟨⟨_, h⟩, h', h''⟩; exact ⟨h, by omega, by omega⟩
    · rw [if_neg c1, if_neg c2, if_neg c3]; constructor
      · intro h; cases h
      · rintro ⟨⟨h, _⟩, _⟩; exact absurd h c3

theorem nameP_ltr {c : Int} {l : List Int} {n : Int} (hc : c = 1 ∨ c = 2) : NameP (c :: l) n ↔ NameP l (n + 1) := by
  constructor
  · rintro ⟨a, b, h, ha, hb, h3, h4⟩
    cases a with
    | nil => simp only [List.nil_append] at h; have := hb c (by rw [← h]; exact List.mem_cons_self ..); omega
    | cons x a =>
      simp only [List.cons_append, List.cons.injEq] at h
      simp only [List.length_cons] at h4
      exact ⟨a, b, h.2, fun y hy => ha y (List.mem_cons_of_mem _ hy), hb, h3, by omega⟩
  · rintro ⟨a, b, h, ha, hb, h3, h4⟩
    refine ⟨c :: a, b, by rw [h]; rfl, fun y hy => ?_, hb, h3, by simp only [List.length_cons]; omega⟩
    rcases List.mem_cons.1 hy with rfl | hy
    · exact hc
    · exact ha y hy
theorem nameP_sgn {c : Int} {l : List Int} {n : Int} (hc : ¬ (c = 1 ∨ c = 2)) : NameP (c :: l) n ↔ c = 3 ∧ Sgn l ∧ 1 + (l.length : Int) ≤ 3 ∧ (n + 1) + l.length ≤ 16 := by
  constructor
  · rintro ⟨a, b, h, ha, hb, h3, h4⟩
    cases a with
    | nil =>
      simp only [List.nil_append] at h
      subst h
      simp only [List.length_cons] at h3 h4
      exact ⟨hb c (List.mem_cons_self ..), fun y hy => hb y (List.mem_cons_of_mem _ hy), by omega, by omega⟩
    | cons x a =>
      simp only [List.cons_append, List.cons.injEq] at h
      exact absurd (h.1 ▸ ha x (List.mem_cons_self ..)) hc
  · rintro ⟨h1, h2, h3, h4⟩
    refine ⟨[], c :: l, rfl, fun y hy => by simp at hy, fun y hy => ?_, by simp only [List.length_cons]; omega, by simp only [List.length_cons]; omega⟩
    rcases List.mem_cons.1 hy with rfl | hy
    · exact h1
    · exact h2 y hy

theorem nameC_ltr : ∀ (l : List Int) (n : Int), 0 < n → n ≤ 16 → (nameC l n 0 = true ↔ NameP l n)
  | [], n, h1, h2 => by
    simp only [nameC, decide_eq_true_eq]
    exact ⟨fun _ => ⟨[], [], rfl, fun x hx => by simp at hx, fun x hx => by simp at hx, by simp, by simp; omega⟩, fun _ => h1⟩
  | c :: l, n, h1, h2 => by
    simp only [nameC]
    by_cases hc : c = 1 ∨ c = 2
    · rw [nameP_ltr hc]
      have e : (nameC (c :: l) n 0 = true ↔ (if 16 < n + 1 then false else nameC l (n + 1) 0) = true) := by
        simp only [nameC]
        rcases hc with rfl | rfl
        · rw [if_pos rfl, if_neg (by omega)]; simp
        · rw [if_neg (by decide), if_pos rfl, if_neg (by omega), if_neg (by omega)]; simp
      simp only [nameC] at e
      rw [e]
      by_cases q : 16 < n + 1
      · rw [if_pos q]; constructor
        · intro h; cases h
        · rintro ⟨a, b, _, _, _, _, h⟩; omega
      · rw [if_neg q]; exact nameC_ltr l (n + 1) (by omega) (by omega)
    · rw [nameP_sgn hc, if_neg (by omega), if_neg (by omega)]
      by_cases c3 : c = 3
      · rw [if_pos c3, if_neg (by omega)]
        by_cases q : 16 < n + 1
        · rw [if_pos q]; constructor
          · intro h; cases h
          · rintro ⟨_, _, _, h⟩; omega
        · rw [if_neg q, if_neg (by omega), nameC_sgn l (n + 1) (0 + 1) (by omega) (by omega) (by omega) (by omega)]
          exact ⟨fun h => ⟨c3, h.1, by omega, by omega⟩, fun h => ⟨h.2.1, by omega, by omega⟩⟩
      · rw [if_neg c3]; constructor
        · intro h; cases h
        · rintro ⟨h, _⟩; exact absurd h c3

theorem strip_all (l : List Int) (m : Nat) : ∀ n, m ≤ n → (∀ j, m ≤ j → j < n → l.getD j 0 = 3) → stripN l n = stripN l m
  | 0, h, _ => by rw [show m = 0 by omega]
  | n + 1, h, hj => by
    by_cases e : m = n + 1
    · rw [e]
    · rw [← strip_all l m n (by omega) (fun j h1 h2 => hj j h1 (by omega))]
      conv => lhs; unfold stripN
      rw [if_pos (hj n (by omega) (by omega))]
theorem strip_spec (l : List Int) : ∀ n, ∀ j, stripN l n ≤ j → j < n → l.getD j 0 = 3
  | 0, j, _, h => by omega
  | n + 1, j, h1, h2 => by
    unfold stripN at h1
    split at h1
    · rename_i h3
      by_cases e : j = n
      · rw [e]; exact h3
      · exact strip_spec l n j h1 (by omega)
    · omega

theorem refName_iff (l : List Int) : refNameL l = true ↔ 1 ≤ l.length ∧ l.getD 0 0 = 1 ∧ NameP l 0 := by
  unfold refNameL
  by_cases h : l.length < 1 ∨ 16 < l.length ∨ l.getD 0 0 ≠ 1
  · rw [if_pos h]; constructor
    · intro h; cases h
    · rintro ⟨h1, h2, a, b, _, _, _, _, h3⟩
      rcases h with h | h | h
      · omega
      · omega
      · exact absurd h2 h
  · have hf : 1 ≤ l.length ∧ l.length ≤ 16 ∧ l.getD 0 0 = 1 := ⟨by omega, by omega, by
      by_cases q : l.getD 0 0 = 1
      · exact q
      · exact absurd (.inr (.inr q)) h⟩
    rw [if_neg h]
    have hle := stripN_le l l.length
    constructor
    · intro hh
      by_cases c : 3 < l.length - stripN l l.length
      · rw [if_pos c] at hh; cases hh
      · rw [if_neg c] at hh
        have hok := of_decide_eq_true hh
        refine ⟨hf.1, hf.2.2, l.take (stripN l l.length), l.drop (stripN l l.length), (List.take_append_drop _ _).symm, fun x hx => ?_, fun x hx => ?_, by rw [List.length_drop]; omega, by omega⟩
        · obtain ⟨j, hj, rfl⟩ := List.mem_iff_getElem.1 hx
          rw [List.length_take] at hj
          have := hok j (by omega)
          rw [List.getD_eq_getElem?_getD, List.getElem?_eq_getElem (by omega)] at this
          simpa using this
        · obtain ⟨j, hj, rfl⟩ := List.mem_iff_getElem.1 hx
          rw [List.length_drop] at hj
          have := strip_spec l l.length (stripN l l.length + j) (by omega) (by omega)
          rw [List.getD_eq_getElem?_getD, List.getElem?_eq_getElem (by omega)] at this
          simpa using this
    · rintro ⟨_, _, a, b, rfl, ha, hb, h3, h4⟩
      have hg : ∀ j, j < a.length → ((a ++ b).getD j 0 = 1 ∨ (a ++ b).getD j 0 = 2) := fun j hj => by
        rw [List.getD_eq_getElem?_getD, List.getElem?_append_left hj, List.getElem?_eq_getElem hj]
        exact ha _ (List.getElem_mem hj)
      have hst : stripN (a ++ b) (a ++ b).length = a.length := by
        rw [strip_all (a ++ b) a.length (a ++ b).length (by simp) (fun j h1 h2 => by
          rw [List.length_append] at h2
          rw [List.getD_eq_getElem?_getD, List.getElem?_append_right h1, List.getElem?_eq_getElem (by omega)]
          exact hb _ (List.getElem_mem _))]
        cases ha' : a.length with
        | zero => rfl
        | succ m =>
          unfold stripN
          rw [if_neg (by have := hg m (by omega); omega)]
      rw [hst, List.length_append]
      rw [if_neg (by omega)]
      exact decide_eq_true (fun j hj => hg j hj)

theorem name_eq (s : ByteArray) : nameB s = refNameL (classesR s) := by
  rw [Bool.eq_iff_iff, refName_iff]
  unfold nameB classesR
  rw [name_classes s s.size 0 (by omega) (by omega)]
  cases h : (runes s 0).map (rcl s) with
  | nil => simp [nameC]
  | cons c l =>
    have h0 : (c :: l).getD 0 0 = c := rfl
    rw [h0]
    simp only [nameC, List.length_cons]
    by_cases c1 : c = 1
    · rw [if_pos c1, if_neg (by omega), if_neg (by omega), if_neg (by omega), nameP_ltr (.inl c1), nameC_ltr l (0 + 1) (by omega) (by omega)]
      exact ⟨fun h => ⟨by omega, c1, h⟩, fun h => h.2.2⟩
    · rw [if_neg c1]
      constructor
      · intro hh
        (repeat' split at hh) <;> first | (cases hh; done) | omega
      · rintro ⟨_, h, _⟩; exact absurd h c1
end Go.Proofs.Ytbdgelipabndaaa
