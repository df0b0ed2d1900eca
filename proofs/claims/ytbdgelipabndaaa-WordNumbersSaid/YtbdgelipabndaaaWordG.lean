/-
  Numbers in decimal: what dec prints is read back, and nothing else is read. Plain Lean.
-/
import Derived.Test.YtbdgelipabndaaaWordF
import Derived.Laws.BytesArg
set_option linter.unusedSimpArgs false
set_option linter.unusedVariables false
namespace Go.Proofs.Ytbdgelipabndaaa
open Go.RowKit

/-- dec, from a round on. -/
def decGo : Nat → Int → ByteArray → ByteArray
  | 0, _, t => t
  | f + 1, n, t => if n / 10 = 0 then strOfNums [48 + n % 10] ++ t else decGo f (n / 10) (strOfNums [48 + n % 10] ++ t)
def decB (n : Int) : ByteArray := decGo 12 n ⟨#[]⟩

def Dig (l : List Int) : Prop := ∀ x ∈ l, 48 ≤ x ∧ x ≤ 57
def val (l : List Int) : Int := l.foldl (fun n c => n * 10 + c - 48) 0
theorem val_snoc (l : List Int) (c : Int) : val (l ++ [c]) = val l * 10 + c - 48 := by simp [val]
theorem fold_ge : ∀ (l : List Int) (n : Int), Dig l → 0 ≤ n → n ≤ l.foldl (fun n c => n * 10 + c - 48) n
  | [], n, _, _ => Int.le_refl _
  | c :: l, n, h, hn => by
    have hc := h c (List.mem_cons_self ..)
    have := fold_ge l (n * 10 + c - 48) (fun x hx => h x (List.mem_cons_of_mem _ hx)) (by omega)
    simp only [List.foldl_cons]
    omega
theorem val_nonneg {l : List Int} (h : Dig l) : 0 ≤ val l := fold_ge l 0 h (Int.le_refl _)
theorem val_pos {l : List Int} (h : Dig l) (h0 : l ≠ []) (h1 : l.getD 0 0 ≠ 48) : 0 < val l := by
  cases l with
  | nil => exact absurd rfl h0
  | cons c l =>
    have hc := h c (List.mem_cons_self ..)
    have h1' : c ≠ 48 := h1
    have := fold_ge l (0 * 10 + c - 48) (fun x hx => h x (List.mem_cons_of_mem _ hx)) (by omega)
    unfold val
    simp only [List.foldl_cons]
    omega
theorem strOfNums_append (a b : List Int) : strOfNums (a ++ b) = strOfNums a ++ strOfNums b := by
  apply ByteArray.ext
  simp [strOfNums]
theorem dec_digits : ∀ (f : Nat) (l : List Int) (t : ByteArray), l.length ≤ f → Dig l → l ≠ [] → (l.length = 1 ∨ l.getD 0 0 ≠ 48) → decGo f (val l) t = strOfNums l ++ t
  | 0, l, t, h, _, h0, _ => by
    exact absurd (List.length_eq_zero_iff.1 (by omega)) h0
  | f + 1, l, t, h, hd, h0, h1 => by
    rcases List.eq_nil_or_concat l with rfl | ⟨l', c, rfl⟩
    · exact absurd rfl h0
    · rw [List.concat_eq_append] at *
      have hc := hd c (by simp)
      have hd' : Dig l' := fun x hx => hd x (by simp [hx])
      have hv := val_nonneg hd'
      rw [val_snoc]
      have e1 : (val l' * 10 + c - 48) % 10 = c - 48 := by omega
      have e2 : (val l' * 10 + c - 48) / 10 = val l' := by omega
      unfold decGo
      rw [e1, e2, show 48 + (c - 48) = c by omega]
      by_cases hn : l' = []
      · subst hn
        rw [if_pos (show val [] = 0 from rfl)]; rfl
      · have hl : 0 < l'.length := List.length_pos_iff.2 hn
        have h48 : l'.getD 0 0 ≠ 48 := by
          rcases h1 with h1 | h1
          · simp at h1; exact absurd h1 hn
          · rw [List.getD_eq_getElem?_getD, List.getElem?_append_left hl, ← List.getD_eq_getElem?_getD] at h1
            exact h1
        rw [if_neg (by have := val_pos hd' hn h48; omega), dec_digits f l' _ (by simp at h; omega) hd' hn (.inr h48), strOfNums_append, ByteArray.append_assoc]

theorem digits_of : ∀ (m : Nat) (n : Int), 0 < n → n < (10 : Int) ^ m → ∃ l, Dig l ∧ l ≠ [] ∧ l.getD 0 0 ≠ 48 ∧ val l = n ∧ l.length ≤ m
  | 0, n, h, h' => by simp at h'; omega
  | m + 1, n, h, h' => by
    by_cases h10 : n < 10
    · exact ⟨[48 + n], fun x hx => by simp at hx; omega, by simp, by simp; omega, by simp [val]; omega, by simp⟩
    · obtain ⟨l, h1, h2, h3, h4, h5⟩ := digits_of m (n / 10) (by omega) (by rw [Int.pow_succ] at h'; omega)
      refine ⟨l ++ [48 + n % 10], fun x hx => ?_, by simp, ?_, by rw [val_snoc, h4]; omega, by simp; omega⟩
      · rcases List.mem_append.1 hx with hx | hx
        · exact h1 x hx
        · simp at hx; omega
      · rw [List.getD_eq_getElem?_getD, List.getElem?_append_left (List.length_pos_iff.2 h2), ← List.getD_eq_getElem?_getD]
        exact h3

/-! ### The reference's Number, of digits -/
theorem strAt_nums {l : List Int} (h : Dig l) (i : Nat) (hi : i < l.length) : StrAt (strOfNums l) i = l.getD i 0 := by
  have hx := h _ (List.getElem_mem hi)
  unfold StrAt strOfNums
  rw [Array.getD_eq_getD_getElem?, List.getD_eq_getElem?_getD, List.getElem?_eq_getElem hi]
  simp [List.getElem?_eq_getElem hi]
  omega
theorem rnGo_nums {l : List Int} (h : Dig l) : ∀ (f i : Nat) (n : Int), i + f = l.length → rnGo (strOfNums l) f i n = (l.drop i).foldl (fun n c => n * 10 + c - 48) n
  | 0, i, n, hi => by rw [List.drop_eq_nil_of_le (by omega)]; rfl
  | f + 1, i, n, hi => by
    have hlt : i < l.length := by omega
    have hx := h _ (List.getElem_mem hlt)
    have e : l.getD i 0 = l[i] := by rw [List.getD_eq_getElem?_getD, List.getElem?_eq_getElem hlt]; rfl
    unfold rnGo
    rw [strAt_nums h i hlt, e, if_neg (by omega), rnGo_nums h f (i + 1) _ (by omega), List.drop_eq_getElem_cons hlt]
    rfl
theorem refNum_nums {l : List Int} (h : Dig l) (h0 : l ≠ []) (h9 : l.length ≤ 9) (h1 : l.length = 1 ∨ l.getD 0 0 ≠ 48) : refNum (strOfNums l) = val l := by
  have hl : 0 < l.length := List.length_pos_iff.2 h0
  unfold refNum
  rw [strOfNums_size, if_neg (by
    have e0 := strAt_nums h 0 hl
    simp only [Int.natCast_zero] at e0
    rw [e0]
    rintro (q | q | ⟨q, q'⟩)
    · omega
    · omega
    · rcases h1 with h1 | h1
      · omega
      · exact h1 q), rnGo_nums h l.length 0 0 (by omega)]
  rfl
/-- The bytes of a text. -/
def bytesI (s : ByteArray) : List Int := s.data.toList.map fun b => (b.toNat : Int)
theorem bytes_str (s : ByteArray) : strOfNums (bytesI s) = s := by
  apply ByteArray.ext
  apply Array.ext'
  unfold strOfNums bytesI
  simp only [List.map_map]
  conv => rhs; rw [← List.map_id s.data.toList]
  apply List.map_congr_left
  intro b _
  simp
theorem bytes_len (s : ByteArray) : (bytesI s).length = s.size := by
  unfold bytesI
  rw [List.length_map, Array.length_toList]
  rfl
theorem strAt_bytes (s : ByteArray) (i : Nat) : StrAt s i = (bytesI s).getD i 0 := by
  unfold StrAt bytesI
  rw [Array.getD_eq_getD_getElem?, List.getD_eq_getElem?_getD, List.getElem?_map]
  simp only [Int.toNat_natCast]
  cases h : s.data[i]? with
  | none => simp [h]
  | some b => simp [h]
theorem rnGo_dig (s : ByteArray) : ∀ (f i : Nat) (n : Int), i + f = s.size → rnGo s f i n ≠ -1 ∨ True → (0 ≤ n → 0 ≤ rnGo s f i n → ∀ j, i ≤ j → j < s.size → 48 ≤ StrAt s j ∧ StrAt s j ≤ 57)
  | 0, i, n, hi, _, _, _, j, h1, h2 => by omega
  | f + 1, i, n, hi, _, hn, hh, j, h1, h2 => by
    unfold rnGo at hh
    split at hh
    · omega
    · by_cases e : j = i
      · rw [e]; omega
      · exact rnGo_dig s f (i + 1) _ (by omega) (.inr trivial) (by omega) hh j (by omega) h2
theorem refNum_dig {s : ByteArray} (h : 0 ≤ refNum s) : Dig (bytesI s) ∧ bytesI s ≠ [] ∧ (bytesI s).length ≤ 9 ∧ ((bytesI s).length = 1 ∨ (bytesI s).getD 0 0 ≠ 48) := by
  unfold refNum at h
  split at h
  · omega
  · rename_i hc
    have hd := rnGo_dig s s.size 0 0 (by omega) (.inr trivial) (Int.le_refl _) h
    have e0 := strAt_bytes s 0
    simp only [Int.natCast_zero] at e0
    refine ⟨fun x hx => ?_, fun hn => ?_, by rw [bytes_len]; omega, ?_⟩
    · obtain ⟨j, hj, rfl⟩ := List.mem_iff_getElem.1 hx
      have := hd j (by omega) (by rw [bytes_len] at hj; exact hj)
      rw [strAt_bytes, List.getD_eq_getElem?_getD, List.getElem?_eq_getElem hj] at this
      exact this
    · have := bytes_len s
      rw [hn] at this
      simp only [List.length_nil] at this
      omega
    · rw [bytes_len, ← e0]
      by_cases q : s.size = 1
      · exact .inl q
      · right; intro q'; exact hc (.inr (.inr ⟨q', by omega⟩))

/-- What dec prints of a number is read as that number. -/
theorem dec_read {n : Int} (h0 : 0 ≤ n) (h1 : n ≤ 999999999) : numB (decB n) = (n, true) := by
  have key : ∀ l, Dig l → l ≠ [] → l.length ≤ 9 → (l.length = 1 ∨ l.getD 0 0 ≠ 48) → val l = n → numB (decB n) = (n, true) := by
    intro l a b c d e
    have hdec : decB n = strOfNums l := by
      unfold decB
      rw [← e, dec_digits 12 l _ (by omega) a b d]
      exact ByteArray.append_empty
    have hr := refNum_nums a b c d
    rw [hdec]
    rcases num_same (strOfNums l) with ⟨_, h⟩ | ⟨h, _⟩
    · rw [h, hr, e]
    · rw [hr, e] at h; omega
  by_cases hz : n = 0
  · exact key [48] (fun x hx => by simp at hx; omega) (by simp) (by simp) (.inl rfl) (by rw [hz]; rfl)
  · obtain ⟨l, a, b, c, d, e⟩ := digits_of 9 n (by omega) (by have q : (10 : Int) ^ 9 = 1000000000 := (by decide); rw [q]; omega)
    exact key l a b e (.inr c) d
/-- What is read as a number is what dec prints of it; noughts stand ahead of nothing. -/
theorem num_back {s : ByteArray} (h : (numB s).2 = true) : decB (numB s).1 = s ∧ 0 ≤ (numB s).1 ∧ (numB s).1 ≤ 999999999 ∧ (0 < (numB s).1 ∨ s = ⟨#[48]⟩) := by
  rcases num_same s with ⟨h0, e⟩ | ⟨_, e⟩
  · obtain ⟨a, b, c, d⟩ := refNum_dig h0
    have hv := refNum_nums a b c d
    rw [bytes_str] at hv
    rw [e]
    simp only
    rw [hv]
    refine ⟨?_, val_nonneg a, ?_, ?_⟩
    · unfold decB
      rw [dec_digits 12 (bytesI s) _ (by omega) a b d, bytes_str]
      exact ByteArray.append_empty
    · have : ∀ (l : List Int) (n : Int) (m : Nat), Dig l → 0 ≤ n → n < (10 : Int) ^ m → l.foldl (fun n c => n * 10 + c - 48) n < (10 : Int) ^ (m + l.length) := by
        intro l
        induction l with
        | nil => intro n m _ _ h; exact h
        | cons x l ih =>
          intro n m hd hn hm
          have hx := hd x (List.mem_cons_self ..)
          have := ih (n * 10 + x - 48) (m + 1) (fun y hy => hd y (List.mem_cons_of_mem _ hy)) (by omega) (by rw [Int.pow_succ]; omega)
          simp only [List.foldl_cons, List.length_cons]
          rw [show m + (l.length + 1) = m + 1 + l.length by omega]
          exact this
      have h9 := this (bytesI s) 0 0 a (Int.le_refl _) (by decide)
      have hp : (10 : Int) ^ (0 + (bytesI s).length) ≤ 1000000000 := by
        have : (bytesI s).length = 0 ∨ (bytesI s).length = 1 ∨ (bytesI s).length = 2 ∨ (bytesI s).length = 3 ∨ (bytesI s).length = 4 ∨ (bytesI s).length = 5 ∨ (bytesI s).length = 6 ∨ (bytesI s).length = 7 ∨ (bytesI s).length = 8 ∨ (bytesI s).length = 9 := by omega
        rcases this with q | q | q | q | q | q | q | q | q | q <;> rw [q] <;> decide
      unfold val
      omega
    · rcases d with d | d
      · obtain ⟨c0, hc0⟩ := List.length_eq_one_iff.1 d
        by_cases q : c0 = 48
        · right
          rw [← bytes_str s, hc0, q]
          rfl
        · left
          rw [hc0]
          have := a c0 (by rw [hc0]; simp)
          simp [val]; omega
      · exact .inl (val_pos a b d)
  · rw [e] at h; cases h
theorem num_range (s : ByteArray) : 0 ≤ (numB s).1 ∧ (numB s).1 ≤ 999999999 := by
  cases h : (numB s).2 with
  | true => have := num_back h; exact ⟨this.2.1, this.2.2.1⟩
  | false =>
    rcases num_same s with ⟨_, e⟩ | ⟨_, e⟩
    · rw [e] at h; cases h
    · rw [e]; simp
theorem num_no {s : ByteArray} (h : (numB s).2 = false) : (numB s).1 = 0 := by
  rcases num_same s with ⟨_, e⟩ | ⟨_, e⟩
  · rw [e] at h; cases h
  · rw [e]
theorem numbers_law (s : ByteArray) : (((numB s).2 == (decide ((0 : Int) < (numB s).1) || ((numB s).2 && (s.toList == (⟨#[48]⟩ : ByteArray).toList)))) && (!(numB s).2 || ((decB (numB s).1).toList == s.toList))) = true := by
  cases h : (numB s).2 with
  | false => rw [num_no h]; simp
  | true =>
    obtain ⟨h1, h2, h3, h4⟩ := num_back h
    rw [h1]
    rcases h4 with h4 | h4
    · simp [h4]
    · rw [← h4]; simp
end Go.Proofs.Ytbdgelipabndaaa
