/-
  The words of a line, with the blanks between them, are the line. Plain Lean.
-/
import Derived.Test.YtbdgelipabndaaaWordF
set_option linter.unusedSimpArgs false
set_option linter.unusedVariables false
namespace Go.Proofs.Ytbdgelipabndaaa
open Go.RowKit

def Cov (s : ByteArray) : List (Int × Int) → Int → Prop → Prop
  | [], p, _ => ∀ k : Int, p ≤ k → k < (s.size : Int) → StrAt s k = 32
  | c :: r, p, behind => p ≤ c.1 ∧ (behind → c.1 ≠ p) ∧ c.1 < c.2 ∧ c.2 ≤ (s.size : Int) ∧ (∀ k : Int, p ≤ k → k < c.1 → StrAt s k = 32) ∧ (∀ k : Int, c.1 ≤ k → k < c.2 → StrAt s k ≠ 32) ∧ Cov s r c.2 True

theorem wEnd_spec (s : ByteArray) : ∀ (f k : Nat), k + f = s.size → (∀ j : Nat, k ≤ j → j < wEnd s f k → StrAt s j ≠ 32) ∧ (wEnd s f k < s.size → StrAt s (wEnd s f k : Nat) = 32)
  | 0, k, h => by
    simp only [wEnd]
    exact ⟨fun j h1 h2 => by omega, fun h' => by omega⟩
  | f + 1, k, h => by
    unfold wEnd
    split
    · rename_i hb; exact ⟨fun j h1 h2 => by omega, fun _ => hb⟩
    · rename_i hb
      have ih := wEnd_spec s f (k + 1) (by omega)
      refine ⟨fun j h1 h2 => ?_, ih.2⟩
      by_cases e : j = k
      · rw [e]; exact hb
      · exact ih.1 j (by omega) h2

theorem cov_go (s : ByteArray) : ∀ (f i : Nat) (p : Int) (b : Prop), s.size - i ≤ f → i ≤ s.size → 0 ≤ p → p ≤ (i : Int) → (i = 0 ∨ StrAt s ((i : Int) - 1) = 32) → (∀ k : Int, p ≤ k → k < (i : Int) → StrAt s k = 32) → (b → p < (i : Int)) → Cov s (wGo s (s.size - i) i) p b := by
  intro f
  induction f with
  | zero =>
    intro i p b h1 h2 h0 h3 h4 h5 h6
    rw [show s.size - i = 0 by omega]
    simp only [wGo, Cov]
    exact fun k a c => h5 k a (by omega)
  | succ f ih =>
    intro i p b h1 h2 h0 h3 h4 h5 h6
    by_cases e : i = s.size
    · rw [show s.size - i = 0 by omega]
      simp only [wGo, Cov]
      exact fun k a c => h5 k a (by omega)
    · have hnext : ∀ (j : Nat) (q : Int) (c : Prop), i ≤ j → j < s.size → StrAt s j = 32 → 0 ≤ q → q ≤ (j : Int) → (∀ k : Int, q ≤ k → k < (j : Int) → StrAt s k = 32) → Cov s (wGo s (s.size - (j + 1)) (j + 1)) q c := by
        intro j q c hij hj hb hq0 hq hall
        refine ih (j + 1) q c (by omega) (by omega) hq0 (by omega) (.inr ?_) (fun k a d => ?_) (fun _ => by omega)
        · rw [show ((j + 1 : Nat) : Int) - 1 = (j : Int) by omega]; exact hb
        · by_cases ek : k = (j : Int)
          · rw [ek]; exact hb
          · exact hall k a (by omega)
      by_cases hb : StrAt s i = 32
      · rw [show s.size - i = (s.size - (i + 1)) + 1 by omega]
        simp only [wGo]
        rw [if_pos (.inl hb)]
        exact hnext i p b (Nat.le_refl _) (by omega) hb h0 h3 h5
      · have e1 : s.size - i = (s.size - (i + 1)) + 1 := by omega
        have hgo : wGo s (s.size - i) i = ((i : Int), (wEnd s (s.size - i) i : Int)) :: wGo s (s.size - (i + 1)) (i + 1) := by
          rw [e1]; simp only [wGo]; rw [if_neg (by rintro (h | ⟨h, h'⟩); exact hb h; rcases h4 with q | q; omega; exact h' q), ← e1]
        have hsp := wEnd_spec s (s.size - i) i (by omega)
        have hbd := wEnd_bound s (s.size - i) i
        have hlt : i < wEnd s (s.size - i) i := by
          rw [e1]; unfold wEnd; rw [if_neg hb]
          have := (wEnd_bound s (s.size - (i + 1)) (i + 1)).1; omega
        rw [hgo]
        generalize wEnd s (s.size - i) i = en at *
        have hsk : wGo s (s.size - (i + 1)) (i + 1) = wGo s (s.size - en) en := by
          have := wGo_skip s (en - (i + 1)) (i + 1) (by omega) (by rw [show ((i + 1 : Nat) : Int) - 1 = (i : Int) by omega]; exact hb) (fun k hk => hsp.1 _ (by omega) (by omega)) (by omega)
          rw [show i + 1 + (en - (i + 1)) = en by omega] at this
          exact this
        refine ⟨h3, fun hb' => by have := h6 hb'; simp only; omega, by simp only; omega, by simp only; omega, h5, fun k a c => ?_, ?_⟩
        · simp only at a c
          have := hsp.1 k.toNat (by omega) (by omega)
          rw [show ((k.toNat : Nat) : Int) = k by omega] at this
          exact this
        · rw [hsk]
          by_cases ee : en = s.size
          · rw [show s.size - en = 0 by omega]
            simp only [wGo, Cov]
            exact fun k a c => by omega
          · rw [show s.size - en = (s.size - (en + 1)) + 1 by omega]
            simp only [wGo]
            have hbl := hsp.2 (by omega)
            rw [if_pos (.inl hbl)]
            exact hnext en (en : Int) True (by omega) (by omega) hbl (by omega) (Int.le_refl _) (fun k a c => by omega)

theorem cov_all (s : ByteArray) : Cov s (wordsR s) 0 False := cov_go s s.size 0 0 False (by omega) (by omega) (Int.le_refl _) (Int.le_refl _) (.inl rfl) (fun k a c => by omega) (fun h => h.elim)

def CovAt (s : ByteArray) (i p : Int) : Prop := Cov s ((wordsR s).drop i.toNat) p (0 < i)
theorem cov_0 (s : ByteArray) : CovAt s 0 0 := by
  have h := cov_all s
  unfold CovAt
  rw [show (0 < (0 : Int)) = False by simp]
  exact h
theorem strAt_extract {s : ByteArray} {f t : Int} (h0 : 0 ≤ f) (h1 : f ≤ t) (h2 : t ≤ (s.size : Int)) {k : Int} (k0 : 0 ≤ k) (k1 : k < t - f) : StrAt (s.extract f.toNat t.toNat) k = StrAt s (f + k) := by
  unfold StrAt
  have hs : s.data.size = s.size := rfl
  rw [ByteArray.data_extract, Array.getD_eq_getD_getElem?, Array.getD_eq_getD_getElem?, Array.getElem?_extract, if_pos (by omega), show f.toNat + k.toNat = (f + k).toNat by omega]
theorem cov_end {s : ByteArray} {i p : Int} (h : CovAt s i p) (hi : ¬ i < ((wordsB s).length : Int)) {k : Int} (h1 : p ≤ k) (h2 : k < (s.size : Int)) : StrAt s k = 32 := by
  unfold CovAt at h
  have hl := words_len s
  rw [List.drop_eq_nil_of_le (by omega)] at h
  exact h k h1 h2
theorem cov_step {s : ByteArray} {i p : Int} (hi : 0 ≤ i) (hl : i < ((wordsB s).length : Int)) (hp : 0 ≤ p) (h : CovAt s i p) :
    p ≤ ((wordsB s).getD i.toNat (0, ⟨#[]⟩)).1 ∧ (0 < i → ((wordsB s).getD i.toNat (0, ⟨#[]⟩)).1 ≠ p) ∧ 0 < (((wordsB s).getD i.toNat (0, ⟨#[]⟩)).2.size : Int) ∧
    ((wordsB s).getD i.toNat (0, ⟨#[]⟩)).1 + (((wordsB s).getD i.toNat (0, ⟨#[]⟩)).2.size : Int) ≤ (s.size : Int) ∧
    s.extract (((wordsB s).getD i.toNat (0, ⟨#[]⟩)).1).toNat (((wordsB s).getD i.toNat (0, ⟨#[]⟩)).1 + (((wordsB s).getD i.toNat (0, ⟨#[]⟩)).2.size : Int)).toNat = ((wordsB s).getD i.toNat (0, ⟨#[]⟩)).2 ∧
    (∀ k : Int, p ≤ k → k < ((wordsB s).getD i.toNat (0, ⟨#[]⟩)).1 → StrAt s k = 32) ∧
    (∀ k : Int, 0 ≤ k → k < (((wordsB s).getD i.toNat (0, ⟨#[]⟩)).2.size : Int) → StrAt ((wordsB s).getD i.toNat (0, ⟨#[]⟩)).2 k ≠ 32) ∧
    CovAt s (i + 1) (((wordsB s).getD i.toNat (0, ⟨#[]⟩)).1 + (((wordsB s).getD i.toNat (0, ⟨#[]⟩)).2.size : Int)) := by
  have hlen := words_len s
  have hlt : i.toNat < (wordsR s).length := by omega
  unfold CovAt at h
  rw [List.drop_eq_getElem_cons hlt] at h
  have e2 : (wordsB s).getD i.toNat (0, ⟨#[]⟩) = mkW s (wordsR s)[i.toNat] := by
    rw [words_eq, List.getD_eq_getElem?_getD, List.getElem?_map, List.getElem?_eq_getElem hlt]; rfl
  rw [e2]
  unfold CovAt
  rw [show (i + 1).toNat = i.toNat + 1 by omega, show (0 < i + 1) = True by simp; omega]
  generalize (wordsR s)[i.toNat] = c at *
  obtain ⟨h1, h2, h3, h4, h5, h6, h7⟩ := h
  have hsz : ((s.extract c.1.toNat c.2.toNat).size : Int) = c.2 - c.1 := by rw [ByteArray.size_extract]; omega
  simp only [mkW]
  rw [hsz]
  refine ⟨h1, h2, by omega, by omega, by rw [show c.1 + (c.2 - c.1) = c.2 by omega], h5, fun k k0 k1 => ?_, by rw [show c.1 + (c.2 - c.1) = c.2 by omega]; exact h7⟩
  rw [strAt_extract (by omega) (by omega) h4 k0 (by omega)]
  exact h6 _ (by omega) (by omega)
end Go.Proofs.Ytbdgelipabndaaa
