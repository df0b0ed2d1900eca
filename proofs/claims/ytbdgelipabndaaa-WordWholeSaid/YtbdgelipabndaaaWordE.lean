/-
  The words of a line, as the program finds them, are the document's. Plain Lean.
-/
import Derived.Test.YtbdgelipabndaaaWordC
set_option linter.unusedSimpArgs false
set_option linter.unusedVariables false
namespace Go.Proofs.Ytbdgelipabndaaa
open Go.RowKit

theorem decF_low {b0 b1 b2 b3 : Nat} {s1 s2 s3 : Prop} [Decidable s1] [Decidable s2] [Decidable s3] (h : b0 < 128) : decF b0 b1 b2 b3 s1 s2 s3 = (b0, 1) := if_pos h
theorem decF_high {b0 b1 b2 b3 : Nat} {s1 s2 s3 : Prop} [Decidable s1] [Decidable s2] [Decidable s3] (h : ¬ b0 < 128) :
    128 ≤ (decF b0 b1 b2 b3 s1 s2 s3).1 ∧ (1 < (decF b0 b1 b2 b3 s1 s2 s3).2 → 128 ≤ b1) ∧ (2 < (decF b0 b1 b2 b3 s1 s2 s3).2 → 128 ≤ b2) ∧ (3 < (decF b0 b1 b2 b3 s1 s2 s3).2 → 128 ≤ b3) ∧ (decF b0 b1 b2 b3 s1 s2 s3).2 ≤ 4 ∧ (1 < (decF b0 b1 b2 b3 s1 s2 s3).2 → s1) ∧ (2 < (decF b0 b1 b2 b3 s1 s2 s3).2 → s2) ∧ (3 < (decF b0 b1 b2 b3 s1 s2 s3).2 → s3) := by
  unfold decF
  rw [if_neg h]
  (repeat' split) <;> (refine ⟨?_, ?_, ?_, ?_, ?_, ?_, ?_, ?_⟩ <;> (try dsimp only) <;> first | omega | (intro _; simp_all; done))

theorem rune_low {s : ByteArray} {pos : Nat} (h : StrAt s pos < 128) : Utf8.decode s pos = ((StrAt s pos).toNat, 1) := by
  have e0 := strAt_get s pos 0
  simp only [Int.natCast_zero, Int.add_zero] at e0
  rw [decode_eq, decF_low (by omega), e0]
  rfl
theorem rune_high {s : ByteArray} {pos : Nat} (h : ¬ StrAt s pos < 128) : 128 ≤ (Utf8.decode s pos).1 ∧ ∀ k : Nat, 0 < k → k < (Utf8.decode s pos).2 → 128 ≤ StrAt s ((pos + k : Nat) : Int) := by
  have e0 := strAt_get s pos 0
  have e1 := strAt_get s pos 1
  have e2 := strAt_get s pos 2
  have e3 := strAt_get s pos 3
  simp only [Int.natCast_zero, Int.add_zero] at e0
  have hd := decF_high (b0 := (s.get! (pos + 0)).toNat) (b1 := (s.get! (pos + 1)).toNat) (b2 := (s.get! (pos + 2)).toNat) (b3 := (s.get! (pos + 3)).toNat) (s1 := pos + 1 < s.size) (s2 := pos + 2 < s.size) (s3 := pos + 3 < s.size) (by omega)
  rw [← decode_eq] at hd
  obtain ⟨h1, h2, h3, h4, h5, _⟩ := hd
  refine ⟨h1, fun k k0 k1 => ?_⟩
  have : k = 1 ∨ k = 2 ∨ k = 3 := by omega
  rw [Int.natCast_add]
  rcases this with rfl | rfl | rfl
  · have := h2 k1; omega
  · have := h3 k1; omega
  · have := h4 k1; omega

theorem rune_fits {s : ByteArray} {pos : Nat} (h : pos < s.size) : pos + (Utf8.decode s pos).2 ≤ s.size := by
  by_cases hl : StrAt s pos < 128
  · rw [rune_low hl]; exact h
  · have e0 := strAt_get s pos 0
    simp only [Int.natCast_zero, Int.add_zero] at e0
    have hd := decF_high (b0 := (s.get! (pos + 0)).toNat) (b1 := (s.get! (pos + 1)).toNat) (b2 := (s.get! (pos + 2)).toNat) (b3 := (s.get! (pos + 3)).toNat) (s1 := pos + 1 < s.size) (s2 := pos + 2 < s.size) (s3 := pos + 3 < s.size) (by omega)
    rw [← decode_eq] at hd
    obtain ⟨_, _, _, _, h5, h6, h7, h8⟩ := hd
    omega

theorem cls_4 (r : Int) : cls r = 4 ↔ r = 32 := by
  unfold cls letP
  (repeat' split) <;> omega
theorem rune_blank {s : ByteArray} {pos : Nat} : cls ((Utf8.decode s pos).1 : Int) = 4 ↔ StrAt s pos = 32 := by
  rw [cls_4]
  have hb := strAt_byte s pos
  by_cases h : StrAt s pos < 128
  · rw [rune_low h]; simp only; omega
  · have := (rune_high h).1; omega
/-- No byte of a rune is a blank, if its class is not. -/
theorem rune_bytes {s : ByteArray} {pos : Nat} (h : StrAt s pos ≠ 32) (k : Nat) (hk : k < (Utf8.decode s pos).2) : StrAt s ((pos + k : Nat) : Int) ≠ 32 := by
  by_cases k0 : k = 0
  · subst k0; exact h
  · by_cases hl : StrAt s pos < 128
    · rw [rune_low hl] at hk; simp only at hk; omega
    · have := (rune_high hl).2 k (by omega) hk; omega

theorem wGo_skip (s : ByteArray) : ∀ (n pos : Nat), 0 < pos → StrAt s ((pos : Int) - 1) ≠ 32 → (∀ k, k < n → StrAt s ((pos + k : Nat) : Int) ≠ 32) → pos + n ≤ s.size → wGo s (s.size - pos) pos = wGo s (s.size - (pos + n)) (pos + n)
  | 0, pos, _, _, _, _ => rfl
  | n + 1, pos, h0, hp, hk, hs => by
    rw [show s.size - pos = (s.size - (pos + 1)) + 1 from by omega]
    simp only [wGo]
    rw [if_pos (.inr ⟨h0, hp⟩)]
    have ih := wGo_skip s n (pos + 1) (by omega) (by rw [show ((pos + 1 : Nat) : Int) - 1 = ((pos + 0 : Nat) : Int) from by omega]; exact hk 0 (by omega)) (fun k h => by rw [show pos + 1 + k = pos + (k + 1) from by omega]; exact hk (k + 1) (by omega)) (by omega)
    rw [ih, show pos + 1 + n = pos + (n + 1) from by omega]
theorem wEnd_skip (s : ByteArray) : ∀ (n pos : Nat), (∀ k, k < n → StrAt s ((pos + k : Nat) : Int) ≠ 32) → pos + n ≤ s.size → wEnd s (s.size - pos) pos = wEnd s (s.size - (pos + n)) (pos + n)
  | 0, pos, _, _ => rfl
  | n + 1, pos, hk, hs => by
    rw [show s.size - pos = (s.size - (pos + 1)) + 1 from by omega]
    simp only [wEnd]
    rw [if_neg (by simpa using hk 0 (by omega))]
    rw [wEnd_skip s n (pos + 1) (fun k h => by rw [show pos + 1 + k = pos + (k + 1) from by omega]; exact hk (k + 1) (by omega)) (by omega), show pos + 1 + n = pos + (n + 1) from by omega]

def mkW (s : ByteArray) (c : Int × Int) : Int × ByteArray := (c.1, s.extract c.1.toNat c.2.toNat)

theorem sp_words (s : ByteArray) : ∀ (f pos : Nat), s.size - pos ≤ f → pos ≤ s.size → ∀ l,
    ((pos = 0 ∨ StrAt s ((pos : Int) - 1) = 32) → spGo s (runes s pos) (-1) l = l ++ (wGo s (s.size - pos) pos).map (mkW s)) ∧
    (∀ b : Nat, b < pos → StrAt s ((pos : Int) - 1) ≠ 32 → spGo s (runes s pos) (b : Int) l = l ++ mkW s ((b : Int), (wEnd s (s.size - pos) pos : Int)) :: (wGo s (s.size - pos) pos).map (mkW s)) := by
  intro f
  induction f with
  | zero =>
    intro pos h1 h2 l
    have e : pos = s.size := by omega
    rw [runes_nil s pos (by omega), show s.size - pos = 0 from by omega]
    refine ⟨fun _ => ?_, fun b hb _ => ?_⟩
    · simp [spGo, wGo]
    · simp only [spGo, wGo, wEnd, mkW, List.map_nil]; rw [if_pos (by omega)]; simp [e]
  | succ f ih =>
    intro pos h1 h2 l
    by_cases e : pos = s.size
    · rw [runes_nil s pos (by omega), show s.size - pos = 0 from by omega]
      refine ⟨fun _ => ?_, fun b hb _ => ?_⟩
      · simp [spGo, wGo]
      · simp only [spGo, wGo, wEnd, mkW, List.map_nil]; rw [if_pos (by omega)]; simp [e]
    · have hp : pos < s.size := by omega
      have hw := width_pos s pos hp
      have hfit := rune_fits hp
      rw [runes_cons s pos hp]
      simp only [spGo]
      by_cases hb : StrAt s pos = 32
      · have hwd : (Utf8.decode s pos).2 = 1 := by rw [rune_low (by omega)]
        have e1 : s.size - pos = (s.size - (pos + 1)) + 1 := by omega
        have hprev : (pos + 1 = 0 ∨ StrAt s (((pos + 1 : Nat) : Int) - 1) = 32) := by right; rw [show ((pos + 1 : Nat) : Int) - 1 = (pos : Int) from by omega]; exact hb
        have hcb := rune_blank.2 hb
        refine ⟨fun _ => ?_, fun b hb' hn => ?_⟩
        · rw [if_pos hcb, if_neg (by omega), hwd, (ih (pos + 1) (by omega) (by omega) l).1 hprev, e1]
          simp only [wGo]
          rw [if_pos (.inl hb)]
        · rw [if_pos hcb, if_pos (by omega), hwd, (ih (pos + 1) (by omega) (by omega) _).1 hprev, e1]
          simp only [wGo, wEnd]
          rw [if_pos hb, if_pos (Or.inl hb), List.append_assoc]
          rfl
      · have hbytes := fun k hk => rune_bytes hb k hk
        have hcb : ¬ cls ((Utf8.decode s pos).1 : Int) = 4 := fun h => hb (rune_blank.1 h)
        have hlast : StrAt s (((pos + (Utf8.decode s pos).2 : Nat) : Int) - 1) ≠ 32 := by
          rw [show ((pos + (Utf8.decode s pos).2 : Nat) : Int) - 1 = ((pos + ((Utf8.decode s pos).2 - 1) : Nat) : Int) from by omega]
          exact hbytes _ (by omega)
        have hend := wEnd_skip s (Utf8.decode s pos).2 pos hbytes (by omega)
        refine ⟨fun hpr => ?_, fun b hb' hn => ?_⟩
        · rw [if_neg hcb, if_pos (by omega), (ih (pos + (Utf8.decode s pos).2) (by omega) (by omega) l).2 pos (by omega) hlast]
          have e1 : s.size - pos = (s.size - (pos + 1)) + 1 := by omega
          have hgo : wGo s (s.size - pos) pos = ((pos : Int), (wEnd s (s.size - pos) pos : Int)) :: wGo s (s.size - (pos + 1)) (pos + 1) := by
            rw [e1]; simp only [wGo]; rw [if_neg (by rintro (h | ⟨h, h'⟩); exact hb h; rcases hpr with q | q; omega; exact h' q), ← e1]
          have hsk := wGo_skip s ((Utf8.decode s pos).2 - 1) (pos + 1) (by omega) (by rw [show ((pos + 1 : Nat) : Int) - 1 = (pos : Int) from by omega]; exact hb) (fun k hk => by rw [show pos + 1 + k = pos + (k + 1) from by omega]; exact hbytes (k + 1) (by omega)) (by omega)
          rw [hgo, hsk, hend, show pos + 1 + ((Utf8.decode s pos).2 - 1) = pos + (Utf8.decode s pos).2 from by omega]
          rfl
        · rw [if_neg hcb, if_neg (by omega), (ih (pos + (Utf8.decode s pos).2) (by omega) (by omega) l).2 b (by omega) hlast, hend, wGo_skip s (Utf8.decode s pos).2 pos (by omega) hn hbytes (by omega)]

theorem words_eq (s : ByteArray) : wordsB s = (wordsR s).map (mkW s) := by
  have := (sp_words s s.size 0 (by omega) (by omega) []).1 (.inl rfl)
  simpa [wordsB, wordsR] using this

theorem wEnd_bound (s : ByteArray) : ∀ (f k : Nat), k ≤ wEnd s f k ∧ wEnd s f k ≤ k + f
  | 0, k => by simp [wEnd]
  | f + 1, k => by
    unfold wEnd
    split
    · omega
    · have := wEnd_bound s f (k + 1); omega
theorem wGo_mem (s : ByteArray) : ∀ (f i : Nat) (c : Int × Int), c ∈ wGo s f i → (i : Int) ≤ c.1 ∧ c.1 ≤ c.2 ∧ c.2 ≤ ((i + f : Nat) : Int)
  | 0, i, c, h => by simp [wGo] at h
  | f + 1, i, c, h => by
    unfold wGo at h
    split at h
    · have := wGo_mem s f (i + 1) c h; omega
    · rcases List.mem_cons.1 h with rfl | h
      · have := wEnd_bound s (f + 1) i
        simp only; omega
      · have := wGo_mem s f (i + 1) c h; omega
theorem wGo_len (s : ByteArray) : ∀ (f i : Nat), (wGo s f i).length ≤ f
  | 0, i => by simp [wGo]
  | f + 1, i => by
    unfold wGo
    have := wGo_len s f (i + 1)
    split
    · omega
    · simp only [List.length_cons]; omega
theorem words_len (s : ByteArray) : (wordsB s).length = (wordsR s).length ∧ (wordsR s).length ≤ s.size := by
  rw [words_eq, List.length_map]
  exact ⟨rfl, wGo_len s _ _⟩
theorem words_at (s : ByteArray) {i : Int} (h0 : 0 ≤ i) (h1 : i < ((wordsB s).length : Int)) :
    ((wordsB s).getD i.toNat (0, ⟨#[]⟩)).1 = ((wordsR s).getD i.toNat (0, 0)).1 ∧ ((wordsB s).getD i.toNat (0, ⟨#[]⟩)).2 = s.extract ((wordsR s).getD i.toNat (0, 0)).1.toNat ((wordsR s).getD i.toNat (0, 0)).2.toNat ∧
    0 ≤ ((wordsR s).getD i.toNat (0, 0)).1 ∧ ((wordsR s).getD i.toNat (0, 0)).1 ≤ ((wordsR s).getD i.toNat (0, 0)).2 ∧ ((wordsR s).getD i.toNat (0, 0)).2 ≤ (s.size : Int) := by
  have hi : i.toNat < (wordsR s).length := by have := words_len s; omega
  have e : (wordsR s).getD i.toNat (0, 0) = (wordsR s)[i.toNat] := by rw [List.getD_eq_getElem?_getD, List.getElem?_eq_getElem hi]; rfl
  have e2 : (wordsB s).getD i.toNat (0, ⟨#[]⟩) = mkW s (wordsR s)[i.toNat] := by
    rw [words_eq, List.getD_eq_getElem?_getD, List.getElem?_map, List.getElem?_eq_getElem hi]; rfl
  have hm := wGo_mem s s.size 0 _ (List.getElem_mem hi)
  rw [e, e2]
  exact ⟨rfl, rfl, by omega, by omega, by omega⟩
end Go.Proofs.Ytbdgelipabndaaa
