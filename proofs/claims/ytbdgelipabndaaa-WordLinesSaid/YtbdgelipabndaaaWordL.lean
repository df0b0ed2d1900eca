/-
  Lines, rune by rune and byte by byte. Plain Lean.
-/
import Derived.Test.YtbdgelipabndaaaWordC
set_option linter.unusedSimpArgs false
set_option linter.unusedVariables false
namespace Go.Proofs.Ytbdgelipabndaaa
open Go.RowKit

theorem decF_nl (b0 b1 b2 b3 : Nat) (s1 s2 s3 : Prop) [Decidable s1] [Decidable s2] [Decidable s3] :
    ((decF b0 b1 b2 b3 s1 s2 s3).1 = 10 ↔ b0 = 10) ∧ (b0 = 10 → (decF b0 b1 b2 b3 s1 s2 s3).2 = 1) ∧ 1 ≤ (decF b0 b1 b2 b3 s1 s2 s3).2 ∧ (decF b0 b1 b2 b3 s1 s2 s3).2 ≤ 4 ∧
    (2 ≤ (decF b0 b1 b2 b3 s1 s2 s3).2 → b1 ≠ 10 ∧ s1) ∧ (3 ≤ (decF b0 b1 b2 b3 s1 s2 s3).2 → b2 ≠ 10 ∧ s2) ∧ (4 ≤ (decF b0 b1 b2 b3 s1 s2 s3).2 → b3 ≠ 10 ∧ s3) := by
  unfold decF
  split
  · exact ⟨Iff.rfl, fun _ => rfl, by omega, by omega, fun h => by omega, fun h => by omega, fun h => by omega⟩
  · split
    · rename_i h1 h2
      split
      · simp only; refine ⟨by omega, by omega, by omega, by omega, fun _ => ⟨by omega, h2.2.1⟩, by omega, by omega⟩
      · simp only; omega
    · split
      · rename_i h1 h2 h3
        split
        · rename_i h4
          simp only; refine ⟨by omega, by omega, by omega, by omega, fun _ => ⟨by omega, h3.1.2.1⟩, fun _ => ⟨by omega, h3.2.1⟩, by omega⟩
        · simp only; omega
      · split
        · rename_i h1 h2 h3 h4
          split
          · rename_i h5
            simp only; refine ⟨by omega, by omega, by omega, by omega, fun _ => ⟨by omega, h4.1.1.2.1⟩, fun _ => ⟨by omega, h4.1.2.1⟩, fun _ => ⟨by omega, h4.2.1⟩⟩
          · simp only; omega
        · simp only; omega

theorem lGo_skip {s : ByteArray} {i : Nat} {from_ : Int} (hi : i < s.size) (h : StrAt s i ≠ 10) : lGo s (s.size - i) i from_ = lGo s (s.size - (i + 1)) (i + 1) from_ := by
  rw [show s.size - i = (s.size - (i + 1)) + 1 by omega]
  simp only [lGo]
  rw [if_neg h]
theorem strAt_nat (s : ByteArray) (i : Nat) : StrAt s (i : Int) = ((s.get! i).toNat : Int) := strAt_get s i 0
/-- A rune that is no line's end. -/
theorem lGo_rune {s : ByteArray} {pos : Nat} {from_ : Int} (hp : pos < s.size) (h : ¬ ((Utf8.decode s pos).1 : Int) = 10) :
    lGo s (s.size - pos) pos from_ = lGo s (s.size - (pos + (Utf8.decode s pos).2)) (pos + (Utf8.decode s pos).2) from_ ∧ pos + (Utf8.decode s pos).2 ≤ s.size := by
  rw [decode_eq s pos] at h ⊢
  obtain ⟨h1, _, h3, h4, h5, h6, h7⟩ := decF_nl (s.get! (pos + 0)).toNat (s.get! (pos + 1)).toNat (s.get! (pos + 2)).toNat (s.get! (pos + 3)).toNat (pos + 1 < s.size) (pos + 2 < s.size) (pos + 3 < s.size)
  generalize decF (s.get! (pos + 0)).toNat (s.get! (pos + 1)).toNat (s.get! (pos + 2)).toNat (s.get! (pos + 3)).toNat (pos + 1 < s.size) (pos + 2 < s.size) (pos + 3 < s.size) = d at h h1 h3 h4 h5 h6 h7 ⊢
  obtain ⟨r, k⟩ := d
  simp only at h h1 h3 h4 h5 h6 h7 ⊢
  have b0 : StrAt s (pos : Int) ≠ 10 := by rw [strAt_nat]; intro e; apply h; rw [h1.2 (by rw [Nat.add_zero]; omega)]; rfl
  have e0 := lGo_skip (from_ := from_) hp b0
  rcases (show k = 1 ∨ k = 2 ∨ k = 3 ∨ k = 4 by omega) with rfl | rfl | rfl | rfl
  · exact ⟨e0, hp⟩
  · obtain ⟨c1, d1⟩ := h5 (by omega)
    have e1 := lGo_skip (from_ := from_) d1 (by rw [strAt_nat]; omega)
    exact ⟨e0.trans e1, d1⟩
  · obtain ⟨c1, d1⟩ := h5 (by omega)
    obtain ⟨c2, d2⟩ := h6 (by omega)
    have e1 := lGo_skip (from_ := from_) d1 (by rw [strAt_nat]; omega)
    have e2 := lGo_skip (from_ := from_) d2 (by rw [strAt_nat]; omega)
    exact ⟨(e0.trans e1).trans e2, d2⟩
  · obtain ⟨c1, d1⟩ := h5 (by omega)
    obtain ⟨c2, d2⟩ := h6 (by omega)
    obtain ⟨c3, d3⟩ := h7 (by omega)
    have e1 := lGo_skip (from_ := from_) d1 (by rw [strAt_nat]; omega)
    have e2 := lGo_skip (from_ := from_) d2 (by rw [strAt_nat]; omega)
    have e3 := lGo_skip (from_ := from_) d3 (by rw [strAt_nat]; omega)
    exact ⟨((e0.trans e1).trans e2).trans e3, d3⟩
/-- A line's end. -/
theorem lGo_nl {s : ByteArray} {pos : Nat} {from_ : Int} (hp : pos < s.size) (h : ((Utf8.decode s pos).1 : Int) = 10) :
    lGo s (s.size - pos) pos from_ = (from_, (pos : Int)) :: lGo s (s.size - (pos + (Utf8.decode s pos).2)) (pos + (Utf8.decode s pos).2) ((pos : Int) + 1) ∧ (Utf8.decode s pos).2 = 1 := by
  rw [decode_eq s pos] at h ⊢
  obtain ⟨h1, h2, _⟩ := decF_nl (s.get! (pos + 0)).toNat (s.get! (pos + 1)).toNat (s.get! (pos + 2)).toNat (s.get! (pos + 3)).toNat (pos + 1 < s.size) (pos + 2 < s.size) (pos + 3 < s.size)
  have hb := h1.1 (by omega)
  rw [h2 hb]
  refine ⟨?_, rfl⟩
  rw [show s.size - pos = (s.size - (pos + 1)) + 1 by omega]
  simp only [lGo]
  rw [if_pos (by rw [strAt_nat]; rw [Nat.add_zero] at hb; omega)]

/-- A line: where it begins, its text. -/
def lineOf (s : ByteArray) (c : Int × Int) : Int × ByteArray := (c.1, s.extract c.1.toNat c.2.toNat)
def linesS (s : ByteArray) : List (Int × ByteArray) := (linesR s).map (lineOf s)
def preS (s : ByteArray) (pre : List (Int × ByteArray)) : Prop := ∃ rest, pre ++ rest = linesS s

theorem lGo_ok (s : ByteArray) : ∀ (f i : Nat) (from_ : Int), 0 ≤ from_ → from_ ≤ (i : Int) → i + f = s.size → ∀ c ∈ lGo s f i from_, 0 ≤ c.1 ∧ c.1 ≤ c.2 ∧ c.2 ≤ (s.size : Int)
  | 0, i, from_, h0, h1, h2, c, hc => by
    simp only [lGo] at hc
    split at hc
    · simp at hc; subst hc; simp only; omega
    · simp at hc
  | f + 1, i, from_, h0, h1, h2, c, hc => by
    simp only [lGo] at hc
    split at hc
    · rcases List.mem_cons.1 hc with rfl | hc
      · simp only; omega
      · exact lGo_ok s f (i + 1) _ (by omega) (by omega) (by omega) c hc
    · exact lGo_ok s f (i + 1) from_ h0 (by omega) (by omega) c hc
theorem linesR_ok {s : ByteArray} {i : Nat} (h : i < (linesR s).length) : 0 ≤ ((linesR s).getD i (0, 0)).1 ∧ ((linesR s).getD i (0, 0)).1 ≤ ((linesR s).getD i (0, 0)).2 ∧ ((linesR s).getD i (0, 0)).2 ≤ (s.size : Int) := by
  rw [List.getD_eq_getElem?_getD, List.getElem?_eq_getElem h]
  exact lGo_ok s s.size 0 0 (by omega) (by omega) (by omega) _ (List.getElem_mem h)
theorem linesS_len (s : ByteArray) : (linesS s).length = (linesR s).length := by simp [linesS]
theorem pre_more {s : ByteArray} {pre : List (Int × ByteArray)} {x : Int × ByteArray} (hp : preS s pre) : preS s (pre ++ [x]) ↔ pre.length < (linesR s).length ∧ x = lineOf s ((linesR s).getD pre.length (0, 0)) := by
  obtain ⟨rest, hr⟩ := hp
  have key : ∀ h : pre.length < (linesR s).length, (linesS s)[pre.length]'(by rw [linesS_len]; exact h) = lineOf s ((linesR s).getD pre.length (0, 0)) := fun h => by
    simp [linesS, List.getD_eq_getElem?_getD, List.getElem?_eq_getElem h]
  constructor
  · rintro ⟨r2, h2⟩
    have hlen : pre.length < (linesR s).length := by
      rw [← linesS_len, ← h2]; simp
    refine ⟨hlen, ?_⟩
    rw [← key hlen]
    have : (linesS s)[pre.length]? = some x := by rw [← h2]; simp
    rw [List.getElem?_eq_getElem (by rw [linesS_len]; exact hlen)] at this
    exact (Option.some.inj this).symm
  · rintro ⟨h, rfl⟩
    have : (linesS s)[pre.length]? = some (lineOf s ((linesR s).getD pre.length (0, 0))) := by rw [List.getElem?_eq_getElem (by rw [linesS_len]; exact h), key h]
    rw [← hr] at this
    rw [List.getElem?_append_right (Nat.le_refl _), Nat.sub_self] at this
    cases rest with
    | nil => simp at this
    | cons y rest =>
      simp at this
      subst this
      exact ⟨rest, by rw [← hr]; simp⟩
theorem pre_len {s : ByteArray} {pre : List (Int × ByteArray)} (hp : preS s pre) : pre.length ≤ (linesR s).length := by
  obtain ⟨rest, hr⟩ := hp
  rw [← linesS_len, ← hr]; simp
theorem lGo_len (s : ByteArray) : ∀ (f i : Nat) (from_ : Int), (lGo s f i from_).length ≤ f + 1
  | 0, i, from_ => by simp only [lGo]; split <;> simp
  | f + 1, i, from_ => by
    simp only [lGo]
    split
    · have := lGo_len s f (i + 1) ((i : Int) + 1); simp only [List.length_cons]; omega
    · have := lGo_len s f (i + 1) from_; omega
theorem linesR_len (s : ByteArray) : (linesR s).length ≤ s.size + 1 := lGo_len s s.size 0 0
theorem lines_ok {s x2 : ByteArray} {x1 : Int} {pre : List (Int × ByteArray)} (hp : preS s pre)
    (h : (¬ ((linesR s).length : Int) ≤ (pre.length : Int) ∧ x1 = ((linesR s).getD ((pre.length : Int)).toNat (0, 0)).1) ∧ x2 = s.extract (((linesR s).getD ((pre.length : Int)).toNat (0, 0)).1).toNat (((linesR s).getD ((pre.length : Int)).toNat (0, 0)).2).toNat) : preS s (pre ++ [(x1, x2)]) := by
  refine (pre_more hp).2 ⟨by omega, ?_⟩
  rw [h.1.2, h.2]
  rfl
theorem lines_bad {s x2 : ByteArray} {x1 : Int} {pre : List (Int × ByteArray)} (hp : preS s pre) (hq : preS s (pre ++ [(x1, x2)]))
    (h : (((linesR s).length : Int) ≤ (pre.length : Int) ∨ ¬ x1 = ((linesR s).getD ((pre.length : Int)).toNat (0, 0)).1) ∨ ¬ x2 = s.extract (((linesR s).getD ((pre.length : Int)).toNat (0, 0)).1).toNat (((linesR s).getD ((pre.length : Int)).toNat (0, 0)).2).toNat) : False := by
  obtain ⟨h1, h2⟩ := (pre_more hp).1 hq
  have e1 := congrArg Prod.fst h2
  have e2 := congrArg Prod.snd h2
  rcases h with (h | h) | h
  · omega
  · exact h e1
  · exact h e2
end Go.Proofs.Ytbdgelipabndaaa
