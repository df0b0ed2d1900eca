/-
  What the reference's functions of layer 1 compute. Plain Lean.
-/
import Derived.Test.YtbdgelipabndaaaWordB
import Derived.Test.YtbdgelipabndaaaEngF
set_option linter.unusedSimpArgs false
set_option linter.unusedVariables false
namespace Go.Proofs.Ytbdgelipabndaaa
open Go.RowKit

set_option maxRecDepth 100000 in
theorem rRune_w (s : ByteArray) (a : Int) : 1 ≤ (rRune s a).2 ∧ (rRune s a).2 ≤ 4 := by
  unfold rRune
  split
  · simp
  · split
    · simp
    · rename_i n c l h
      obtain ⟨h1, h2, _⟩ := rLead_some h (strAt_byte s a).2
      split
      · simp
      · unfold rFin
        split
        · simp
        · split
          · simp
          · simp only; omega

/-- The class that the reference gives a rune of a text; 9: no text. -/
def rcl (s : ByteArray) (p : Nat × Int) : Int := if (rRune s p.1).1 < 0 then 9 else cls (rRune s p.1).1
def classesR (s : ByteArray) : List Int := (runes s 0).map (rcl s)

theorem rcl_neg {s : ByteArray} {p : Nat} {r : Int} (h : (rRune s p).1 < 0) : rcl s (p, r) = 9 := if_pos h
theorem rcl_pos {s : ByteArray} {p : Nat} {r : Int} (h : ¬ (rRune s p).1 < 0) : rcl s (p, r) = cls (rRune s p).1 := if_neg h
theorem runes_len (s : ByteArray) : ∀ (f pos : Nat), (runesF s f pos).length ≤ f
  | 0, _ => by simp [runesF]
  | f + 1, pos => by
    unfold runesF
    split
    · simp only [List.length_cons]; have := runes_len s f (pos + (Utf8.decode s pos).2); omega
    · simp
theorem classesR_len (s : ByteArray) : (classesR s).length ≤ s.size := by
  unfold classesR runes; rw [List.length_map]; exact Nat.le_trans (runes_len s _ _) (by omega)

def stripN (l : List Int) : Nat → Nat
  | 0 => 0
  | n + 1 => if l.getD n 0 = 3 then stripN l n else n + 1
def okN (l : List Int) (n : Nat) : Prop := ∀ j, j < n → (l.getD j 0 = 1 ∨ l.getD j 0 = 2)
instance (l : List Int) (n : Nat) : Decidable (okN l n) := by unfold okN; infer_instance
def refNameL (l : List Int) : Bool :=
  if l.length < 1 ∨ 16 < l.length ∨ l.getD 0 0 ≠ 1 then false
  else if 3 < l.length - stripN l l.length then false else decide (okN l (stripN l l.length))

theorem stripN_le (l : List Int) : ∀ n, stripN l n ≤ n
  | 0 => Nat.le_refl _
  | n + 1 => by unfold stripN; split; exact Nat.le_succ_of_le (stripN_le l n); exact Nat.le_refl _

theorem strip_step {l : List Int} {n : Int} (h0 : 0 < n) (h : l.getD (n - 1).toNat 0 = 3) : stripN l n.toNat = stripN l (n - 1).toNat := by
  obtain ⟨m, rfl⟩ : ∃ m : Nat, n = (m : Int) + 1 := ⟨(n - 1).toNat, by omega⟩
  rw [show ((m : Int) + 1 - 1).toNat = m by omega] at h ⊢
  rw [show ((m : Int) + 1).toNat = m + 1 by omega]
  rw [stripN, if_pos h]
theorem strip_stop {l : List Int} {n : Int} (h : ¬ 0 < n ∨ ¬ l.getD (n - 1).toNat 0 = 3) : stripN l n.toNat = n.toNat := by
  by_cases h0 : 0 < n
  · obtain ⟨m, rfl⟩ : ∃ m : Nat, n = (m : Int) + 1 := ⟨(n - 1).toNat, by omega⟩
    rw [show ((m : Int) + 1 - 1).toNat = m by omega] at h
    rw [show ((m : Int) + 1).toNat = m + 1 by omega, stripN, if_neg (h.resolve_left (fun q => q h0))]
  · rw [show n.toNat = 0 by omega]; rfl
theorem refName_a {l : List Int} (h : ((l.length : Int) < 1 ∨ 16 < (l.length : Int)) ∨ ¬ l.getD (0 : Int).toNat 0 = 1) : false = refNameL l := by
  unfold refNameL
  rw [if_pos]
  rcases h with (h | h) | h
  · exact .inl (by omega)
  · exact .inr (.inl (by omega))
  · exact .inr (.inr h)
theorem refName_b {l : List Int} {n : Int} (h : (¬ (l.length : Int) < 1 ∧ ¬ 16 < (l.length : Int)) ∧ l.getD (0 : Int).toNat 0 = 1) (hn : 0 ≤ n) (h1 : stripN l n.toNat = stripN l l.length) (h2 : stripN l n.toNat = n.toNat) :
    refNameL l = if 3 < (l.length : Int) - n then false else decide (okN l n.toNat) := by
  unfold refNameL
  have hl := stripN_le l l.length
  rw [if_neg (by rintro (q | q | q); omega; omega; exact q h.2), ← h1, h2]
  by_cases c : 3 < (l.length : Int) - n
  · rw [if_pos c, if_pos (by omega)]
  · rw [if_neg c, if_neg (by omega)]

def rnGo (s : ByteArray) : Nat → Nat → Int → Int
  | 0, _, n => n
  | f + 1, i, n => if StrAt s i < 48 ∨ 57 < StrAt s i then -1 else rnGo s f (i + 1) (n * 10 + StrAt s i - 48)
def refNum (s : ByteArray) : Int := if s.size < 1 ∨ 9 < s.size ∨ (StrAt s 0 = 48 ∧ 1 < s.size) then -1 else rnGo s s.size 0 0

def okText (r : Int) : Prop := ¬ (r < 0 ∨ r = 65533 ∨ (cls r = 0 ∧ r ≠ 10 ∧ (r < 43 ∨ 47 < r) ∧ r ≠ 58 ∧ r ≠ 124))
instance (r : Int) : Decidable (okText r) := by unfold okText; infer_instance
def brGo (s : ByteArray) : List (Nat × Int) → Int
  | [] => -1
  | (p, _) :: l => if okText (rRune s p).1 then brGo s l else (p : Int)
def refBad (s : ByteArray) : Int := brGo s (runes s 0)

/-- The end of a word that begins at k; f: so many bytes are left. -/
def wEnd (s : ByteArray) : Nat → Nat → Nat
  | 0, k => k
  | f + 1, k => if StrAt s k = 32 then k else wEnd s f (k + 1)
def wGo (s : ByteArray) : Nat → Nat → List (Int × Int)
  | 0, _ => []
  | f + 1, i => if StrAt s i = 32 ∨ (0 < i ∧ StrAt s ((i : Int) - 1) ≠ 32) then wGo s f (i + 1) else ((i : Int), (wEnd s (f + 1) i : Int)) :: wGo s f (i + 1)
def wordsR (s : ByteArray) : List (Int × Int) := wGo s s.size 0

def lGo (s : ByteArray) : Nat → Nat → Int → List (Int × Int)
  | 0, _, from_ => if from_ < (s.size : Int) then [(from_, (s.size : Int))] else []
  | f + 1, i, from_ => if StrAt s i = 10 then (from_, (i : Int)) :: lGo s f (i + 1) ((i : Int) + 1) else lGo s f (i + 1) from_
def linesR (s : ByteArray) : List (Int × Int) := lGo s s.size 0 0
end Go.Proofs.Ytbdgelipabndaaa
