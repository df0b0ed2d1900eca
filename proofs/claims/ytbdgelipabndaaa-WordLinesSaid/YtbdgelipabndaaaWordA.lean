/-
  What the functions of package word, and of its reference, compute: classes of runes. Plain Lean.
-/
import Derived.Test.YtbdgelipabndaaaEngE
set_option linter.unusedSimpArgs false
set_option linter.unusedVariables false
namespace Go.Proofs.Ytbdgelipabndaaa
open Go.RowKit

def letP (r : Int) : Prop := (97 ≤ r ∧ r ≤ 122) ∨ (65 ≤ r ∧ r ≤ 90) ∨ (192 ≤ r ∧ r ≤ 591 ∧ r ≠ 215 ∧ r ≠ 247) ∨ (913 ≤ r ∧ r ≤ 969 ∧ r ≠ 930) ∨ (1040 ≤ r ∧ r ≤ 1103)
instance (r : Int) : Decidable (letP r) := by unfold letP; infer_instance
def letB (r : Int) : Bool := decide (letP r)
theorem letB_iff {r : Int} : letB r = true ↔ letP r := by unfold letB; exact decide_eq_true_iff
theorem letB_niff {r : Int} : letB r = false ↔ ¬ letP r := by unfold letB; exact decide_eq_false_iff_not

/-- The class of a rune. -/
def cls (r : Int) : Int := if letP r then 1 else if 48 ≤ r ∧ r ≤ 57 then 2 else if r = 95 ∨ (8242 ≤ r ∧ r ≤ 8244) then 3 else if r = 32 then 4 else 0

theorem cls_cases (r : Int) : cls r = 0 ∨ cls r = 1 ∨ cls r = 2 ∨ cls r = 3 ∨ cls r = 4 := by
  unfold cls; (repeat' split) <;> simp

def markB (r : Int) : Bool := decide (r = 10 ∨ (43 ≤ r ∧ r ≤ 47) ∨ r = 58 ∨ r = 124)

theorem ans_b {x y : Bool} {w w' : World} (h : x = y) (hb : Below w.heap.size w w') : Ans (.bool y) w (.returned (.bool x)) w' := ⟨by rw [h], hb⟩
theorem ans_i {k : IntKind} {x y : Int} {w w' : World} (h : x = y) (hb : Below w.heap.size w w') : Ans (.int k y) w (.returned (.int k x)) w' := ⟨by rw [h], hb⟩

/-- The runes of a text from a place on, each with its place. -/
def runesF (s : ByteArray) : Nat → Nat → List (Nat × Int)
  | 0, _ => []
  | f + 1, pos => if pos < s.size then (pos, ((Utf8.decode s pos).1 : Int)) :: runesF s f (pos + (Utf8.decode s pos).2) else []
def runes (s : ByteArray) (pos : Nat) : List (Nat × Int) := runesF s (s.size - pos) pos

theorem runesF_end (s : ByteArray) (f pos : Nat) (h : ¬ pos < s.size) : runesF s f pos = [] := by cases f <;> simp [runesF, h]
theorem runesF_fuel (s : ByteArray) : ∀ (f g pos : Nat), s.size ≤ pos + f → s.size ≤ pos + g → runesF s f pos = runesF s g pos
  | 0, g, pos, h1, h2 => by rw [runesF_end s g pos (by omega)]; rfl
  | f + 1, 0, pos, h1, h2 => by rw [runesF_end s (f + 1) pos (by omega)]; rfl
  | f + 1, g + 1, pos, h1, h2 => by
    by_cases hp : pos < s.size
    · simp only [runesF, if_pos hp]
      have hw := width_pos s pos hp
      rw [runesF_fuel s f g _ (by omega) (by omega)]
    · rw [runesF_end s _ pos hp, runesF_end s _ pos hp]
theorem runes_cons (s : ByteArray) (pos : Nat) (h : pos < s.size) : runes s pos = (pos, ((Utf8.decode s pos).1 : Int)) :: runes s (pos + (Utf8.decode s pos).2) := by
  unfold runes
  obtain ⟨f, hf⟩ : ∃ f, s.size - pos = f + 1 := ⟨s.size - pos - 1, by omega⟩
  rw [hf]
  simp only [runesF, if_pos h]
  have hw := width_pos s pos h
  rw [runesF_fuel s f (s.size - (pos + (Utf8.decode s pos).2)) _ (by omega) (by omega)]
theorem runes_nil (s : ByteArray) (pos : Nat) (h : ¬ pos < s.size) : runes s pos = [] := runesF_end s _ pos h

/-- Name, from a rune on: n runes, k signs before. -/
def nameGo : List (Nat × Int) → Int → Int → Bool
  | [], n, _ => decide (0 < n)
  | (_, r) :: l, n, k =>
    if cls r = 1 then (if 0 < k then false else if 16 < n + 1 then false else if 3 < k then false else nameGo l (n + 1) k)
    else if cls r = 2 then (if n + 1 = 1 then false else if 0 < k then false else if 16 < n + 1 then false else if 3 < k then false else nameGo l (n + 1) k)
    else if cls r = 3 then (if n + 1 = 1 then false else if 16 < n + 1 then false else if 3 < k + 1 then false else nameGo l (n + 1) (k + 1))
    else false
def nameB (s : ByteArray) : Bool := nameGo (runes s 0) 0 0

/-- Number, from a rune on. -/
def numGo : List (Nat × Int) → Int → Int × Bool
  | [], n => (n, true)
  | (_, r) :: l, n => if cls r = 2 then numGo l (10 * n + (r - 48)) else (0, false)
def numB (s : ByteArray) : Int × Bool :=
  if s.size = 0 then (0, false) else if 9 < s.size then (0, false) else if 1 < s.size ∧ StrAt s 0 = 48 then (0, false) else numGo (runes s 0) 0

/-- Bad, from a rune on. -/
def badGo : List (Nat × Int) → Int × Bool
  | [] => (0, false)
  | (p, r) :: l => if cls r = 0 ∧ markB r = false then ((p : Int), true) else badGo l
def badB (s : ByteArray) : Int × Bool := badGo (runes s 0)

theorem cls_2 {r : Int} (h : cls r = 2) : 48 ≤ r ∧ r ≤ 57 := by
  unfold cls letP at h
  (repeat' split at h) <;> first | omega | (cases h)
theorem pow_le {p : Nat} (h : p < 9) : (10 : Int) ^ p ≤ 100000000 := by
  have : p = 0 ∨ p = 1 ∨ p = 2 ∨ p = 3 ∨ p = 4 ∨ p = 5 ∨ p = 6 ∨ p = 7 ∨ p = 8 := by omega
  rcases this with rfl | rfl | rfl | rfl | rfl | rfl | rfl | rfl | rfl <;> decide
theorem pow_up {p q : Nat} {n d : Int} (h : n < 10 ^ p) (hd : d ≤ 9) (hq : p + 1 ≤ q) : 10 * n + d < 10 ^ q := by
  obtain ⟨k, rfl⟩ : ∃ k, q = p + 1 + k := ⟨q - (p + 1), by omega⟩
  have h1 : (1 : Int) ≤ 10 ^ k := by
    induction k with
    | zero => decide
    | succ k ih => rw [Int.pow_succ]; have := ih (by omega); omega
  rw [Int.pow_add, Int.pow_succ]
  have h2 : (10 : Int) ^ p * 10 * 1 ≤ 10 ^ p * 10 * 10 ^ k := Int.mul_le_mul_of_nonneg_left h1 (by
    have : (0 : Int) ≤ 10 ^ p := Int.pow_nonneg (by decide)
    omega)
  omega
theorem empty_size {s : ByteArray} : s = ⟨#[]⟩ ↔ s.size = 0 := by
  constructor
  · rintro rfl; rfl
  · intro h
    cases s with
    | mk d =>
      congr 1
      exact Array.eq_empty_of_size_eq_zero h

theorem numB_no {s : ByteArray} (h : (s = ⟨#[]⟩ ∨ (9 : Int) < s.size) ∨ ((1 : Int) < s.size ∧ StrAt s 0 = 48)) : numB s = (0, false) := by
  unfold numB
  rcases h with (h | h) | h
  · rw [if_pos (empty_size.1 h)]
  · rw [if_neg (by omega), if_pos (by omega)]
  · by_cases h9 : 9 < s.size
    · rw [if_neg (by omega), if_pos h9]
    · rw [if_neg (by omega), if_neg h9, if_pos ⟨by omega, h.2⟩]
theorem numB_go {s : ByteArray} (h : (¬ s = ⟨#[]⟩ ∧ ¬ (9 : Int) < s.size) ∧ (¬ (1 : Int) < s.size ∨ ¬ StrAt s 0 = 48)) : numGo (runes s 0) 0 = numB s := by
  unfold numB
  rw [if_neg (fun e => h.1.1 (empty_size.2 e)), if_neg (by omega), if_neg (by intro hh; rcases h.2 with h | h <;> omega)]

/-- Split, from a rune on: where a word begins (-1: nowhere), the words so far. -/
def spGo (s : ByteArray) : List (Nat × Int) → Int → List (Int × ByteArray) → List (Int × ByteArray)
  | [], b, l => if 0 ≤ b then l ++ [(b, s.extract b.toNat s.size)] else l
  | (p, r) :: t, b, l =>
    if cls r = 4 then (if 0 ≤ b then spGo s t (-1) (l ++ [(b, s.extract b.toNat ((p : Int)).toNat)]) else spGo s t b l)
    else (if b < 0 then spGo s t (p : Int) l else spGo s t b l)
def wordsB (s : ByteArray) : List (Int × ByteArray) := spGo s (runes s 0) (-1) []

/-- The reference's Rune: what the first byte says; the bytes behind it. -/
def rLead (c : Int) : Option (Int × Int × Int) :=
  if 194 ≤ c ∧ c < 224 then some (1, c - 192, 128) else if 224 ≤ c ∧ c < 240 then some (2, c - 224, 2048) else if 240 ≤ c ∧ c < 245 then some (3, c - 240, 65536) else none
def rLoop (s : ByteArray) (at_ : Int) : Nat → Int → Int → Option Int
  | 0, _, c => some c
  | k + 1, i, c => if StrAt s (at_ + i) < 128 ∨ 191 < StrAt s (at_ + i) then none else rLoop s at_ k (i + 1) (c * 64 + StrAt s (at_ + i) - 128)
def rFin (n least : Int) : Option Int → Int × Int
  | none => (-1, 1)
  | some c => if c < least ∨ 1114111 < c ∨ (55296 ≤ c ∧ c ≤ 57343) then (-1, 1) else (c, n + 1)
def rRune (s : ByteArray) (at_ : Int) : Int × Int :=
  if StrAt s at_ < 128 then (StrAt s at_, 1) else
  match rLead (StrAt s at_) with
  | none => (-1, 1)
  | some (n, c, least) => if (s.size : Int) - at_ ≤ n then (-1, 1) else rFin n least (rLoop s at_ n.toNat 1 c)

theorem strAt_byte (s : ByteArray) (i : Int) : 0 ≤ StrAt s i ∧ StrAt s i ≤ 255 := by
  unfold StrAt
  have := (s.data.getD i.toNat 0).toNat_lt
  omega
theorem rLead_some {c n d l : Int} (h : rLead c = some (n, d, l)) (hc : c ≤ 255) : 1 ≤ n ∧ n ≤ 3 ∧ 0 ≤ d ∧ d < 32 ∧ 0 ≤ l ∧ l ≤ 65536 ∧ 194 ≤ c := by
  unfold rLead at h
  (repeat' split at h) <;> first | (simp only [Option.some.injEq, Prod.mk.injEq] at h; omega) | (cases h)
theorem ans_ii {k : IntKind} {x y x' y' : Int} {w w' : World} (h : (x', y') = (x, y)) (hb : Below w.heap.size w w') : Ans (.tuple #[.int k x, .int k y]) w (.returned (.tuple #[.int k x', .int k y'])) w' := by
  simp only [Prod.mk.injEq] at h
  exact ⟨by rw [h.1, h.2], hb⟩

theorem ans_bi {k : IntKind} {x y : Int} {b c : Bool} {w w' : World} (h : x = y ∧ b = c) (hb : Below w.heap.size w w') : Ans (.tuple #[.int k y, .bool c]) w (.returned (.tuple #[.int k x, .bool b])) w' := ⟨by rw [h.1, h.2], hb⟩
end Go.Proofs.Ytbdgelipabndaaa
