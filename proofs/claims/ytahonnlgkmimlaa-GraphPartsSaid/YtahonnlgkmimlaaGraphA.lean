/-
  What the functions of package graph, and of its reference, compute. Plain Lean.
-/
import Derived.Test.YtahonnlgkmimlaaEngI
set_option linter.unusedSimpArgs false
set_option linter.unusedVariables false
namespace Go.Proofs.Ytahonnlgkmimlaa
open Go.RowKit

theorem rd_len {α : Type} [Data α] {S : Stab} {w : World} {v : Value} {l : List α} (h : Rd S w v l) : (l.length : Int) ≤ 9223372036854775807 := by
  obtain ⟨p, c, _, h1, h2⟩ := slice_header (rd_slice h)
  have : maxLen ≤ 9223372036854775807 := by decide
  omega

def okE (n : Int) (e : Int × Int) : Prop := 0 ≤ e.1 ∧ e.1 < n ∧ 0 ≤ e.2 ∧ e.2 < n
instance (n : Int) (e : Int × Int) : Decidable (okE n e) := by unfold okE; infer_instance
def okEs (n : Int) (E : List (Int × Int)) : Prop := ∀ j, j < E.length → okE n (E.getD j (0, 0))
instance (n : Int) (E : List (Int × Int)) : Decidable (okEs n E) := by unfold okEs; infer_instance
def rightE (n : Int) (E : List (Int × Int)) : Int := if n < 0 then 3 else if 1024 < n ∨ 1024 - n < (E.length : Int) then 2 else if okEs n E then 0 else 3
theorem rightE_bad {n : Int} {E : List (Int × Int)} (h0 : 0 ≤ n) (h1 : n ≤ 1024) (h2 : (E.length : Int) ≤ 1024 - n) {i : Int} (hi : 0 ≤ i) (hl : i < (E.length : Int)) (h : ¬ okE n (E.getD i.toNat (0, 0))) : rightE n E = 3 := by
  unfold rightE
  rw [if_neg (by omega), if_neg (by omega), if_neg (fun q : okEs n E => h (q i.toNat (by omega)))]
theorem rightE_ok {n : Int} {E : List (Int × Int)} (h0 : 0 ≤ n) (h1 : n ≤ 1024) (h2 : (E.length : Int) ≤ 1024 - n) {i : Int} (hl : ¬ i < (E.length : Int)) (h : ∀ j : Nat, (j : Int) < i → okE n (E.getD j (0, 0))) : rightE n E = 0 := by
  unfold rightE
  rw [if_neg (by omega), if_neg (by omega), if_pos (show okEs n E from fun j hj => h j (by omega))]

/-- Rises, all of it from 0 to below n. -/
def risesP (l : List Int) (n : Int) : Prop := ∀ j, j < l.length → 0 ≤ l.getD j 0 ∧ l.getD j 0 < n ∧ (0 < j → l.getD (j - 1) 0 < l.getD j 0)
instance (l : List Int) (n : Int) : Decidable (risesP l n) := by unfold risesP; infer_instance
theorem ans_b' {x y : Bool} {w w' : World} (h : x = y) (hb : Below w.heap.size w w') : Ans (.bool y) w (.returned (.bool x)) w' := ⟨by rw [h], hb⟩
theorem ans_i' {k : IntKind} {x y : Int} {w w' : World} (h : x = y) (hb : Below w.heap.size w w') : Ans (.int k y) w (.returned (.int k x)) w' := ⟨by rw [h], hb⟩

/-- slices.BinarySearch, from a round on. -/
def bsGo (l : List Int) (x : Int) : Nat → Int → Int → Int
  | 0, lo, _ => lo
  | f + 1, lo, hi => if lo < hi then (if l.getD ((lo + hi) / 2).toNat 0 < x then bsGo l x f ((lo + hi) / 2 + 1) hi else bsGo l x f lo ((lo + hi) / 2)) else lo
def bsI (l : List Int) (x : Int) : Int := bsGo l x l.length 0 (l.length : Int)
def hasB (l : List Int) (x : Int) : Bool := decide (bsI l x < (l.length : Int)) && decide (l.getD (bsI l x).toNat 0 = x)
theorem bsGo_end {l : List Int} {x lo hi : Int} (h : ¬ lo < hi) : ∀ f, bsGo l x f lo hi = lo
  | 0 => rfl
  | f + 1 => by unfold bsGo; rw [if_neg h]
theorem bsGo_fuel {l : List Int} {x : Int} : ∀ (f g : Nat) (lo hi : Int), (hi - lo).toNat ≤ f → (hi - lo).toNat ≤ g → bsGo l x f lo hi = bsGo l x g lo hi
  | 0, g, lo, hi, h1, h2 => by rw [bsGo_end (by omega), bsGo_end (by omega)]
  | f + 1, 0, lo, hi, h1, h2 => by rw [bsGo_end (by omega), bsGo_end (by omega)]
  | f + 1, g + 1, lo, hi, h1, h2 => by
    unfold bsGo
    by_cases h : lo < hi
    · rw [if_pos h, if_pos h]
      split
      · exact bsGo_fuel f g _ _ (by omega) (by omega)
      · exact bsGo_fuel f g _ _ (by omega) (by omega)
    · rw [if_neg h, if_neg h]
/-- A loop's round: fuel enough. -/
def bsW (l : List Int) (x lo hi : Int) : Int := bsGo l x (hi - lo).toNat lo hi
theorem bsW_T {l : List Int} {x lo hi : Int} (h : lo < hi) (hx : l.getD ((lo + hi) / 2).toNat 0 < x) : bsW l x lo hi = bsW l x ((lo + hi) / 2 + 1) hi := by
  unfold bsW
  obtain ⟨f, hf⟩ : ∃ f, (hi - lo).toNat = f + 1 := ⟨(hi - lo).toNat - 1, by omega⟩
  rw [hf]
  conv => lhs; unfold bsGo
  rw [if_pos h, if_pos hx]
  exact bsGo_fuel _ _ _ _ (by omega) (by omega)
theorem bsW_F {l : List Int} {x lo hi : Int} (h : lo < hi) (hx : ¬ l.getD ((lo + hi) / 2).toNat 0 < x) : bsW l x lo hi = bsW l x lo ((lo + hi) / 2) := by
  unfold bsW
  obtain ⟨f, hf⟩ : ∃ f, (hi - lo).toNat = f + 1 := ⟨(hi - lo).toNat - 1, by omega⟩
  rw [hf]
  conv => lhs; unfold bsGo
  rw [if_pos h, if_neg hx]
  exact bsGo_fuel _ _ _ _ (by omega) (by omega)
theorem bsW_end {l : List Int} {x lo hi : Int} (h : ¬ lo < hi) : bsW l x lo hi = lo := bsGo_end h _
theorem bsI_W (l : List Int) (x : Int) : bsW l x 0 (l.length : Int) = bsI l x := by unfold bsW bsI; congr 1
theorem ans_ib {k : IntKind} {x y : Int} {b c : Bool} {w w' : World} (h : x = y ∧ b = c) (hb : Below w.heap.size w w') : Ans (.tuple #[.int k y, .bool c]) w (.returned (.tuple #[.int k x, .bool b])) w' := ⟨by rw [h.1, h.2], hb⟩
def endsE (n : Int) (E : List (Int × Int)) (d : Int) : Int × Int × Bool :=
  if rightE n E ≠ 0 ∨ d < 0 ∨ (E.length : Int) ≤ d / 2 then (0, 0, false)
  else if d % 2 = 0 then ((E.getD (d / 2).toNat (0, 0)).1, (E.getD (d / 2).toNat (0, 0)).2, true) else ((E.getD (d / 2).toNat (0, 0)).2, (E.getD (d / 2).toNat (0, 0)).1, true)
theorem ans_iib {x y x' y' : Int} {b c : Bool} {w w' : World} (h : (x', y', c) = (x, y, b)) (hb : Below w.heap.size w w') : Ans (.tuple #[.int .i64 x', .int .i64 y', .bool c]) w (.returned (.tuple #[.int .i64 x, .int .i64 y, .bool b])) w' := by
  simp only [Prod.mk.injEq] at h
  exact ⟨by rw [h.1, h.2.1, h.2.2], hb⟩

theorem rises_bound {l : List Int} {n : Int} (h : risesP l n) : ∀ j, j < l.length → (j : Int) ≤ l.getD j 0
  | 0, hj => by have := h 0 hj; omega
  | j + 1, hj => by
    have ih := rises_bound h j (by omega)
    have := (h (j + 1) hj).2.2 (by omega)
    rw [show j + 1 - 1 = j by omega] at this
    omega
theorem rises_len {l : List Int} {n : Int} (h : risesP l n) (hn : 0 ≤ n) : (l.length : Int) ≤ n := by
  cases hl : l.length with
  | zero => omega
  | succ m =>
    have h1 := rises_bound h m (by omega)
    have h2 := h m (by omega)
    omega
def okPart (E : List (Int × Int)) (V L : List Int) : Prop := ∀ j, j < L.length → hasB V (E.getD (L.getD j 0).toNat (0, 0)).1 = true ∧ hasB V (E.getD (L.getD j 0).toNat (0, 0)).2 = true
instance (E : List (Int × Int)) (V L : List Int) : Decidable (okPart E V L) := by unfold okPart; infer_instance
def partE (n : Int) (E : List (Int × Int)) (V L : List Int) : Int :=
  if rightE n E ≠ 0 then rightE n E else if ¬ risesP V n ∨ ¬ risesP L (E.length : Int) then 4 else if okPart E V L then 0 else 4
theorem rightE_0 {n : Int} {E : List (Int × Int)} (h : rightE n E = 0) : 0 ≤ n ∧ n ≤ 1024 ∧ (E.length : Int) ≤ 1024 - n ∧ okEs n E := by
  unfold rightE at h
  split at h
  · omega
  · split at h
    · omega
    · split at h
      · rename_i q; exact ⟨by omega, by omega, by omega, q⟩
      · omega

/-- merge, from a round on; f: rounds enough. -/
def mgF : Nat → List Int → List Int → Int → List Int
  | 0, _, _, _ => []
  | f + 1, a, b, n => if a = [] ∧ b = [] then [] else
    if b = [] ∨ (a ≠ [] ∧ a.getD 0 0 < b.getD 0 0) then (if n = 1 then [a.getD 0 0] else []) ++ mgF f (a.drop 1) b n
    else if a = [] ∨ b.getD 0 0 < a.getD 0 0 then (if n = 1 then [b.getD 0 0] else []) ++ mgF f a (b.drop 1) n
    else [a.getD 0 0] ++ mgF f (a.drop 1) (b.drop 1) n
def mergeL (a b : List Int) (n : Int) : List Int := mgF (a.length + b.length) a b n
theorem mgF_nil (f : Nat) (n : Int) : mgF f [] [] n = [] := by cases f <;> simp [mgF]
theorem mgF_fuel (n : Int) : ∀ (f g : Nat) (a b : List Int), a.length + b.length ≤ f → a.length + b.length ≤ g → mgF f a b n = mgF g a b n
  | 0, g, a, b, h1, h2 => by
    rw [List.eq_nil_of_length_eq_zero (show a.length = 0 by omega), List.eq_nil_of_length_eq_zero (show b.length = 0 by omega), mgF_nil, mgF_nil]
  | f + 1, 0, a, b, h1, h2 => by
    rw [List.eq_nil_of_length_eq_zero (show a.length = 0 by omega), List.eq_nil_of_length_eq_zero (show b.length = 0 by omega), mgF_nil, mgF_nil]
  | f + 1, g + 1, a, b, h1, h2 => by
    unfold mgF
    have ha : a ≠ [] → 0 < a.length := List.length_pos_iff.2
    have hb : b ≠ [] → 0 < b.length := List.length_pos_iff.2
    by_cases c0 : a = [] ∧ b = []
    · rw [if_pos c0, if_pos c0]
    rw [if_neg c0, if_neg c0]
    by_cases c1 : b = [] ∨ (a ≠ [] ∧ a.getD 0 0 < b.getD 0 0)
    · have : a ≠ [] := by rcases c1 with c | c; exact fun q => c0 ⟨q, c⟩; exact c.1
      have := ha this
      rw [if_pos c1, if_pos c1, mgF_fuel n f g _ _ (by rw [List.length_drop]; omega) (by rw [List.length_drop]; omega)]
    have hb' := hb (fun q => c1 (.inl q))
    rw [if_neg c1, if_neg c1]
    by_cases c2 : a = [] ∨ b.getD 0 0 < a.getD 0 0
    · rw [if_pos c2, if_pos c2, mgF_fuel n f g _ _ (by rw [List.length_drop]; omega) (by rw [List.length_drop]; omega)]
    · rw [if_neg c2, if_neg c2, mgF_fuel n f g _ _ (by simp only [List.length_drop]; omega) (by simp only [List.length_drop]; omega)]

theorem mergeL_nil {a b : List Int} {n : Int} (h : ¬ 0 < (a.length : Int) ∧ ¬ 0 < (b.length : Int)) : mergeL a b n = [] := by
  rw [List.eq_nil_of_length_eq_zero (show a.length = 0 by omega), List.eq_nil_of_length_eq_zero (show b.length = 0 by omega)]; rfl
theorem mergeL_step {a b : List Int} {n : Int} (h : 0 < (a.length : Int) ∨ 0 < (b.length : Int)) : mergeL a b n =
    if (b.length : Int) = 0 ∨ (0 < (a.length : Int) ∧ a.getD 0 0 < b.getD 0 0) then (if n = 1 then [a.getD 0 0] else []) ++ mergeL (a.drop 1) b n
    else if (a.length : Int) = 0 ∨ b.getD 0 0 < a.getD 0 0 then (if n = 1 then [b.getD 0 0] else []) ++ mergeL a (b.drop 1) n
    else [a.getD 0 0] ++ mergeL (a.drop 1) (b.drop 1) n := by
  unfold mergeL
  obtain ⟨f, hf⟩ : ∃ f, a.length + b.length = f + 1 := ⟨a.length + b.length - 1, by omega⟩
  have ea : a = [] ↔ (a.length : Int) = 0 := by rw [← List.length_eq_zero_iff]; omega
  have eb : b = [] ↔ (b.length : Int) = 0 := by rw [← List.length_eq_zero_iff]; omega
  rw [hf]
  conv => lhs; unfold mgF
  rw [if_neg (by rw [ea, eb]; omega)]
  by_cases c1 : (b.length : Int) = 0 ∨ (0 < (a.length : Int) ∧ a.getD 0 0 < b.getD 0 0)
  · rw [if_pos c1, if_pos (by rw [eb]; rcases c1 with c | c; exact .inl c; exact .inr ⟨by rw [ne_eq, ea]; omega, c.2⟩), mgF_fuel n f _ _ _ (by rw [List.length_drop]; omega) (Nat.le_refl _)]
  rw [if_neg c1, if_neg (by rw [eb, ne_eq, ea]; rintro (c | ⟨c, c'⟩); exact c1 (.inl c); exact c1 (.inr ⟨by omega, c'⟩))]
  by_cases c2 : (a.length : Int) = 0 ∨ b.getD 0 0 < a.getD 0 0
  · rw [if_pos c2, if_pos (by rw [ea]; exact c2), mgF_fuel n f _ _ _ (by rw [List.length_drop]; omega) (Nat.le_refl _)]
  · rw [if_neg c2, if_neg (by rw [ea]; exact c2), mgF_fuel n f _ _ _ (by simp only [List.length_drop]; omega) (Nat.le_refl _)]

theorem mergeL_round {a b : List Int} {n : Int} (h : 0 < (a.length : Int) ∨ 0 < (b.length : Int)) : mergeL a b n =
    if (b.length : Int) = 0 ∨ (0 < (a.length : Int) ∧ a.getD (0 : Int).toNat 0 < b.getD (0 : Int).toNat 0) then (if n = 1 then [a.getD (0 : Int).toNat 0] else []) ++ mergeL (a.drop 1) b n
    else if (a.length : Int) = 0 ∨ b.getD (0 : Int).toNat 0 < a.getD (0 : Int).toNat 0 then (if n = 1 then [b.getD (0 : Int).toNat 0] else []) ++ mergeL a (b.drop 1) n
    else [a.getD (0 : Int).toNat 0] ++ mergeL (a.drop 1) (b.drop 1) n := mergeL_step h
end Go.Proofs.Ytahonnlgkmimlaa
