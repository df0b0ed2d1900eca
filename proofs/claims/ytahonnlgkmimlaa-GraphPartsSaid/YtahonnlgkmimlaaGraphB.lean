/-
  More of what the functions of package graph, and of its reference, compute. Plain Lean.
-/
import Derived.Test.YtahonnlgkmimlaaGraphA
import Derived.Lib.SlicesCompact
set_option linter.unusedSimpArgs false
set_option linter.unusedVariables false
namespace Go.Proofs.Ytahonnlgkmimlaa
open Go.RowKit

theorem eq_of_getD {l m : List Int} (hl : (l.length : Int) = (m.length : Int)) (h : ∀ j : Nat, j < l.length → l.getD j 0 = m.getD j 0) : l = m := by
  apply List.ext_getElem (by omega)
  intro i h1 h2
  have := h i h1
  simpa [List.getD_eq_getElem?_getD, List.getElem?_eq_getElem h1, List.getElem?_eq_getElem h2] using this
theorem mem_getD {l : List Int} {x : Int} : x ∈ l ↔ ∃ j, j < l.length ∧ l.getD j 0 = x := by
  constructor
  · intro h
    obtain ⟨j, hj, e⟩ := List.getElem_of_mem h
    exact ⟨j, hj, by rw [List.getD_eq_getElem?_getD, List.getElem?_eq_getElem hj]; exact e⟩
  · rintro ⟨j, hj, e⟩
    rw [List.getD_eq_getElem?_getD, List.getElem?_eq_getElem hj] at e
    exact e ▸ List.getElem_mem hj
theorem drop_round {l : List Int} {i : Int} (h0 : 0 ≤ i) (h : i < (l.length : Int)) : l.drop i.toNat = l.getD i.toNat 0 :: l.drop (i + 1).toNat := by
  have hi : i.toNat < l.length := by omega
  rw [List.drop_eq_getElem_cons hi, List.getD_eq_getElem?_getD, List.getElem?_eq_getElem hi, show (i + 1).toNat = i.toNat + 1 by omega]
  rfl
theorem drop_end {l : List Int} {i : Int} (h : ¬ i < (l.length : Int)) : l.drop i.toNat = [] := List.drop_of_length_le (by omega)

def allP (a b : List Int) : Prop := ∀ j, j < a.length → hasB b (a.getD j 0) = true
instance (a b : List Int) : Decidable (allP a b) := by unfold allP; infer_instance

theorem partE_0 {n : Int} {E : List (Int × Int)} {V L : List Int} (h : partE n E V L = 0) : rightE n E = 0 ∧ risesP V n ∧ risesP L (E.length : Int) ∧ okPart E V L := by
  unfold partE at h
  split at h
  · rename_i q; exact (q h).elim
  · rename_i q
    split at h
    · omega
    · rename_i q2
      split at h
      · rename_i q3
        exact ⟨by omega, by have := not_or.1 q2; exact Classical.not_not.1 this.1, by have := not_or.1 q2; exact Classical.not_not.1 this.2, q3⟩
      · omega

/-- What a dart leaves. -/
def tailE (E : List (Int × Int)) (d : Int) : Int := if d % 2 = 0 then (E.getD (d / 2).toNat (0, 0)).1 else (E.getD (d / 2).toNat (0, 0)).2
def twinE (d : Int) : Int := if d % 2 = 0 then d + 1 else d - 1
def dartsFrom (E : List (Int × Int)) (e v s : Int) : List Int :=
  (if s ≤ 0 ∧ tailE E (2 * e + 0) = v then [2 * e + 0] else []) ++ (if s ≤ 1 ∧ tailE E (2 * e + 1) = v then [2 * e + 1] else [])
theorem dartsFrom_round {E : List (Int × Int)} {e v s : Int} (h0 : 0 ≤ s) (h : s < 2) : dartsFrom E e v s = (if tailE E (2 * e + s) = v then [2 * e + s] else []) ++ dartsFrom E e v (s + 1) := by
  rcases (show s = 0 ∨ s = 1 by omega) with rfl | rfl
  · simp [dartsFrom]
  · simp [dartsFrom]
theorem dartsFrom_end {E : List (Int × Int)} {e v s : Int} (h : ¬ s < 2) : dartsFrom E e v s = [] := by
  unfold dartsFrom; rw [if_neg (by omega), if_neg (by omega)]; rfl
def dartsL (E : List (Int × Int)) (L : List Int) (v : Int) : List Int := L.flatMap fun e => dartsFrom E e v 0
theorem dartsL_round {E : List (Int × Int)} {L : List Int} {v i : Int} (h0 : 0 ≤ i) (h : i < (L.length : Int)) : dartsL E (L.drop i.toNat) v = dartsFrom E (L.getD i.toNat 0) v 0 ++ dartsL E (L.drop (i + 1).toNat) v := by
  rw [drop_round h0 h]; rfl
theorem dartsL_end {E : List (Int × Int)} {L : List Int} {v i : Int} (h : ¬ i < (L.length : Int)) : dartsL E (L.drop i.toNat) v = [] := by rw [drop_end h]; rfl
theorem tailE_0 {E : List (Int × Int)} {e : Int} : tailE E (2 * e + 0) = (E.getD e.toNat (0, 0)).1 := by
  unfold tailE; rw [if_pos (by omega), show (2 * e + 0) / 2 = e by omega]
theorem tailE_1 {E : List (Int × Int)} {e : Int} : tailE E (2 * e + 1) = (E.getD e.toNat (0, 0)).2 := by
  unfold tailE; rw [if_neg (by omega), show (2 * e + 1) / 2 = e by omega]
theorem dartsFrom_0 {E : List (Int × Int)} {e v : Int} : dartsFrom E e v 0 = (if (E.getD e.toNat (0, 0)).1 = v then [2 * e] else []) ++ (if (E.getD e.toNat (0, 0)).2 = v then [2 * e + 1] else []) := by
  unfold dartsFrom; rw [tailE_0, tailE_1]; simp
def dartsE (n : Int) (E : List (Int × Int)) (V L : List Int) (v : Int) : List Int := if partE n E V L ≠ 0 then [] else dartsL E L v

def upto (n : Int) : List Int := (List.range n.toNat).map fun j : Nat => (j : Int)
theorem upto_len (n : Int) : (upto n).length = n.toNat := by simp [upto]
theorem upto_succ {i : Int} (h : 0 ≤ i) : upto (i + 1) = upto i ++ [i] := by
  unfold upto
  rw [show (i + 1).toNat = i.toNat + 1 by omega, List.range_succ, List.map_append]
  simp [Int.toNat_of_nonneg h]
theorem upto_eq {i n : Int} (h1 : ¬ i < n) (h2 : i ≤ n ∨ i = 0) : upto i = upto n := by unfold upto; rw [show i.toNat = n.toNat by omega]
theorem mem_upto {n x : Int} : x ∈ upto n ↔ 0 ≤ x ∧ x < n := by
  unfold upto
  rw [List.mem_map]
  constructor
  · rintro ⟨j, hj, rfl⟩; have := List.mem_range.1 hj; omega
  · intro h; exact ⟨x.toNat, List.mem_range.2 (by omega), by omega⟩
theorem upto_getD {n : Int} {j : Nat} (h : j < (upto n).length) : (upto n).getD j 0 = (j : Int) := by
  rw [upto_len] at h
  simp [upto, List.getD_eq_getElem?_getD, List.getElem?_range h]
def wholeE (n : Int) (E : List (Int × Int)) : List Int × List Int := if rightE n E ≠ 0 then ([], []) else (upto n, upto (E.length : Int))

def dropL (L : List Int) (x : Int) : List Int := L.filter fun y => decide (y ≠ x)
theorem dropL_round {L : List Int} {x i : Int} (h0 : 0 ≤ i) (h : i < (L.length : Int)) : dropL (L.drop i.toNat) x = (if L.getD i.toNat 0 = x then [] else [L.getD i.toNat 0]) ++ dropL (L.drop (i + 1).toNat) x := by
  rw [drop_round h0 h]
  unfold dropL
  rw [List.filter_cons]
  by_cases hx : L.getD i.toNat 0 = x
  · rw [if_pos hx, if_neg (by rw [hx]; simp)]; rfl
  · rw [if_neg hx, if_pos (decide_eq_true hx)]; rfl
theorem dropL_end {L : List Int} {x i : Int} (h : ¬ i < (L.length : Int)) : dropL (L.drop i.toNat) x = [] := by rw [drop_end h]; rfl
theorem dropL_len (L : List Int) (x : Int) : (dropL L x).length ≤ L.length := List.length_filter_le _ _

def endsL (E : List (Int × Int)) (L : List Int) : List Int := L.flatMap fun e => [(E.getD e.toNat (0, 0)).1, (E.getD e.toNat (0, 0)).2]
theorem endsL_round {E : List (Int × Int)} {L : List Int} {i : Int} (h0 : 0 ≤ i) (h : i < (L.length : Int)) : endsL E (L.drop i.toNat) = [(E.getD (L.getD i.toNat 0).toNat (0, 0)).1, (E.getD (L.getD i.toNat 0).toNat (0, 0)).2] ++ endsL E (L.drop (i + 1).toNat) := by
  rw [drop_round h0 h]; rfl
theorem endsL_end {E : List (Int × Int)} {L : List Int} {i : Int} (h : ¬ i < (L.length : Int)) : endsL E (L.drop i.toNat) = [] := by rw [drop_end h]; rfl
abbrev sortL (l : List Int) : List Int := l.mergeSort fun x y => decide (x ≤ y)
def spanE (n : Int) (E : List (Int × Int)) (L : List Int) : (List Int × List Int) × Int :=
  if rightE n E ≠ 0 then (([], []), rightE n E) else if ¬ risesP L (E.length : Int) then (([], []), 4) else ((Lib.compact (sortL (endsL E L)), L), 0)

def touchP (E : List (Int × Int)) (e v : Int) : Prop := (E.getD e.toNat (0, 0)).1 = v ∨ (E.getD e.toNat (0, 0)).2 = v
instance (E : List (Int × Int)) (e v : Int) : Decidable (touchP E e v) := by unfold touchP; infer_instance
def touchB (E : List (Int × Int)) (L : List Int) (v : Int) : Bool := decide (∃ j, j < L.length ∧ touchP E (L.getD j 0) v)
def touchL (E : List (Int × Int)) (L : List Int) (n : Int) : List Int := (upto n).filter (touchB E L)
theorem touchL_T {E : List (Int × Int)} {L : List Int} {i : Int} (h : 0 ≤ i) (ht : touchB E L i = true) : touchL E L (i + 1) = touchL E L i ++ [i] := by
  unfold touchL; rw [upto_succ h, List.filter_append, List.filter_cons, if_pos ht]; rfl
theorem touchL_F {E : List (Int × Int)} {L : List Int} {i : Int} (h : 0 ≤ i) (ht : touchB E L i = false) : touchL E L (i + 1) = touchL E L i := by
  unfold touchL; rw [upto_succ h, List.filter_append, List.filter_cons, if_neg (by rw [ht]; decide)]; simp

def smallI (n : Int) (E : List (Int × Int)) (V L : List Int) : Int :=
  if (60 < (E.length : Int) ∨ 60 < (V.length : Int)) ∨ 60 < (L.length : Int) ∨ (60 < n ∧ n ≤ 1024) then 0 else 1
theorem small_1 {n : Int} {E : List (Int × Int)} {V L : List Int} (h : ¬ smallI n E V L = 0) : (E.length : Int) ≤ 60 ∧ (V.length : Int) ≤ 60 ∧ (L.length : Int) ≤ 60 ∧ (n ≤ 60 ∨ 1024 < n) := by
  unfold smallI at h
  split at h
  · exact (h rfl).elim
  · omega

def andL (a b : List Int) : List Int := a.filter fun x => decide (x ∈ b)
theorem andL_round {a b : List Int} {i : Int} (h0 : 0 ≤ i) (h : i < (a.length : Int)) : andL (a.drop i.toNat) b = (if a.getD i.toNat 0 ∈ b then [a.getD i.toNat 0] else []) ++ andL (a.drop (i + 1).toNat) b := by
  rw [drop_round h0 h]
  unfold andL
  rw [List.filter_cons]
  by_cases hx : a.getD i.toNat 0 ∈ b <;> simp only [hx, decide_true, decide_false, if_true, if_false, Bool.false_eq_true] <;> rfl
theorem andL_end {a b : List Int} {i : Int} (h : ¬ i < (a.length : Int)) : andL (a.drop i.toNat) b = [] := by rw [drop_end h]; rfl

/-- In a list that rises a search finds all that is there. -/
theorem rises_lt {l : List Int} {n : Int} (h : risesP l n) : ∀ {i j : Nat}, i < j → j < l.length → l.getD i 0 < l.getD j 0 := by
  intro i j hij hj
  induction j with
  | zero => omega
  | succ j ih =>
    have h1 := (h (j + 1) hj).2.2 (by omega)
    rw [show j + 1 - 1 = j by omega] at h1
    by_cases e : i = j
    · subst e; exact h1
    · have := ih (by omega) (by omega); omega
theorem bsW_spec {l : List Int} {n x : Int} (h : risesP l n) : ∀ (f : Nat) (lo hi : Int), (hi - lo).toNat ≤ f → 0 ≤ lo → lo ≤ hi → hi ≤ (l.length : Int) → (∀ j : Nat, (j : Int) < lo → l.getD j 0 < x) → (∀ j : Nat, hi ≤ (j : Int) → j < l.length → x ≤ l.getD j 0) →
    0 ≤ bsW l x lo hi ∧ bsW l x lo hi ≤ (l.length : Int) ∧ (∀ j : Nat, (j : Int) < bsW l x lo hi → l.getD j 0 < x) ∧ (∀ j : Nat, bsW l x lo hi ≤ (j : Int) → j < l.length → x ≤ l.getD j 0)
  | 0, lo, hi, hf, h0, h1, h2, ha, hb => by
    rw [bsW_end (by omega)]
    exact ⟨h0, by omega, ha, fun j hj => hb j (by omega)⟩
  | f + 1, lo, hi, hf, h0, h1, h2, ha, hb => by
    by_cases hlt : lo < hi
    · by_cases hx : l.getD ((lo + hi) / 2).toNat 0 < x
      · rw [bsW_T hlt hx]
        refine bsW_spec h f _ _ (by omega) (by omega) (by omega) h2 (fun j hj => ?_) hb
        by_cases e : j = ((lo + hi) / 2).toNat
        · rw [e]; exact hx
        · have := rises_lt h (i := j) (j := ((lo + hi) / 2).toNat) (by omega) (by omega); omega
      · rw [bsW_F hlt hx]
        refine bsW_spec h f _ _ (by omega) h0 (by omega) (by omega) ha (fun j hj hl => ?_)
        by_cases e : j = ((lo + hi) / 2).toNat
        · rw [e]; omega
        · have := rises_lt h (i := ((lo + hi) / 2).toNat) (j := j) (by omega) hl; omega
    · rw [bsW_end hlt]
      exact ⟨h0, by omega, ha, fun j hj => hb j (by omega)⟩
theorem hasB_mem {l : List Int} {n x : Int} (h : risesP l n) : hasB l x = decide (x ∈ l) := by
  obtain ⟨h0, h1, h2, h3⟩ := bsW_spec (x := x) h l.length 0 (l.length : Int) (by omega) (by omega) (by omega) (Int.le_refl _) (fun j hj => by omega) (fun j hj hl => by omega)
  rw [bsI_W] at h0 h1 h2 h3
  unfold hasB
  rw [← Bool.decide_and]
  refine decide_eq_decide.2 ⟨fun ⟨a, b⟩ => mem_getD.2 ⟨_, by omega, b⟩, fun hm => ?_⟩
  obtain ⟨j, hj, e⟩ := mem_getD.1 hm
  have h4 : ¬ (j : Int) < bsI l x := fun q => by have := h2 j q; omega
  have h5 := h3 (bsI l x).toNat (by omega) (by omega)
  refine ⟨by omega, ?_⟩
  by_cases e2 : (bsI l x).toNat = j
  · rw [e2]; exact e
  · have := rises_lt h (i := (bsI l x).toNat) (j := j) (by omega) hj; omega
theorem ans_eq {x y : Value} {w w' : World} (h : x = y) (hb : Below w.heap.size w w') : Ans y w (.returned x) w' := ⟨by rw [h], hb⟩
/-- The reference's Or, from a round on. -/
def orW (a b : List Int) (i k : Int) : List Int := mergeL (a.drop i.toNat) (b.drop k.toNat) 1
theorem getD_drop {l : List Int} {i : Int} (h : 0 ≤ i) (q : Nat) : (l.drop i.toNat).getD q 0 = l.getD (i.toNat + q) 0 := by
  simp [List.getD_eq_getElem?_getD]
theorem orW_round {a b : List Int} {i k : Int} (h0 : 0 ≤ i) (h1 : 0 ≤ k) (h : i < (a.length : Int) ∨ k < (b.length : Int)) : orW a b i k =
    if ¬ k < (b.length : Int) ∨ (i < (a.length : Int) ∧ a.getD i.toNat 0 < b.getD k.toNat 0) then [a.getD i.toNat 0] ++ orW a b (i + 1) k
    else if ¬ i < (a.length : Int) ∨ b.getD k.toNat 0 < a.getD i.toNat 0 then [b.getD k.toNat 0] ++ orW a b i (k + 1)
    else [a.getD i.toNat 0] ++ orW a b (i + 1) (k + 1) := by
  unfold orW
  rw [mergeL_step (by simp only [List.length_drop]; omega)]
  have e1 : (a.drop i.toNat).getD 0 0 = a.getD i.toNat 0 := getD_drop h0 0
  have e2 : (b.drop k.toNat).getD 0 0 = b.getD k.toNat 0 := getD_drop h1 0
  have d1 : (a.drop i.toNat).drop 1 = a.drop (i + 1).toNat := by rw [List.drop_drop, show (i + 1).toNat = i.toNat + 1 by omega]
  have d2 : (b.drop k.toNat).drop 1 = b.drop (k + 1).toNat := by rw [List.drop_drop, show (k + 1).toNat = k.toNat + 1 by omega]
  rw [e1, e2, d1, d2]
  simp only [List.length_drop, if_true]
  by_cases c1 : ¬ k < (b.length : Int) ∨ (i < (a.length : Int) ∧ a.getD i.toNat 0 < b.getD k.toNat 0)
  · rw [if_pos c1, if_pos (by omega)]
  · rw [if_neg c1, if_neg (by omega)]
    by_cases c2 : ¬ i < (a.length : Int) ∨ b.getD k.toNat 0 < a.getD i.toNat 0
    · rw [if_pos c2, if_pos (by omega)]
    · rw [if_neg c2, if_neg (by omega)]
theorem orW_end {a b : List Int} {i k : Int} (h : ¬ i < (a.length : Int) ∧ ¬ k < (b.length : Int)) : orW a b i k = [] :=
  mergeL_nil (by simp only [List.length_drop]; omega)
end Go.Proofs.Ytahonnlgkmimlaa
