/-
 Texts joined by program: GraphA, GraphB, BlockT, BlockU, BlockV, BlockW, GraphC, GraphD, BlockX, BlockY, ShelfB, BlockF, BlockR, EngP, EngQ, EngT, EngU, VM0, VMR, VA.
-/
import Derived.Lib.SlicesCompact
import Derived.Lib.RowBridge
import Derived.Shelf.SlIterI.Nil
import Derived.Ground.GgzProg
import Derived.Test.YtahonnlgkmimlaaProg
import Derived.Lib.SliceRun
import Derived.Maps.RangeWalk
import Derived.Test.YtahonnlgkmimlaaJBlockSolid1
set_option linter.unusedSimpArgs false
set_option linter.unusedVariables false
set_option maxRecDepth 100000
set_option maxHeartbeats 8000000
namespace Go.Proofs.Ytahonnlgkmimlaa
open Go.RowKit
theorem rd_len {α : Type} [Data α] {S : Stab} {w : World} {v : Value} {l : List α} (h : Rd S w v l) : (l.length : Int) ≤ 9223372036854775807 := by
 obtain ⟨p, c, _, h1, h2⟩ := slice_header (rd_slice h)
 have : maxLen ≤ 9223372036854775807 := by decide
 omega
def okE (n : Int) (e : Int × Int) : Prop := 0 ≤ e.1 ∧ e.1 < n ∧ 0 ≤ e.2 ∧ e.2 < n
instance (n : Int) (e : Int × Int) : Decidable (okE n e) := by unfold okE; infer_instance
def okEs (n : Int) (E : List (Int × Int)) : Prop := ∀ j, j < E.length → okE n (E.getD j (0, 0))
instance (n : Int) (E : List (Int × Int)) : Decidable (okEs n E) := by unfold okEs; infer_instance
def rightE (n : Int) (E : List (Int × Int)) : Int := if n < 0 then 3 else if 1024 < n ∨ 1024 - n < (E.length : Int) then 2 else if okEs n E then 0 else 3
theorem rightE_bad {n : Int} {E : List (Int × Int)} (h0 : 0 ≤ n) (h1 : n ≤ 1024) (h2 : (E.length : Int) ≤ 1024 - n) {i : Int} (hi : 0 ≤ i) (hl : i < (E.length : Int)) (h : ¬ okE n (E.getD i.toNat (0, 0))) : rightE n E = 3 := by
 unfold rightE
 rw [if_neg (by omega), if_neg (by omega), if_neg (fun q : okEs n E => h (q i.toNat (by omega)))]
theorem rightE_ok {n : Int} {E : List (Int × Int)} (h0 : 0 ≤ n) (h1 : n ≤ 1024) (h2 : (E.length : Int) ≤ 1024 - n) {i : Int} (hl : ¬ i < (E.length : Int)) (h : ∀ j : Nat, (j : Int) < i → okE n (E.getD j (0, 0))) : rightE n E = 0 := by
 unfold rightE
 rw [if_neg (by omega), if_neg (by omega), if_pos (show okEs n E from fun j hj => h j (by omega))]
def risesP (l : List Int) (n : Int) : Prop := ∀ j, j < l.length → 0 ≤ l.getD j 0 ∧ l.getD j 0 < n ∧ (0 < j → l.getD (j - 1) 0 < l.getD j 0)
instance (l : List Int) (n : Int) : Decidable (risesP l n) := by unfold risesP; infer_instance
theorem ans_b' {x y : Bool} {w w' : World} (h : x = y) (hb : Below w.heap.size w w') : Ans (.bool y) w (.returned (.bool x)) w' := ⟨by rw [h], hb⟩
theorem ans_i' {k : IntKind} {x y : Int} {w w' : World} (h : x = y) (hb : Below w.heap.size w w') : Ans (.int k y) w (.returned (.int k x)) w' := ⟨by rw [h], hb⟩
def bsGo (l : List Int) (x : Int) : Nat → Int → Int → Int
 | 0, lo, _ => lo
 | f + 1, lo, hi => if lo < hi then (if l.getD ((lo + hi) / 2).toNat 0 < x then bsGo l x f ((lo + hi) / 2 + 1) hi else bsGo l x f lo ((lo + hi) / 2)) else lo
def bsI (l : List Int) (x : Int) : Int := bsGo l x l.length 0 (l.length : Int)
def hasB (l : List Int) (x : Int) : Bool := decide (bsI l x < (l.length : Int)) && decide (l.getD (bsI l x).toNat 0 = x)
theorem bsGo_end {l : List Int} {x lo hi : Int} (h : ¬ lo < hi) : ∀ f, bsGo l x f lo hi = lo
 | 0 => rfl
 | f + 1 => by unfold bsGo; rw [if_neg h]
theorem bsGo_fuel {l : List Int} {x : Int} : ∀ (f g : Nat) (lo hi : Int), (hi - lo).toNat ≤ f → (hi - lo).toNat ≤ g → bsGo l x f lo hi = bsGo l x g lo hi
 | 0, g, lo, hi, h1, h2 => by rw [bsGo_end (by omega), bsGo_end (by omega)]
 | f + 1, 0, lo, hi, h1, h2 => by rw [bsGo_end (by omega), bsGo_end (by omega)]
 | f + 1, g + 1, lo, hi, h1, h2 => by
   unfold bsGo
   by_cases h : lo < hi
   · rw [if_pos h, if_pos h]
     split
     · exact bsGo_fuel f g _ _ (by omega) (by omega)
     exact bsGo_fuel f g _ _ (by omega) (by omega)
   rw [if_neg h, if_neg h]
def bsW (l : List Int) (x lo hi : Int) : Int := bsGo l x (hi - lo).toNat lo hi
theorem bsW_T {l : List Int} {x lo hi : Int} (h : lo < hi) (hx : l.getD ((lo + hi) / 2).toNat 0 < x) : bsW l x lo hi = bsW l x ((lo + hi) / 2 + 1) hi := by
 unfold bsW
 obtain ⟨f, hf⟩ : ∃ f, (hi - lo).toNat = f + 1 := ⟨(hi - lo).toNat - 1, by omega⟩
 rw [hf]
 conv => lhs; unfold bsGo
 rw [if_pos h, if_pos hx]
 exact bsGo_fuel _ _ _ _ (by omega) (by omega)
theorem bsW_F {l : List Int} {x lo hi : Int} (h : lo < hi) (hx : ¬ l.getD ((lo + hi) / 2).toNat 0 < x) : bsW l x lo hi = bsW l x lo ((lo + hi) / 2) := by
 unfold bsW
 obtain ⟨f, hf⟩ : ∃ f, (hi - lo).toNat = f + 1 := ⟨(hi - lo).toNat - 1, by omega⟩
 rw [hf]
 conv => lhs; unfold bsGo
 rw [if_pos h, if_neg hx]
 exact bsGo_fuel _ _ _ _ (by omega) (by omega)
theorem bsW_end {l : List Int} {x lo hi : Int} (h : ¬ lo < hi) : bsW l x lo hi = lo := bsGo_end h _
theorem bsI_W (l : List Int) (x : Int) : bsW l x 0 (l.length : Int) = bsI l x := by unfold bsW bsI; congr 1
theorem ans_ib {k : IntKind} {x y : Int} {b c : Bool} {w w' : World} (h : x = y ∧ b = c) (hb : Below w.heap.size w w') : Ans (.tuple #[.int k y, .bool c]) w (.returned (.tuple #[.int k x, .bool b])) w' := ⟨by rw [h.1, h.2], hb⟩
def endsE (n : Int) (E : List (Int × Int)) (d : Int) : Int × Int × Bool :=
 if rightE n E ≠ 0 ∨ d < 0 ∨ (E.length : Int) ≤ d / 2 then (0, 0, false)
 else if d % 2 = 0 then ((E.getD (d / 2).toNat (0, 0)).1, (E.getD (d / 2).toNat (0, 0)).2, true) else ((E.getD (d / 2).toNat (0, 0)).2, (E.getD (d / 2).toNat (0, 0)).1, true)
theorem rises_bound {l : List Int} {n : Int} (h : risesP l n) : ∀ j, j < l.length → (j : Int) ≤ l.getD j 0
 | 0, hj => by have := h 0 hj; omega
 | j + 1, hj => by
   have ih := rises_bound h j (by omega)
   have := (h (j + 1) hj).2.2 (by omega)
   rw [show j + 1 - 1 = j by omega] at this
   omega
theorem rises_len {l : List Int} {n : Int} (h : risesP l n) (hn : 0 ≤ n) : (l.length : Int) ≤ n := by
 cases hl : l.length with
 | zero => omega
 | succ m =>
   have h1 := rises_bound h m (by omega)
   have h2 := h m (by omega)
   omega
def okPart (E : List (Int × Int)) (V L : List Int) : Prop := ∀ j, j < L.length → hasB V (E.getD (L.getD j 0).toNat (0, 0)).1 = true ∧ hasB V (E.getD (L.getD j 0).toNat (0, 0)).2 = true
instance (E : List (Int × Int)) (V L : List Int) : Decidable (okPart E V L) := by unfold okPart; infer_instance
def partE (n : Int) (E : List (Int × Int)) (V L : List Int) : Int :=
 if rightE n E ≠ 0 then rightE n E else if ¬ risesP V n ∨ ¬ risesP L (E.length : Int) then 4 else if okPart E V L then 0 else 4
theorem rightE_0 {n : Int} {E : List (Int × Int)} (h : rightE n E = 0) : 0 ≤ n ∧ n ≤ 1024 ∧ (E.length : Int) ≤ 1024 - n ∧ okEs n E := by
 unfold rightE at h
 split at h
 · omega
 split at h
 · omega
 split at h
 · rename_i q; exact ⟨by omega, by omega, by omega, q⟩
 omega
def mgF : Nat → List Int → List Int → Int → List Int
 | 0, _, _, _ => []
 | f + 1, a, b, n => if a = [] ∧ b = [] then [] else
   if b = [] ∨ (a ≠ [] ∧ a.getD 0 0 < b.getD 0 0) then (if n = 1 then [a.getD 0 0] else []) ++ mgF f (a.drop 1) b n
   else if a = [] ∨ b.getD 0 0 < a.getD 0 0 then (if n = 1 then [b.getD 0 0] else []) ++ mgF f a (b.drop 1) n
   else [a.getD 0 0] ++ mgF f (a.drop 1) (b.drop 1) n
def mergeL (a b : List Int) (n : Int) : List Int := mgF (a.length + b.length) a b n
theorem eq_of_getD {l m : List Int} (hl : (l.length : Int) = (m.length : Int)) (h : ∀ j : Nat, j < l.length → l.getD j 0 = m.getD j 0) : l = m := by
 apply List.ext_getElem (by omega)
 intro i h1 h2
 have := h i h1
 simpa [List.getD_eq_getElem?_getD, List.getElem?_eq_getElem h1, List.getElem?_eq_getElem h2] using this
theorem mem_getD {l : List Int} {x : Int} : x ∈ l ↔ ∃ j, j < l.length ∧ l.getD j 0 = x := by
 constructor
 · intro h
   obtain ⟨j, hj, e⟩ := List.getElem_of_mem h
   exact ⟨j, hj, by rw [List.getD_eq_getElem?_getD, List.getElem?_eq_getElem hj]; exact e⟩
 rintro ⟨j, hj, e⟩
 rw [List.getD_eq_getElem?_getD, List.getElem?_eq_getElem hj] at e
 exact e ▸ List.getElem_mem hj
theorem drop_round {l : List Int} {i : Int} (h0 : 0 ≤ i) (h : i < (l.length : Int)) : l.drop i.toNat = l.getD i.toNat 0 :: l.drop (i + 1).toNat := by
 have hi : i.toNat < l.length := by omega
 rw [List.drop_eq_getElem_cons hi, List.getD_eq_getElem?_getD, List.getElem?_eq_getElem hi, show (i + 1).toNat = i.toNat + 1 by omega]
 rfl
theorem drop_end {l : List Int} {i : Int} (h : ¬ i < (l.length : Int)) : l.drop i.toNat = [] := List.drop_of_length_le (by omega)
def allP (a b : List Int) : Prop := ∀ j, j < a.length → hasB b (a.getD j 0) = true
instance (a b : List Int) : Decidable (allP a b) := by unfold allP; infer_instance
theorem partE_0 {n : Int} {E : List (Int × Int)} {V L : List Int} (h : partE n E V L = 0) : rightE n E = 0 ∧ risesP V n ∧ risesP L (E.length : Int) ∧ okPart E V L := by
 unfold partE at h
 split at h
 · rename_i q; exact (q h).elim
 rename_i q
 split at h
 · omega
 rename_i q2
 split at h
 · rename_i q3
   exact ⟨by omega, by have := not_or.1 q2; exact Classical.not_not.1 this.1, by have := not_or.1 q2; exact Classical.not_not.1 this.2, q3⟩
 omega
def tailE (E : List (Int × Int)) (d : Int) : Int := if d % 2 = 0 then (E.getD (d / 2).toNat (0, 0)).1 else (E.getD (d / 2).toNat (0, 0)).2
def twinE (d : Int) : Int := if d % 2 = 0 then d + 1 else d - 1
def dartsFrom (E : List (Int × Int)) (e v s : Int) : List Int :=
 (if s ≤ 0 ∧ tailE E (2 * e + 0) = v then [2 * e + 0] else []) ++ (if s ≤ 1 ∧ tailE E (2 * e + 1) = v then [2 * e + 1] else [])
def dartsL (E : List (Int × Int)) (L : List Int) (v : Int) : List Int := L.flatMap fun e => dartsFrom E e v 0
theorem tailE_0 {E : List (Int × Int)} {e : Int} : tailE E (2 * e + 0) = (E.getD e.toNat (0, 0)).1 := by
 unfold tailE; rw [if_pos (by omega), show (2 * e + 0) / 2 = e by omega]
theorem tailE_1 {E : List (Int × Int)} {e : Int} : tailE E (2 * e + 1) = (E.getD e.toNat (0, 0)).2 := by
 unfold tailE; rw [if_neg (by omega), show (2 * e + 1) / 2 = e by omega]
theorem dartsFrom_0 {E : List (Int × Int)} {e v : Int} : dartsFrom E e v 0 = (if (E.getD e.toNat (0, 0)).1 = v then [2 * e] else []) ++ (if (E.getD e.toNat (0, 0)).2 = v then [2 * e + 1] else []) := by
 unfold dartsFrom; rw [tailE_0, tailE_1]; simp
def dartsE (n : Int) (E : List (Int × Int)) (V L : List Int) (v : Int) : List Int := if partE n E V L ≠ 0 then [] else dartsL E L v
def upto (n : Int) : List Int := (List.range n.toNat).map fun j : Nat => (j : Int)
theorem upto_succ {i : Int} (h : 0 ≤ i) : upto (i + 1) = upto i ++ [i] := by
 unfold upto
 rw [show (i + 1).toNat = i.toNat + 1 by omega, List.range_succ, List.map_append]
 simp [Int.toNat_of_nonneg h]
theorem upto_eq {i n : Int} (h1 : ¬ i < n) (h2 : i ≤ n ∨ i = 0) : upto i = upto n := by unfold upto; rw [show i.toNat = n.toNat by omega]
theorem mem_upto {n x : Int} : x ∈ upto n ↔ 0 ≤ x ∧ x < n := by
 unfold upto
 rw [List.mem_map]
 constructor
 · rintro ⟨j, hj, rfl⟩; have := List.mem_range.1 hj; omega
 intro h; exact ⟨x.toNat, List.mem_range.2 (by omega), by omega⟩
def wholeE (n : Int) (E : List (Int × Int)) : List Int × List Int := if rightE n E ≠ 0 then ([], []) else (upto n, upto (E.length : Int))
def dropL (L : List Int) (x : Int) : List Int := L.filter fun y => decide (y ≠ x)
def endsL (E : List (Int × Int)) (L : List Int) : List Int := L.flatMap fun e => [(E.getD e.toNat (0, 0)).1, (E.getD e.toNat (0, 0)).2]
theorem endsL_round {E : List (Int × Int)} {L : List Int} {i : Int} (h0 : 0 ≤ i) (h : i < (L.length : Int)) : endsL E (L.drop i.toNat) = [(E.getD (L.getD i.toNat 0).toNat (0, 0)).1, (E.getD (L.getD i.toNat 0).toNat (0, 0)).2] ++ endsL E (L.drop (i + 1).toNat) := by
 rw [drop_round h0 h]; rfl
theorem endsL_end {E : List (Int × Int)} {L : List Int} {i : Int} (h : ¬ i < (L.length : Int)) : endsL E (L.drop i.toNat) = [] := by rw [drop_end h]; rfl
abbrev sortL (l : List Int) : List Int := l.mergeSort fun x y => decide (x ≤ y)
def spanE (n : Int) (E : List (Int × Int)) (L : List Int) : (List Int × List Int) × Int :=
 if rightE n E ≠ 0 then (([], []), rightE n E) else if ¬ risesP L (E.length : Int) then (([], []), 4) else ((Lib.compact (sortL (endsL E L)), L), 0)
def touchP (E : List (Int × Int)) (e v : Int) : Prop := (E.getD e.toNat (0, 0)).1 = v ∨ (E.getD e.toNat (0, 0)).2 = v
instance (E : List (Int × Int)) (e v : Int) : Decidable (touchP E e v) := by unfold touchP; infer_instance
def touchB (E : List (Int × Int)) (L : List Int) (v : Int) : Bool := decide (∃ j, j < L.length ∧ touchP E (L.getD j 0) v)
def touchL (E : List (Int × Int)) (L : List Int) (n : Int) : List Int := (upto n).filter (touchB E L)
def smallI (n : Int) (E : List (Int × Int)) (V L : List Int) : Int :=
 if (60 < (E.length : Int) ∨ 60 < (V.length : Int)) ∨ 60 < (L.length : Int) ∨ (60 < n ∧ n ≤ 1024) then 0 else 1
def andL (a b : List Int) : List Int := a.filter fun x => decide (x ∈ b)
theorem rises_lt {l : List Int} {n : Int} (h : risesP l n) : ∀ {i j : Nat}, i < j → j < l.length → l.getD i 0 < l.getD j 0 := by
 intro i j hij hj
 induction j with
 | zero => omega
 | succ j ih =>
   have h1 := (h (j + 1) hj).2.2 (by omega)
   rw [show j + 1 - 1 = j by omega] at h1
   by_cases e : i = j
   · subst e; exact h1
   have := ih (by omega) (by omega); omega
theorem bsW_spec {l : List Int} {n x : Int} (h : risesP l n) : ∀ (f : Nat) (lo hi : Int), (hi - lo).toNat ≤ f → 0 ≤ lo → lo ≤ hi → hi ≤ (l.length : Int) → (∀ j : Nat, (j : Int) < lo → l.getD j 0 < x) → (∀ j : Nat, hi ≤ (j : Int) → j < l.length → x ≤ l.getD j 0) →
   0 ≤ bsW l x lo hi ∧ bsW l x lo hi ≤ (l.length : Int) ∧ (∀ j : Nat, (j : Int) < bsW l x lo hi → l.getD j 0 < x) ∧ (∀ j : Nat, bsW l x lo hi ≤ (j : Int) → j < l.length → x ≤ l.getD j 0)
 | 0, lo, hi, hf, h0, h1, h2, ha, hb => by
   rw [bsW_end (by omega)]
   exact ⟨h0, by omega, ha, fun j hj => hb j (by omega)⟩
 | f + 1, lo, hi, hf, h0, h1, h2, ha, hb => by
   by_cases hlt : lo < hi
   · by_cases hx : l.getD ((lo + hi) / 2).toNat 0 < x
     · rw [bsW_T hlt hx]
       refine bsW_spec h f _ _ (by omega) (by omega) (by omega) h2 (fun j hj => ?_) hb
       by_cases e : j = ((lo + hi) / 2).toNat
       · rw [e]; exact hx
       have := rises_lt h (i := j) (j := ((lo + hi) / 2).toNat) (by omega) (by omega); omega
     rw [bsW_F hlt hx]
     refine bsW_spec h f _ _ (by omega) h0 (by omega) (by omega) ha (fun j hj hl => ?_)
     by_cases e : j = ((lo + hi) / 2).toNat
     · rw [e]; omega
     have := rises_lt h (i := ((lo + hi) / 2).toNat) (j := j) (by omega) hl; omega
   rw [bsW_end hlt]
   exact ⟨h0, by omega, ha, fun j hj => hb j (by omega)⟩
theorem hasB_mem {l : List Int} {n x : Int} (h : risesP l n) : hasB l x = decide (x ∈ l) := by
 obtain ⟨h0, h1, h2, h3⟩ := bsW_spec (x := x) h l.length 0 (l.length : Int) (by omega) (by omega) (by omega) (Int.le_refl _) (fun j hj => by omega) (fun j hj hl => by omega)
 rw [bsI_W] at h0 h1 h2 h3
 unfold hasB
 rw [← Bool.decide_and]
 refine decide_eq_decide.2 ⟨fun ⟨a, b⟩ => mem_getD.2 ⟨_, by omega, b⟩, fun hm => ?_⟩
 obtain ⟨j, hj, e⟩ := mem_getD.1 hm
 have h4 : ¬ (j : Int) < bsI l x := fun q => by have := h2 j q; omega
 have h5 := h3 (bsI l x).toNat (by omega) (by omega)
 refine ⟨by omega, ?_⟩
 by_cases e2 : (bsI l x).toNat = j
 · rw [e2]; exact e
 have := rises_lt h (i := (bsI l x).toNat) (j := j) (by omega) hj; omega
def orW (a b : List Int) (i k : Int) : List Int := mergeL (a.drop i.toNat) (b.drop k.toNat) 1
end Go.Proofs.Ytahonnlgkmimlaa
namespace Go.Proofs.Ytahonnlgkmimlaa.Deep
structure Gr where
 L : List Int
 A : Int → Int
 B : Int → Int
namespace Gr
variable (G : Gr)
def inc (f x : Int) : Prop := G.A f = x ∨ G.B f = x
def lp (f : Int) : Prop := G.A f = G.B f
def joins (f x y : Int) : Prop := (G.A f = x ∧ G.B f = y) ∨ (G.A f = y ∧ G.B f = x)
def adj (x y : Int) : Prop := ∃ f ∈ G.L, G.joins f x y
inductive Rch (P : Int → Prop) : Int → Int → Prop
 | refl {x} : P x → Rch P x x
 | step {x y z} : Rch P x y → G.adj y z → P z → Rch P x z
variable {G}
theorem joins.symm {f x y : Int} (h : G.joins f x y) : G.joins f y x := h.elim .inr .inl
theorem joins.left {f x y : Int} (h : G.joins f x y) : G.inc f x := h.elim (fun h => .inl h.1) (fun h => .inr h.2)
theorem joins.right {f x y : Int} (h : G.joins f x y) : G.inc f y := h.symm.left
theorem joins.of {f x y : Int} (h : G.joins f x y) {z : Int} (hz : G.inc f z) : z = x ∨ z = y := by
 rcases h with ⟨h1, h2⟩ | ⟨h1, h2⟩ <;> rcases hz with e | e <;> simp_all
theorem adj.symm {x y : Int} (h : G.adj x y) : G.adj y x := let ⟨f, hf, hj⟩ := h; ⟨f, hf, hj.symm⟩
theorem Rch.mono {P P' : Int → Prop} (hp : ∀ x, P x → P' x) {x y : Int} (h : G.Rch P x y) : G.Rch P' x y := by
 induction h with
 | refl h => exact .refl (hp _ h)
 | step _ ha hz ih => exact .step ih ha (hp _ hz)
theorem Rch.first {P : Int → Prop} {x y : Int} (h : G.Rch P x y) : P x := by
 induction h with
 | refl h => exact h
 | step _ _ _ ih => exact ih
theorem Rch.last {P : Int → Prop} {x y : Int} (h : G.Rch P x y) : P y := by
 cases h with
 | refl h => exact h
 | step _ _ h => exact h
theorem Rch.trans {P : Int → Prop} {x y z : Int} (h : G.Rch P x y) (k : G.Rch P y z) : G.Rch P x z := by
 induction k with
 | refl _ => exact h
 | step _ ha hz ih => exact .step ih ha hz
theorem Rch.one {P : Int → Prop} {x y : Int} (hx : P x) (h : G.adj x y) (hy : P y) : G.Rch P x y := .step (.refl hx) h hy
theorem Rch.symm {P : Int → Prop} {x y : Int} (h : G.Rch P x y) : G.Rch P y x := by
 induction h with
 | refl h => exact .refl h
 | step h ha hz ih => exact (Rch.one hz ha.symm h.last).trans ih
theorem Rch.closed {P Q : Int → Prop} (hc : ∀ x y, Q x → G.adj x y → P y → Q y) {x y : Int} (h : G.Rch P x y) (hx : Q x) : Q y := by
 induction h with
 | refl _ => exact hx
 | step _ ha hz ih => exact hc _ _ ih ha hz
end Gr
def Tog (G : Gr) (z f g : Int) : Prop := ∃ a b, G.inc f a ∧ a ≠ z ∧ G.inc g b ∧ b ≠ z ∧ G.Rch (· ≠ z) a b
structure St where
 met : Int → Int
 low : Int → Int
 cnt : Int
 stk : List Int
 blk : List (List Int)
 ins : List (Int × List Int)
def upd (f : Int → Int) (x y : Int) : Int → Int := fun z => if z = x then y else f z
theorem upd_same (f : Int → Int) (x y : Int) : upd f x y x = y := by simp [upd]
theorem upd_ne (f : Int → Int) {x z : Int} (y : Int) (h : z ≠ x) : upd f x y z = f z := by simp [upd, h]
def enter (v : Int) (s : St) : St := { s with cnt := s.cnt + 1, met := upd s.met v (s.cnt + 1), low := upd s.low v (s.cnt + 1) }
def key (b : List Int) : Int × List Int := ((sortL b).headD 0, sortL b)
inductive Loop (D : Int → List Int) (T : Int → Int) : Int → Int → List Int → St → St → Prop
 | nil {v via s} : Loop D T v via [] s s
 | lp {v via d ds s s'} : T d = v → Loop D T v via ds { s with ins := s.ins ++ [(d / 2, [d / 2])] } s' → Loop D T v via (d :: ds) s s'
 | via {v via d ds s s'} : T d ≠ v → d / 2 = via → Loop D T v via ds s s' → Loop D T v via (d :: ds) s s'
 | keep {v via d ds s s1 s'} : T d ≠ v → d / 2 ≠ via → s.met (T d) = 0 → Loop D T (T d) (d / 2) (D (T d)) (enter (T d) { s with stk := s.stk ++ [d / 2] }) s1 → s1.low (T d) < s1.met v →
     Loop D T v via ds { s1 with low := upd s1.low v (min (s1.low v) (s1.low (T d))) } s' → Loop D T v via (d :: ds) s s'
 | take {v via d ds s s1 s' pre S} : T d ≠ v → d / 2 ≠ via → s.met (T d) = 0 → Loop D T (T d) (d / 2) (D (T d)) (enter (T d) { s with stk := s.stk ++ [d / 2] }) s1 → ¬ s1.low (T d) < s1.met v → s1.stk = pre ++ d / 2 :: S → d / 2 ∉ pre →
     Loop D T v via ds { s1 with low := upd s1.low v (min (s1.low v) (s1.low (T d))), stk := pre, blk := s1.blk ++ [d / 2 :: S], ins := s1.ins ++ [key (d / 2 :: S)] } s' → Loop D T v via (d :: ds) s s'
 | back {v via d ds s s'} : T d ≠ v → d / 2 ≠ via → s.met (T d) ≠ 0 → s.met (T d) < s.met v → Loop D T v via ds { s with stk := s.stk ++ [d / 2], low := upd s.low v (min (s.low v) (s.met (T d))) } s' → Loop D T v via (d :: ds) s s'
 | skip {v via d ds s s'} : T d ≠ v → d / 2 ≠ via → s.met (T d) ≠ 0 → ¬ s.met (T d) < s.met v → Loop D T v via ds s s' → Loop D T v via (d :: ds) s s'
def Good (G : Gr) (earlier : List Int) (b : List Int) : Prop := ∃ (p : Int) (N : Int → Prop), ¬ N p ∧ (∃ f ∈ b, G.inc f p) ∧ (∀ f ∈ b, f ∈ G.L ∧ ¬ G.lp f ∧ ∃ x y, N x ∧ (N y ∨ y = p) ∧ G.joins f x y) ∧
 (∀ x y, N x → G.adj x y → N y ∨ y = p) ∧ (∀ x, N x → ∀ f ∈ G.L, G.inc f x → G.lp f ∨ f ∈ b ∨ f ∈ earlier) ∧ (∀ f ∈ b, ∀ g ∈ b, ∀ z, Tog G z f g)
def AllGood (G : Gr) : List Int → List (List Int) → Prop
 | _, [] => True
 | earlier, b :: bs => Good G earlier b ∧ AllGood G (earlier ++ b) bs
theorem AllGood.snoc {G : Gr} {b : List Int} : ∀ {earlier : List Int} {bs : List (List Int)}, AllGood G earlier bs → Good G (earlier ++ bs.flatten) b → AllGood G earlier (bs ++ [b])
 | e, [], _, h => ⟨by simpa using h, tv⟩
 | e, c :: bs, h, hb => ⟨h.1, AllGood.snoc h.2 (by simpa [List.append_assoc] using hb)⟩
structure Darts (G : Gr) (D : Int → List Int) (T : Int → Int) : Prop where
 mem : ∀ v d, d ∈ D v → d / 2 ∈ G.L ∧ G.joins (d / 2) v (T d)
 all : ∀ f x, f ∈ G.L → G.inc f x → ∃ d ∈ D x, d / 2 = f
 one : ∀ v d d', d ∈ D v → d' ∈ D v → d / 2 = d' / 2 → T d ≠ v → d = d'
 nodup : ∀ v, (D v).Nodup
structure Glob (G : Gr) (s : St) : Prop where
 bnd : ∀ x, 0 ≤ s.met x ∧ s.met x ≤ s.cnt
 inj : ∀ x y, s.met x ≠ 0 → s.met x = s.met y → x = y
 bv : ∀ f ∈ s.blk.flatten, ∀ x, G.inc f x → s.met x ≠ 0
 nd : (s.blk.flatten ++ s.stk).Nodup
 good : AllGood G [] s.blk
 ins1 : ∀ q ∈ s.ins, (q.2 = [q.1] ∧ q.1 ∈ G.L ∧ G.lp q.1) ∨ ∃ b ∈ s.blk, q = key b
 ins2 : ∀ b ∈ s.blk, key b ∈ s.ins
 ne : ∀ b ∈ s.blk, b ≠ []
structure Ctx (G : Gr) (Y : Int → Prop) (o : St) (v via : Int) : Prop where
 glob : Glob G o
 new : o.met v = 0
 gray : ∀ x, Y x → o.met x ≠ 0
 black : ∀ x y, o.met x ≠ 0 → ¬ Y x → G.adj x y → o.met y ≠ 0
 up : (via ∉ G.L ∧ (∀ x, ¬ Y x) ∧ o.stk = []) ∨ (via ∈ G.L ∧ ∃ p, Y p ∧ G.joins via p v ∧ ∀ x, Y x → o.met x ≤ o.met p)
 sv : ∀ f ∈ o.stk, f = via ∨ ∀ x, G.inc f x → o.met x ≠ 0
abbrev New (o s : St) (x : Int) : Prop := o.met x = 0 ∧ s.met x ≠ 0
structure Run (G : Gr) (T : Int → Int) (Y : Int → Prop) (o : St) (v via : Int) (dn : List Int) (s : St) (S : List Int) (Bs : List (List Int)) : Prop where
 glob : Glob G s
 old : ∀ x, o.met x ≠ 0 → s.met x = o.met x
 olow : ∀ x, o.met x ≠ 0 → s.low x = o.low x
 new : ∀ x, New o s x → o.cnt < s.met x
 vmet : s.met v = o.cnt + 1
 stk : s.stk = o.stk ++ S
 blk : s.blk = o.blk ++ Bs
 seen : ∀ x y, New o s x → x ≠ v → G.adj x y → s.met y ≠ 0
 vseen : ∀ d ∈ dn, s.met (T d) ≠ 0
 sE : ∀ f ∈ S, f ∈ G.L ∧ ¬ G.lp f ∧ f ≠ via ∧ ∃ x y, New o s x ∧ (New o s y ∨ Y y) ∧ G.joins f x y
 bE : ∀ f ∈ Bs.flatten, ∀ x, G.inc f x → New o s x
 cov : ∀ x, New o s x → x ≠ v → ∀ f ∈ G.L, G.inc f x → (G.lp f ∧ (f, [f]) ∈ s.ins) ∨ f ∈ S ∨ f ∈ Bs.flatten
 vcov : ∀ d ∈ dn, (G.lp (d / 2) ∧ (d / 2, [d / 2]) ∈ s.ins) ∨ d / 2 = via ∨ d / 2 ∈ S ∨ d / 2 ∈ Bs.flatten
 src : ∀ f ∈ S, G.inc f v → ∀ y, G.inc f y → Y y → ∃ d ∈ dn, d / 2 = f
 lowv : s.low v ≤ s.met v
 lowA : ∀ f ∈ S, ∀ y, Y y → G.inc f y → s.low v ≤ s.met y
 lowB : s.low v < s.met v → ∃ f ∈ S, ∃ x y, New o s x ∧ Y y ∧ G.joins f x y ∧ s.met y ≤ s.low v
 out : ∀ f ∈ S, ∀ z, New o s z → ∃ a y, G.inc f a ∧ a ≠ z ∧ Y y ∧ G.Rch (fun x => (New o s x ∨ Y x) ∧ x ≠ z) a y
 conn : ∀ x, New o s x → G.Rch (New o s) v x
 insO : ∀ q ∈ o.ins, q ∈ s.ins
section
variable {G : Gr} {D : Int → List Int} {T : Int → Int} {Y : Int → Prop} {o s : St} {v via : Int} {dn S : List Int} {Bs : List (List Int)}
theorem Run.newv (C : Ctx G Y o v via) (R : Run G T Y o v via dn s S Bs) : New o s v := ⟨C.new, by rw [R.vmet]; have := (C.glob.bnd v).1; have := (C.glob.bnd v).2; omega⟩
theorem enter_run (C : Ctx G Y o v via) : Run G T Y o v via [] (enter v o) [] [] := by
 have hc : 0 ≤ o.cnt := by have := C.glob.bnd v; omega
 have hN : ∀ x, New o (enter v o) x ↔ x = v := by
   intro x
   constructor
   · rintro ⟨h1, h2⟩
     by_cases e : x = v
     · exact e
     exact absurd h1 (by rw [show (enter v o).met x = o.met x from upd_ne _ _ e] at h2; exact h2)
   rintro rfl
   refine ⟨C.new, ?_⟩
   rw [show (enter x o).met x = o.cnt + 1 from upd_same _ _ _]; omega
 have hm : ∀ x, o.met x ≠ 0 → (enter v o).met x = o.met x := fun x hx => upd_ne _ _ (fun e => hx (by rw [e]; exact C.new))
 have hv : (enter v o).met v = o.cnt + 1 := upd_same _ _ _
 have hlv : (enter v o).low v = o.cnt + 1 := upd_same _ _ _
 refine ⟨⟨fun x => ?_, fun x y hx he => ?_, fun f hf x hx => ?_, C.glob.nd, C.glob.good, C.glob.ins1, C.glob.ins2, C.glob.ne⟩, hm, fun x hx => upd_ne _ _ (fun e => hx (by rw [e]; exact C.new)), fun x hx => ?_, hv, by simp [enter], by simp [enter], fun x y hx hne => absurd ((hN x).1 hx) hne,
   fun _ h => by simp at h, fun _ h => by simp at h, fun _ h => by simp at h, fun x hx hne => absurd ((hN x).1 hx) hne, fun _ h => by simp at h, fun _ h => by simp at h, by rw [hv, hlv]; exact Int.le_refl _, fun _ h => by simp at h, fun h => by rw [hv, hlv] at h; omega, fun _ h => by simp at h, fun x hx => ?_, fun q h => h⟩
 · by_cases e : x = v
   · subst e; rw [hv]; show _ ∧ _ ≤ o.cnt + 1; omega
   rw [show (enter v o).met x = o.met x from upd_ne _ _ e]; have := C.glob.bnd x; show _ ∧ _ ≤ o.cnt + 1; omega
 · by_cases e : x = v
   · by_cases e' : y = v
     · rw [e, e']
     rw [e, hv, show (enter v o).met y = o.met y from upd_ne _ _ e'] at he
     have := C.glob.bnd y; omega
   rw [show (enter v o).met x = o.met x from upd_ne _ _ e] at hx he
   by_cases e' : y = v
   · rw [e', hv] at he
     have := C.glob.bnd x; omega
   rw [show (enter v o).met y = o.met y from upd_ne _ _ e'] at he
   exact C.glob.inj x y hx he
 · rw [hm x (C.glob.bv f hf x hx)]; exact C.glob.bv f hf x hx
 · rw [(hN x).1 hx, hv]; omega
 rw [(hN x).1 hx]; exact .refl ((hN v).2 rfl)
theorem Run.more (R : Run G T Y o v via dn s S Bs) {d : Int} (h1 : s.met (T d) ≠ 0) (h2 : (G.lp (d / 2) ∧ (d / 2, [d / 2]) ∈ s.ins) ∨ d / 2 = via ∨ d / 2 ∈ S ∨ d / 2 ∈ Bs.flatten) : Run G T Y o v via (dn ++ [d]) s S Bs :=
 { R with
   vseen := fun d' hd' => by
     rcases List.mem_append.1 hd' with h | h
     · exact R.vseen d' h
     rw [List.mem_singleton.1 h]; exact h1
   vcov := fun d' hd' => by
     rcases List.mem_append.1 hd' with h | h
     · exact R.vcov d' h
     rw [List.mem_singleton.1 h]; exact h2
   src := fun f hf hv y hy hY => by
     obtain ⟨d', hd', e⟩ := R.src f hf hv y hy hY
     exact ⟨d', List.mem_append_left _ hd', e⟩ }
theorem Run.lp (R : Run G T Y o v via dn s S Bs) {e : Int} (hL : e ∈ G.L) (hl : G.lp e) : Run G T Y o v via dn { s with ins := s.ins ++ [(e, [e])] } S Bs :=
 { R with
   glob := { R.glob with
     ins1 := fun q hq => by
       rcases List.mem_append.1 hq with h | h
       · exact R.glob.ins1 q h
       rw [List.mem_singleton.1 h]; exact .inl ⟨rfl, hL, hl⟩
     ins2 := fun b hb => List.mem_append_left _ (R.glob.ins2 b hb) }
   cov := fun x hx hne f hf hi => (R.cov x hx hne f hf hi).imp_left fun h => ⟨h.1, List.mem_append_left _ h.2⟩
   vcov := fun d hd => (R.vcov d hd).imp_left fun h => ⟨h.1, List.mem_append_left _ h.2⟩
   insO := fun q hq => List.mem_append_left _ (R.insO q hq) }
theorem Run.gray_of (C : Ctx G Y o v via) (R : Run G T Y o v via dn s S Bs) {w : Int} (hw : s.met w ≠ 0) (hlt : s.met w < s.met v) (hadj : G.adj w v) : Y w := by
 have ho : o.met w ≠ 0 := fun h0 => by
   have := R.new w ⟨h0, hw⟩
   rw [R.vmet] at hlt; omega
 exact Classical.byContradiction fun hn => C.black w v ho hn hadj C.new
theorem Run.back (HD : Darts G D T) (C : Ctx G Y o v via) (R : Run G T Y o v via dn s S Bs) {d : Int} (hd : d ∈ D v) (hdn : ∀ x ∈ dn, x ∈ D v) (hnd : d ∉ dn) (h1 : T d ≠ v) (h2 : d / 2 ≠ via) (h3 : s.met (T d) ≠ 0) (h4 : s.met (T d) < s.met v) :
   Run G T Y o v via (dn ++ [d]) { s with stk := s.stk ++ [d / 2], low := upd s.low v (min (s.low v) (s.met (T d))) } (S ++ [d / 2]) Bs := by
 obtain ⟨hL, hj⟩ := HD.mem v d hd
 have hadj : G.adj v (T d) := ⟨_, hL, hj⟩
 have hY : Y (T d) := R.gray_of C h3 h4 hadj.symm
 have hNv := R.newv C
 have hnl : ¬ G.lp (d / 2) := fun h => by
   rcases hj with ⟨a, b⟩ | ⟨a, b⟩
   · exact h1 (by rw [← a, ← b]; exact h.symm)
   exact h1 (by rw [← a, ← b]; exact h)
 have hnb : d / 2 ∉ s.blk.flatten := fun h => by
   rw [R.blk, List.flatten_append, List.mem_append] at h
   rcases h with h | h
   · exact C.glob.bv _ h v hj.left C.new
   exact C.gray _ hY (R.bE _ h (T d) hj.right).1
 have hns : d / 2 ∉ s.stk := fun h => by
   rw [R.stk, List.mem_append] at h
   rcases h with h | h
   · rcases C.sv _ h with e | e
     · exact h2 e
     exact e v hj.left C.new
   obtain ⟨d', hd', e⟩ := R.src _ h hj.left _ hj.right hY
   exact hnd (HD.one v d d' hd (hdn d' hd') e.symm h1 ▸ hd')
 have hlow : ∀ x, o.met x ≠ 0 → upd s.low v (min (s.low v) (s.met (T d))) x = s.low x := fun x hx => upd_ne _ _ (fun e => hx (by rw [e]; exact C.new))
 have hlv : upd s.low v (min (s.low v) (s.met (T d))) v = min (s.low v) (s.met (T d)) := upd_same _ _ _
 refine ⟨⟨R.glob.bnd, R.glob.inj, R.glob.bv, ?_, R.glob.good, R.glob.ins1, R.glob.ins2, R.glob.ne⟩, R.old, fun x hx => (hlow x hx).trans (R.olow x hx), R.new, R.vmet, by simp only [R.stk, List.append_assoc], R.blk, R.seen, fun d' hd' => ?_, fun f hf => ?_, R.bE, fun x hx hne f hf hi => ?_, fun d' hd' => ?_, fun f hf hv y hy hYy => ?_, ?_, fun f hf y hYy hi => ?_, fun h => ?_, fun f hf z hz => ?_, R.conn, R.insO⟩
 · show (s.blk.flatten ++ (s.stk ++ [d / 2])).Nodup
   rw [← List.append_assoc, List.nodup_append]
   refine ⟨R.glob.nd, by simp, fun a ha b hb => ?_⟩
   rw [List.mem_singleton.1 hb]
   rintro rfl
   exact (List.mem_append.1 ha).elim hnb hns
 · rcases List.mem_append.1 hd' with h | h
   · exact R.vseen d' h
   rw [List.mem_singleton.1 h]; exact h3
 · rcases List.mem_append.1 hf with h | h
   · exact R.sE f h
   rw [List.mem_singleton.1 h]; exact ⟨hL, hnl, h2, v, T d, hNv, .inr hY, hj⟩
 · rcases R.cov x hx hne f hf hi with h | h | h
   · exact .inl h
   · exact .inr (.inl (List.mem_append_left _ h))
   exact .inr (.inr h)
 · rcases List.mem_append.1 hd' with h | h
   · rcases R.vcov d' h with h | h | h | h
     · exact .inl h
     · exact .inr (.inl h)
     · exact .inr (.inr (.inl (List.mem_append_left _ h)))
     exact .inr (.inr (.inr h))
   exact .inr (.inr (.inl (List.mem_append_right _ (by rw [List.mem_singleton.1 h]; simp))))
 · rcases List.mem_append.1 hf with h | h
   · obtain ⟨d', hd', e⟩ := R.src f h hv y hy hYy
     exact ⟨d', List.mem_append_left _ hd', e⟩
   exact ⟨d, by simp, (List.mem_singleton.1 h).symm⟩
 · show upd s.low v _ v ≤ s.met v
   rw [hlv]; have := R.lowv; omega
 · show upd s.low v _ v ≤ s.met y
   rw [hlv]
   rcases List.mem_append.1 hf with h | h
   · have := R.lowA f h y hYy hi; omega
   rw [List.mem_singleton.1 h] at hi
   rcases hj.of hi with rfl | rfl
   · exact absurd C.new (C.gray _ hYy)
   omega
 · have h : upd s.low v (min (s.low v) (s.met (T d))) v < s.met v := h
   show ∃ f ∈ _, ∃ x y, _ ∧ _ ∧ _ ∧ s.met y ≤ upd s.low v _ v
   rw [hlv] at h ⊢
   by_cases hm : s.low v < s.met (T d)
   · obtain ⟨f, hf, x, y, a, b, c, e⟩ := R.lowB (by omega)
     exact ⟨f, List.mem_append_left _ hf, x, y, a, b, c, by omega⟩
   exact ⟨d / 2, by simp, v, T d, hNv, hY, hj, by omega⟩
 rcases List.mem_append.1 hf with h | h
 · exact R.out f h z hz
 rw [List.mem_singleton.1 h]
 have hne : T d ≠ z := fun e => C.gray _ hY (by rw [e]; exact hz.1)
 exact ⟨T d, T d, hj.right, hne, hY, .refl ⟨.inr hY, hne⟩⟩
end
end Go.Proofs.Ytahonnlgkmimlaa.Deep
namespace Go.Proofs.Ytahonnlgkmimlaa.Deep
section
variable {G : Gr} {D : Int → List Int} {T : Int → Int} {Y : Int → Prop} {o s s1 : St} {v via : Int} {dn S S1 : List Int} {Bs B1 : List (List Int)}
abbrev And1 (Y : Int → Prop) (v x : Int) : Prop := Y x ∨ x = v
abbrev pushed (s : St) (e : Int) : St := { s with stk := s.stk ++ [e] }
theorem Run.notStk (C : Ctx G Y o v via) (R : Run G T Y o v via dn s S Bs) {e w : Int} (hi : G.inc e w) (hw : s.met w = 0) (hne : e ≠ via) : e ∉ s.stk := by
 intro h
 rw [R.stk, List.mem_append] at h
 rcases h with h | h
 · rcases C.sv _ h with q | q
   · exact hne q
   exact q w hi (by
     have := R.old w
     exact Classical.byContradiction fun hh => hh (by have := this hh; omega))
 obtain ⟨_, _, _, x, y, hx, hy, hj⟩ := R.sE e h
 rcases hj.of hi with rfl | rfl
 · exact hx.2 hw
 rcases hy with hy | hy
 · exact hy.2 hw
 have h1 := C.gray _ hy
 have := R.old _ h1
 omega
theorem Run.child (HD : Darts G D T) (C : Ctx G Y o v via) (R : Run G T Y o v via dn s S Bs) {d : Int} (hd : d ∈ D v) (h1 : T d ≠ v) (h2 : d / 2 ≠ via) (h3 : s.met (T d) = 0) :
   Ctx G (And1 Y v) (pushed s (d / 2)) (T d) (d / 2) := by
 obtain ⟨hL, hj⟩ := HD.mem v d hd
 have hNv := R.newv C
 have hns : d / 2 ∉ s.stk := R.notStk C hj.right h3 h2
 have hnb : d / 2 ∉ s.blk.flatten := fun h => R.glob.bv _ h _ hj.right h3
 refine ⟨⟨R.glob.bnd, R.glob.inj, R.glob.bv, ?_, R.glob.good, R.glob.ins1, R.glob.ins2, R.glob.ne⟩, h3, fun x hx => ?_, fun x y hx hn ha => ?_, .inr ⟨hL, v, .inr rfl, hj, fun x hx => ?_⟩, fun f hf => ?_⟩
 · show (s.blk.flatten ++ (s.stk ++ [d / 2])).Nodup
   rw [← List.append_assoc, List.nodup_append]
   refine ⟨R.glob.nd, by simp, fun a ha b hb => ?_⟩
   rw [List.mem_singleton.1 hb]
   rintro rfl
   exact (List.mem_append.1 ha).elim hnb hns
 · rcases hx with hx | rfl
   · have := C.gray x hx
     show s.met x ≠ 0
     rw [R.old x this]; exact this
   exact hNv.2
 · show s.met y ≠ 0
   have hx : s.met x ≠ 0 := hx
   by_cases ho : o.met x = 0
   · exact R.seen x y ⟨ho, hx⟩ (fun e => hn (.inr e)) ha
   have hy := C.black x y ho (fun e => hn (.inl e)) ha
   rw [R.old y hy]; exact hy
 · rcases hx with hx | rfl
   · have h := C.gray x hx
     show s.met x ≤ s.met v
     rw [R.old x h, R.vmet]
     have := (C.glob.bnd x).2; omega
   exact Int.le_refl _
 rcases List.mem_append.1 hf with h | h
 · refine .inr fun x hi => ?_
   show s.met x ≠ 0
   intro h0
   by_cases e : f = via
   · rcases C.up with ⟨_, _, hs⟩ | ⟨_, p, hp, hjp, _⟩
     · rw [R.stk, hs, List.nil_append] at h
       exact (R.sE f h).2.2.1 e
     rw [e] at hi
     rcases hjp.of hi with rfl | rfl
     · have h1 := C.gray _ hp
       have := R.old _ h1
       omega
     exact hNv.2 h0
   exact R.notStk C hi h0 e h
 exact .inl (List.mem_singleton.1 h)
structure Back (G : Gr) (Y : Int → Prop) (o s s1 : St) (v e w : Int) (S1 : List Int) (B1 : List (List Int)) : Prop where
 nw : ∀ x, New o s1 x ↔ New o s x ∨ New s s1 x
 met : ∀ x, s.met x ≠ 0 → s1.met x = s.met x
 old : ∀ x, o.met x ≠ 0 → s1.met x = o.met x
 vs : s1.met v = s.met v
 lv : s1.low v = s.low v
 wnew : New s s1 w
 lt : s1.met v < s1.met w
theorem Run.behind (HD : Darts G D T) (C : Ctx G Y o v via) (R : Run G T Y o v via dn s S Bs) {d : Int} (hd : d ∈ D v) (h1 : T d ≠ v) (h2 : d / 2 ≠ via) (h3 : s.met (T d) = 0)
   (R1 : Run G T (And1 Y v) (pushed s (d / 2)) (T d) (d / 2) (D (T d)) s1 S1 B1) : Back G Y o s s1 v (d / 2) (T d) S1 B1 := by
 have C1 := R.child HD C hd h1 h2 h3
 have hNv := R.newv C
 have hm : ∀ x, s.met x ≠ 0 → s1.met x = s.met x := R1.old
 have hw := R1.newv C1
 refine ⟨fun x => ⟨fun ⟨a, b⟩ => ?_, fun h => ?_⟩, hm, fun x hx => ?_, hm v hNv.2, R1.olow v hNv.2, hw, ?_⟩
 · by_cases q : s.met x = 0
   · exact .inr ⟨q, b⟩
   exact .inl ⟨a, q⟩
 · rcases h with ⟨a, b⟩ | ⟨a, b⟩
   · exact ⟨a, by rw [hm x b]; exact b⟩
   refine ⟨Classical.byContradiction fun q => ?_, b⟩
   have := R.old x q
   omega
 · have := R.old x hx
   rw [hm x (by omega)]; exact this
 rw [hm v hNv.2]
 have := R1.new _ hw
 have h4 : (pushed s (d / 2)).cnt = s.cnt := rfl
 have := (R.glob.bnd v).2
 omega
theorem Run.covL (HD : Darts G D T) (R : Run G T Y o v via (D v) s S Bs) (x : Int) (hx : New o s x) (f : Int) (hf : f ∈ G.L) (hi : G.inc f x) : (G.lp f ∧ (f, [f]) ∈ s.ins) ∨ f = via ∨ f ∈ S ∨ f ∈ Bs.flatten := by
 by_cases e : x = v
 · subst e
   obtain ⟨d, hd, rfl⟩ := HD.all f x hf hi
   exact R.vcov d hd
 rcases R.cov x hx e f hf hi with h | h
 · exact .inl h
 exact .inr (.inr h)
theorem Run.seenL (HD : Darts G D T) (R : Run G T Y o v via (D v) s S Bs) (x y : Int) (hx : New o s x) (ha : G.adj x y) : s.met y ≠ 0 := by
 by_cases e : x = v
 · subst e
   obtain ⟨f, hf, hj⟩ := ha
   obtain ⟨d, hd, rfl⟩ := HD.all f x hf hj.left
   obtain ⟨_, hj'⟩ := HD.mem x d hd
   have := R.vseen d hd
   rcases hj'.of hj.right with rfl | rfl
   · exact hx.2
   exact this
 exact R.seen x y hx e ha
theorem Run.nbr (HD : Darts G D T) (C : Ctx G Y o v via) (R : Run G T Y o v via (D v) s S Bs) {x y : Int} (hx : New o s x) (ha : G.adj x y) : New o s y ∨ Y y := by
 have hy := R.seenL HD x y hx ha
 by_cases ho : o.met y = 0
 · exact .inl ⟨ho, hy⟩
 exact .inr (Classical.byContradiction fun hn => C.black y x ho hn ha.symm hx.1)
theorem Run.onlyv (HD : Darts G D T) (C : Ctx G Y o v via) (R : Run G T Y o v via dn s S Bs) {d : Int} (hd : d ∈ D v) (h1 : T d ≠ v) (h2 : d / 2 ≠ via) (h3 : s.met (T d) = 0)
   (R1 : Run G T (And1 Y v) (pushed s (d / 2)) (T d) (d / 2) (D (T d)) s1 S1 B1) (hge : ¬ s1.low (T d) < s1.met v) {f y : Int} (hf : f ∈ S1) (hy : And1 Y v y) (hi : G.inc f y) : y = v := by
 have B := R.behind HD C hd h1 h2 h3 R1
 rcases hy with hy | hy
 · have h4 := R1.lowA f hf y (.inl hy) hi
   have h5 := C.gray y hy
   rw [B.old y h5] at h4
   rw [B.vs, R.vmet] at hge
   have := (C.glob.bnd y).2
   omega
 exact hy
theorem Run.stays (HD : Darts G D T) (C : Ctx G Y o v via) (R : Run G T Y o v via dn s S Bs) {d : Int} (hd : d ∈ D v) (h1 : T d ≠ v) (h2 : d / 2 ≠ via) (h3 : s.met (T d) = 0)
   (R1 : Run G T (And1 Y v) (pushed s (d / 2)) (T d) (d / 2) (D (T d)) s1 S1 B1) (hge : ¬ s1.low (T d) < s1.met v) {x y : Int} (hx : New s s1 x) (ha : G.adj x y) : New s s1 y ∨ y = v := by
 have C1 := R.child HD C hd h1 h2 h3
 rcases R1.nbr HD C1 hx ha with h | h
 · exact .inl h
 refine .inr ?_
 obtain ⟨f, hf, hj⟩ := ha
 have hyx : y ≠ x := fun e => by
   have := C1.gray y h
   rw [e] at this
   exact this hx.1
 rcases R1.covL HD x hx f hf hj.left with q | q | q | q
 · exfalso
   have : G.A f = G.B f := q.1
   rcases hj with ⟨a, b⟩ | ⟨a, b⟩
   · exact hyx (by rw [← a, ← b, this])
   exact hyx (by rw [← a, ← b, this])
 · obtain ⟨_, hjd⟩ := HD.mem v d hd
   rw [q] at hj
   rcases hjd.of hj.right with e | e
   · exact e
   exfalso
   have := C1.gray y h
   rw [e] at this
   exact this h3
 · exact R.onlyv HD C hd h1 h2 h3 R1 hge q h hj.right
 exfalso
 exact C1.gray y h (R1.bE f q y hj.right).1
theorem Run.block (HD : Darts G D T) (C : Ctx G Y o v via) (R : Run G T Y o v via dn s S Bs) {d : Int} (hd : d ∈ D v) (h1 : T d ≠ v) (h2 : d / 2 ≠ via) (h3 : s.met (T d) = 0)
   (R1 : Run G T (And1 Y v) (pushed s (d / 2)) (T d) (d / 2) (D (T d)) s1 S1 B1) (hge : ¬ s1.low (T d) < s1.met v) : Good G ([] ++ s1.blk.flatten) (d / 2 :: S1) := by
 obtain ⟨hL, hj⟩ := HD.mem v d hd
 have C1 := R.child HD C hd h1 h2 h3
 have hw := R1.newv C1
 have hnv : ¬ New s s1 v := fun h => (R.newv C).2 h.1
 have hnl : ¬ G.lp (d / 2) := fun h => by
   rcases hj with ⟨a, b⟩ | ⟨a, b⟩
   · exact h1 (by rw [← a, ← b]; exact h.symm)
   exact h1 (by rw [← a, ← b]; exact h)
 have hends : ∀ f ∈ d / 2 :: S1, f ∈ G.L ∧ ¬ G.lp f ∧ ∃ x y, New s s1 x ∧ (New s s1 y ∨ y = v) ∧ G.joins f x y := by
   intro f hf
   rcases List.mem_cons.1 hf with rfl | hf
   · exact ⟨hL, hnl, T d, v, hw, .inr rfl, hj.symm⟩
   obtain ⟨a, b, _, x, y, hx, hy, hjj⟩ := R1.sE f hf
   refine ⟨a, b, x, y, hx, ?_, hjj⟩
   rcases hy with hy | hy
   · exact .inl hy
   exact .inr (R.onlyv HD C hd h1 h2 h3 R1 hge hf hy hjj.right)
 have hstay : ∀ x y, New s s1 x → G.adj x y → New s s1 y ∨ y = v := fun x y hx ha => R.stays HD C hd h1 h2 h3 R1 hge hx ha
 -- an end of each edge comes to one vertex without z
 have hkey : ∀ f ∈ d / 2 :: S1, ∀ z, ∃ a, G.inc f a ∧ a ≠ z ∧ G.Rch (· ≠ z) a (if New s s1 z then v else T d) := by
   intro f hf z
   by_cases hz : New s s1 z
   · rw [if_pos hz]
     have hvz : v ≠ z := fun e => hnv (e ▸ hz)
     rcases List.mem_cons.1 hf with rfl | hf'
     · exact ⟨v, hj.left, hvz, .refl hvz⟩
     obtain ⟨a, y, hia, haz, hy, hr⟩ := R1.out f hf' z hz
     refine ⟨a, hia, haz, ?_⟩
     have hr' : G.Rch (· ≠ z) a y := hr.mono fun x hx => hx.2
     -- the first that is not new is v
     have hQ : (New s s1 a ∨ G.Rch (· ≠ z) a v) := by
       obtain ⟨_, _, x, y', hx, hy', hjj⟩ := hends f hf
       rcases hjj.of hia with e | e
       · rw [e]; exact .inl hx
       rcases hy' with hy' | hy'
       · rw [e]; exact .inl hy'
       rw [e, hy']; exact .inr (.refl hvz)
     have hend := Gr.Rch.closed (P := (· ≠ z)) (Q := fun x => G.Rch (· ≠ z) a x ∧ (New s s1 x ∨ G.Rch (· ≠ z) a v)) (fun x y ⟨hx, hx'⟩ ha hp => by
       refine ⟨.step hx ha hp, ?_⟩
       rcases hx' with hx' | hx'
       · rcases hstay x y hx' ha with h | h
         · exact .inl h
         exact .inr (h ▸ .step hx ha hp)
       exact .inr hx') hr' ⟨.refl haz, hQ⟩
     rcases hend.2 with h | h
     · exact absurd h.1 (C1.gray y hy)
     exact h
   rw [if_neg hz]
   obtain ⟨_, _, x, y, hx, hy, hjj⟩ := hends f hf
   refine ⟨x, hjj.left, fun e => hz (e ▸ hx), (Gr.Rch.mono (P := New s s1) (P' := (· ≠ z)) (fun u hu => fun e : u = z => hz (e ▸ hu)) (R1.conn x hx)).symm⟩
 refine ⟨v, New s s1, hnv, ⟨d / 2, by simp, hj.left⟩, hends, hstay, fun x hx f hf hi => ?_, fun f hf g hg z => ?_⟩
 · rcases R1.covL HD x hx f hf hi with q | q | q | q
   · exact .inl q.1
   · exact .inr (.inl (by rw [q]; simp))
   · exact .inr (.inl (List.mem_cons_of_mem _ q))
   refine .inr (.inr ?_)
   rw [List.nil_append, R1.blk, List.flatten_append]
   exact List.mem_append_right _ q
 obtain ⟨a, ha, haz, hra⟩ := hkey f hf z
 obtain ⟨b, hb, hbz, hrb⟩ := hkey g hg z
 exact ⟨a, b, ha, haz, hb, hbz, hra.trans hrb.symm⟩
end
end Go.Proofs.Ytahonnlgkmimlaa.Deep
namespace Go.Proofs.Ytahonnlgkmimlaa.Deep
section
variable {G : Gr} {D : Int → List Int} {T : Int → Int} {Y : Int → Prop} {o s s1 : St} {v via : Int} {dn S S1 : List Int} {Bs B1 : List (List Int)}
theorem Run.keep (HD : Darts G D T) (C : Ctx G Y o v via) (R : Run G T Y o v via dn s S Bs) {d : Int} (hd : d ∈ D v) (h1 : T d ≠ v) (h2 : d / 2 ≠ via) (h3 : s.met (T d) = 0)
   (R1 : Run G T (And1 Y v) (pushed s (d / 2)) (T d) (d / 2) (D (T d)) s1 S1 B1) (hlt : s1.low (T d) < s1.met v) :
   Run G T Y o v via (dn ++ [d]) { s1 with low := upd s1.low v (min (s1.low v) (s1.low (T d))) } (S ++ d / 2 :: S1) (Bs ++ B1) := by
 obtain ⟨hL, hj⟩ := HD.mem v d hd
 have C1 := R.child HD C hd h1 h2 h3
 have B := R.behind HD C hd h1 h2 h3 R1
 have hNv := R.newv C
 have hv1 : New o s1 v := (B.nw v).2 (.inl hNv)
 have hw1 : New o s1 (T d) := (B.nw _).2 (.inr B.wnew)
 have hYm : ∀ y, Y y → s1.met y = s.met y := fun y hy => B.met y (C1.gray y (.inl hy))
 have hnl : ¬ G.lp (d / 2) := fun h => by
   rcases hj with ⟨a, b⟩ | ⟨a, b⟩
   · exact h1 (by rw [← a, ← b]; exact h.symm)
   exact h1 (by rw [← a, ← b]; exact h)
 have hlv : upd s1.low v (min (s1.low v) (s1.low (T d))) v = min (s1.low v) (s1.low (T d)) := upd_same _ _ _
 have hold : ∀ x, o.met x ≠ 0 → upd s1.low v (min (s1.low v) (s1.low (T d))) x = o.low x := fun x hx => by
   rw [upd_ne _ _ (fun e => hx (by rw [e]; exact C.new))]
   exact (R1.olow x (by have := R.old x hx; show s.met x ≠ 0; omega)).trans (R.olow x hx)
 have hnew : ∀ x, New o s1 x → o.cnt < s1.met x := fun x hx => by
   rcases (B.nw x).1 hx with h | h
   · rw [B.met x h.2]; exact R.new x h
   have h4 := R1.new x h
   have h5 : (pushed s (d / 2)).cnt = s.cnt := rfl
   have := (R.glob.bnd v).2
   have := R.vmet
   omega
 have hseen : ∀ x y, New o s1 x → x ≠ v → G.adj x y → s1.met y ≠ 0 := fun x y hx hne ha => by
   rcases (B.nw x).1 hx with h | h
   · have := R.seen x y h hne ha
     rw [B.met y this]; exact this
   exact R1.seenL HD x y h ha
 have hvseen : ∀ d' ∈ dn ++ [d], s1.met (T d') ≠ 0 := fun d' hd' => by
   rcases List.mem_append.1 hd' with h | h
   · have := R.vseen d' h
     rw [B.met _ this]; exact this
   rw [List.mem_singleton.1 h]; exact B.wnew.2
 have hbE : ∀ f ∈ (Bs ++ B1).flatten, ∀ x, G.inc f x → New o s1 x := fun f hf x hi => by
   rw [List.flatten_append, List.mem_append] at hf
   rcases hf with h | h
   · exact (B.nw x).2 (.inl (R.bE f h x hi))
   exact (B.nw x).2 (.inr (R1.bE f h x hi))
 have hsrcS : ∀ f ∈ S, G.inc f v → ∀ y, G.inc f y → Y y → ∃ d' ∈ dn ++ [d], d' / 2 = f := fun f hf hv y hy hYy => by
   obtain ⟨d', hd', e⟩ := R.src f hf hv y hy hYy
   exact ⟨d', List.mem_append_left _ hd', e⟩
 have hlowv : min (s1.low v) (s1.low (T d)) ≤ s1.met v := by
   have := R.lowv
   rw [B.vs, B.lv]; omega
 have houtS : ∀ f ∈ S, ∀ z, New o s1 z → ∃ a y, G.inc f a ∧ a ≠ z ∧ Y y ∧ G.Rch (fun x => (New o s1 x ∨ Y x) ∧ x ≠ z) a y := fun f hf z hz => by
   rcases (B.nw z).1 hz with h | h
   · obtain ⟨a, y, k1, k2, k3, k4⟩ := R.out f hf z h
     exact ⟨a, y, k1, k2, k3, k4.mono fun x hx => ⟨hx.1.imp_left fun q => (B.nw x).2 (.inl q), hx.2⟩⟩
   obtain ⟨a, y, k1, k2, k3, k4⟩ := R.out f hf v hNv
   have hz' : ∀ x, New o s x ∨ Y x → x ≠ z := fun x hx e => by
     have h0 : s.met z = 0 := h.1
     rw [← e] at h0
     rcases hx with hx | hx
     · exact hx.2 h0
     exact C1.gray x (.inl hx) h0
   exact ⟨a, y, k1, hz' a k4.first.1, k3, k4.mono fun x hx => ⟨hx.1.imp_left fun q => (B.nw x).2 (.inl q), hz' x hx.1⟩⟩
 have hvw : G.adj v (T d) := ⟨_, hL, hj⟩
 have hconn : ∀ x, New o s1 x → G.Rch (New o s1) v x := fun x hx => by
   rcases (B.nw x).1 hx with h | h
   · exact (R.conn x h).mono fun y hy => (B.nw y).2 (.inl hy)
   exact (Gr.Rch.one hv1 hvw hw1).trans (Gr.Rch.mono (P := New s s1) (fun y hy => (B.nw y).2 (.inr hy)) (R1.conn x h))
 have hins : ∀ q ∈ o.ins, q ∈ s1.ins := fun q hq => R1.insO q (R.insO q hq)
 have hsES : ∀ f ∈ S, f ∈ G.L ∧ ¬ G.lp f ∧ f ≠ via ∧ ∃ x y, New o s1 x ∧ (New o s1 y ∨ Y y) ∧ G.joins f x y := fun f hf => by
   obtain ⟨k1, k2, k3, x, y, hx, hy, hjj⟩ := R.sE f hf
   exact ⟨k1, k2, k3, x, y, (B.nw x).2 (.inl hx), hy.imp_left fun q => (B.nw y).2 (.inl q), hjj⟩
 -- an edge behind the dart that leads up
 obtain ⟨f0, hf0, x0, y0, hx0, hy0, hj0, hle0⟩ := R1.lowB (by have := B.lt; omega)
 have hx0 : New s s1 x0 := hx0
 have hY0 : Y y0 := by
   rcases hy0 with h | h
   · exact h
   rw [h] at hle0; omega
 have hp : ∃ p, Y p ∧ G.adj v p := by
   rcases C.up with ⟨_, h, _⟩ | ⟨hvL, p, hp, hjp, _⟩
   · exact absurd hY0 (h _)
   exact ⟨p, hp, via, hvL, hjp.symm⟩
 obtain ⟨p, hYp, hvp⟩ := hp
 have hL1 : ∀ f ∈ S1, f ∈ G.L := fun f hf => (R1.sE f hf).1
 have hnv1 : ¬ New s s1 v := fun h => hNv.2 h.1
 have hYn : ∀ y, Y y → ¬ New o s1 y := fun y hy h => C.gray y hy h.1
 have hYn1 : ∀ y, Y y → ¬ New s s1 y := fun y hy h => C1.gray y (.inl hy) h.1
 refine ⟨⟨R1.glob.bnd, R1.glob.inj, R1.glob.bv, R1.glob.nd, R1.glob.good, R1.glob.ins1, R1.glob.ins2, R1.glob.ne⟩, B.old, hold, hnew, B.vs.trans R.vmet, ?_, ?_, hseen, hvseen, fun f hf => ?_, hbE, fun x hx hne f hf hi => ?_, fun d' hd' => ?_, fun f hf hv y hy hYy => ?_, ?_, fun f hf y hYy hi => ?_, fun h => ?_, fun f hf z hz => ?_, hconn, hins⟩
 · show s1.stk = _
   rw [R1.stk]
   show s.stk ++ [d / 2] ++ S1 = _
   rw [R.stk]; simp
 · show s1.blk = _
   rw [R1.blk]
   show s.blk ++ B1 = _
   rw [R.blk]; simp
 · rcases List.mem_append.1 hf with hf | hf
   · exact hsES f hf
   rcases List.mem_cons.1 hf with rfl | hf
   · exact ⟨hL, hnl, h2, v, T d, hv1, .inl hw1, hj⟩
   obtain ⟨k1, k2, k3, x, y, hx, hy, hjj⟩ := R1.sE f hf
   have hx : New s s1 x := hx
   refine ⟨k1, k2, fun e => ?_, x, y, (B.nw x).2 (.inr hx), ?_, hjj⟩
   · rcases C.up with ⟨h, _⟩ | ⟨_, q, hq, hjq, _⟩
     · exact h (e ▸ k1)
     rw [e] at hjj
     rcases hjq.of hjj.left with e' | e'
     · exact hYn1 q hq (e' ▸ hx)
     exact hnv1 (e' ▸ hx)
   rcases hy with hy | hy | hy
   · exact .inl ((B.nw y).2 (.inr hy))
   · exact .inr hy
   exact .inl (hy ▸ hv1)
 · rcases (B.nw x).1 hx with h | h
   · rcases R.cov x h hne f hf hi with q | q | q
     · exact .inl ⟨q.1, R1.insO _ q.2⟩
     · exact .inr (.inl (List.mem_append_left _ q))
     exact .inr (.inr (by rw [List.flatten_append]; exact List.mem_append_left _ q))
   rcases R1.covL HD x h f hf hi with q | q | q | q
   · exact .inl q
   · exact .inr (.inl (by rw [q]; simp))
   · exact .inr (.inl (List.mem_append_right _ (List.mem_cons_of_mem _ q)))
   exact .inr (.inr (by rw [List.flatten_append]; exact List.mem_append_right _ q))
 · rcases List.mem_append.1 hd' with h | h
   · rcases R.vcov d' h with q | q | q | q
     · exact .inl ⟨q.1, R1.insO _ q.2⟩
     · exact .inr (.inl q)
     · exact .inr (.inr (.inl (List.mem_append_left _ q)))
     exact .inr (.inr (.inr (by rw [List.flatten_append]; exact List.mem_append_left _ q)))
   rw [List.mem_singleton.1 h]; exact .inr (.inr (.inl (by simp)))
 · rcases List.mem_append.1 hf with hf | hf
   · exact hsrcS f hf hv y hy hYy
   rcases List.mem_cons.1 hf with rfl | hf
   · exact ⟨d, by simp, rfl⟩
   exfalso
   obtain ⟨k1, k2, k3, x, y', hx, hy', hjj⟩ := R1.sE f hf
   have hx : New s s1 x := hx
   have hvy : v = y' := by
     rcases hjj.of hv with e | e
     · exact absurd (e ▸ hx) hnv1
     exact e
   have : y = y' := by
     rcases hjj.of hy with e | e
     · exact absurd (e ▸ hx) (hYn1 y hYy)
     exact e
   rw [this, ← hvy] at hYy
   exact C.gray v hYy C.new
 · show upd s1.low v _ v ≤ s1.met v
   rw [hlv]; exact hlowv
 · show upd s1.low v _ v ≤ s1.met y
   rw [hlv]
   rcases List.mem_append.1 hf with hf | hf
   · have := R.lowA f hf y hYy hi
     rw [hYm y hYy, B.lv]; omega
   rcases List.mem_cons.1 hf with rfl | hf
   · exfalso
     rcases hj.of hi with e | e
     · exact C.gray y hYy (by rw [e]; exact C.new)
     exact C1.gray y (.inl hYy) (by rw [e]; exact h3)
   have := R1.lowA f hf y (.inl hYy) hi
   omega
 · have h : upd s1.low v (min (s1.low v) (s1.low (T d))) v < s1.met v := h
   show ∃ f ∈ _, ∃ x y, _ ∧ _ ∧ _ ∧ s1.met y ≤ upd s1.low v _ v
   rw [hlv] at h ⊢
   by_cases hm : s1.low v ≤ s1.low (T d)
   · obtain ⟨f, hf, x, y, k1, k2, k3, k4⟩ := R.lowB (by rw [← B.lv, ← B.vs]; omega)
     exact ⟨f, List.mem_append_left _ hf, x, y, (B.nw x).2 (.inl k1), k2, k3, by rw [hYm y k2]; have := B.lv; omega⟩
   exact ⟨f0, List.mem_append_right _ (List.mem_cons_of_mem _ hf0), x0, y0, (B.nw x0).2 (.inr hx0), hY0, hj0, by omega⟩
 rcases List.mem_append.1 hf with hf | hf
 · exact houtS f hf z hz
 -- v comes up by its own edge, and by f0
 have hup : v ≠ z → G.Rch (fun x => (New o s1 x ∨ Y x) ∧ x ≠ z) v p := fun hne => Gr.Rch.one ⟨.inl hv1, hne⟩ hvp ⟨.inr hYp, fun e => hYn p hYp (e ▸ hz)⟩
 have hin : ¬ New s s1 z → ∀ x, New s s1 x → G.Rch (fun x => (New o s1 x ∨ Y x) ∧ x ≠ z) (T d) x := fun hnz x hx =>
   Gr.Rch.mono (P := New s s1) (fun y hy => ⟨.inl ((B.nw y).2 (.inr hy)), fun e => hnz (e ▸ hy)⟩) (R1.conn x hx)
 have hf0L : G.adj x0 y0 := ⟨f0, hL1 f0 hf0, hj0⟩
 rcases List.mem_cons.1 hf with rfl | hf
 · by_cases hvz : v = z
   · have hnz : ¬ New s s1 z := hvz ▸ hnv1
     exact ⟨T d, y0, hj.right, fun e => hnz (e ▸ B.wnew), hY0, (hin hnz x0 hx0).step hf0L ⟨.inr hY0, fun e => hYn y0 hY0 (e ▸ hz)⟩⟩
   exact ⟨v, p, hj.left, hvz, hYp, hup hvz⟩
 by_cases hz1 : New s s1 z
 · obtain ⟨a, y, k1, k2, k3, k4⟩ := R1.out f hf z hz1
   have hvz : v ≠ z := fun e => hnv1 (e ▸ hz1)
   have k4' : G.Rch (fun x => (New o s1 x ∨ Y x) ∧ x ≠ z) a y := k4.mono fun x hx => by
     refine ⟨?_, hx.2⟩
     rcases hx.1 with h | h | h
     · exact .inl ((B.nw x).2 (.inr h))
     · exact .inr h
     exact .inl (h ▸ hv1)
   rcases k3 with k3 | k3
   · exact ⟨a, y, k1, k2, k3, k4'⟩
   rw [k3] at k4'
   exact ⟨a, p, k1, k2, hYp, k4'.trans (hup hvz)⟩
 obtain ⟨_, _, _, x, y, hx, hy, hjj⟩ := R1.sE f hf
 have hx : New s s1 x := hx
 have hxz : x ≠ z := fun e => hz1 (e ▸ hx)
 have hback := (hin hz1 x hx).symm
 by_cases hvz : v = z
 · exact ⟨x, y0, hjj.left, hxz, hY0, (hback.trans (hin hz1 x0 hx0)).step hf0L ⟨.inr hY0, fun e => hYn y0 hY0 (e ▸ hz)⟩⟩
 exact ⟨x, p, hjj.left, hxz, hYp, (hback.step hvw.symm ⟨.inl hv1, hvz⟩).trans (hup hvz)⟩
theorem Run.take (HD : Darts G D T) (C : Ctx G Y o v via) (R : Run G T Y o v via dn s S Bs) {d : Int} (hd : d ∈ D v) (h1 : T d ≠ v) (h2 : d / 2 ≠ via) (h3 : s.met (T d) = 0)
   (R1 : Run G T (And1 Y v) (pushed s (d / 2)) (T d) (d / 2) (D (T d)) s1 S1 B1) (hge : ¬ s1.low (T d) < s1.met v) :
   Run G T Y o v via (dn ++ [d]) { s1 with low := upd s1.low v (min (s1.low v) (s1.low (T d))), stk := s.stk, blk := s1.blk ++ [d / 2 :: S1], ins := s1.ins ++ [key (d / 2 :: S1)] } S (Bs ++ B1 ++ [d / 2 :: S1]) := by
 obtain ⟨hL, hj⟩ := HD.mem v d hd
 have C1 := R.child HD C hd h1 h2 h3
 have B := R.behind HD C hd h1 h2 h3 R1
 have hNv := R.newv C
 have hv1 : New o s1 v := (B.nw v).2 (.inl hNv)
 have hw1 : New o s1 (T d) := (B.nw _).2 (.inr B.wnew)
 have hYm : ∀ y, Y y → s1.met y = s.met y := fun y hy => B.met y (C1.gray y (.inl hy))
 have hnl : ¬ G.lp (d / 2) := fun h => by
   rcases hj with ⟨a, b⟩ | ⟨a, b⟩
   · exact h1 (by rw [← a, ← b]; exact h.symm)
   exact h1 (by rw [← a, ← b]; exact h)
 have hlv : upd s1.low v (min (s1.low v) (s1.low (T d))) v = min (s1.low v) (s1.low (T d)) := upd_same _ _ _
 have hold : ∀ x, o.met x ≠ 0 → upd s1.low v (min (s1.low v) (s1.low (T d))) x = o.low x := fun x hx => by
   rw [upd_ne _ _ (fun e => hx (by rw [e]; exact C.new))]
   exact (R1.olow x (by have := R.old x hx; show s.met x ≠ 0; omega)).trans (R.olow x hx)
 have hnew : ∀ x, New o s1 x → o.cnt < s1.met x := fun x hx => by
   rcases (B.nw x).1 hx with h | h
   · rw [B.met x h.2]; exact R.new x h
   have h4 := R1.new x h
   have h5 : (pushed s (d / 2)).cnt = s.cnt := rfl
   have := (R.glob.bnd v).2
   have := R.vmet
   omega
 have hseen : ∀ x y, New o s1 x → x ≠ v → G.adj x y → s1.met y ≠ 0 := fun x y hx hne ha => by
   rcases (B.nw x).1 hx with h | h
   · have := R.seen x y h hne ha
     rw [B.met y this]; exact this
   exact R1.seenL HD x y h ha
 have hvseen : ∀ d' ∈ dn ++ [d], s1.met (T d') ≠ 0 := fun d' hd' => by
   rcases List.mem_append.1 hd' with h | h
   · have := R.vseen d' h
     rw [B.met _ this]; exact this
   rw [List.mem_singleton.1 h]; exact B.wnew.2
 have hbE : ∀ f ∈ (Bs ++ B1).flatten, ∀ x, G.inc f x → New o s1 x := fun f hf x hi => by
   rw [List.flatten_append, List.mem_append] at hf
   rcases hf with h | h
   · exact (B.nw x).2 (.inl (R.bE f h x hi))
   exact (B.nw x).2 (.inr (R1.bE f h x hi))
 have hsrcS : ∀ f ∈ S, G.inc f v → ∀ y, G.inc f y → Y y → ∃ d' ∈ dn ++ [d], d' / 2 = f := fun f hf hv y hy hYy => by
   obtain ⟨d', hd', e⟩ := R.src f hf hv y hy hYy
   exact ⟨d', List.mem_append_left _ hd', e⟩
 have hlowv : min (s1.low v) (s1.low (T d)) ≤ s1.met v := by
   have := R.lowv
   rw [B.vs, B.lv]; omega
 have houtS : ∀ f ∈ S, ∀ z, New o s1 z → ∃ a y, G.inc f a ∧ a ≠ z ∧ Y y ∧ G.Rch (fun x => (New o s1 x ∨ Y x) ∧ x ≠ z) a y := fun f hf z hz => by
   rcases (B.nw z).1 hz with h | h
   · obtain ⟨a, y, k1, k2, k3, k4⟩ := R.out f hf z h
     exact ⟨a, y, k1, k2, k3, k4.mono fun x hx => ⟨hx.1.imp_left fun q => (B.nw x).2 (.inl q), hx.2⟩⟩
   obtain ⟨a, y, k1, k2, k3, k4⟩ := R.out f hf v hNv
   have hz' : ∀ x, New o s x ∨ Y x → x ≠ z := fun x hx e => by
     have h0 : s.met z = 0 := h.1
     rw [← e] at h0
     rcases hx with hx | hx
     · exact hx.2 h0
     exact C1.gray x (.inl hx) h0
   exact ⟨a, y, k1, hz' a k4.first.1, k3, k4.mono fun x hx => ⟨hx.1.imp_left fun q => (B.nw x).2 (.inl q), hz' x hx.1⟩⟩
 have hvw : G.adj v (T d) := ⟨_, hL, hj⟩
 have hconn : ∀ x, New o s1 x → G.Rch (New o s1) v x := fun x hx => by
   rcases (B.nw x).1 hx with h | h
   · exact (R.conn x h).mono fun y hy => (B.nw y).2 (.inl hy)
   exact (Gr.Rch.one hv1 hvw hw1).trans (Gr.Rch.mono (P := New s s1) (fun y hy => (B.nw y).2 (.inr hy)) (R1.conn x h))
 have hins : ∀ q ∈ o.ins, q ∈ s1.ins := fun q hq => R1.insO q (R.insO q hq)
 have hsES : ∀ f ∈ S, f ∈ G.L ∧ ¬ G.lp f ∧ f ≠ via ∧ ∃ x y, New o s1 x ∧ (New o s1 y ∨ Y y) ∧ G.joins f x y := fun f hf => by
   obtain ⟨k1, k2, k3, x, y, hx, hy, hjj⟩ := R.sE f hf
   exact ⟨k1, k2, k3, x, y, (B.nw x).2 (.inl hx), hy.imp_left fun q => (B.nw y).2 (.inl q), hjj⟩
 have hgood := R.block HD C hd h1 h2 h3 R1 hge
 have hends : ∀ f ∈ d / 2 :: S1, ∀ x, G.inc f x → New o s1 x := fun f hf x hi => by
   rcases List.mem_cons.1 hf with rfl | hf
   · rcases hj.of hi with e | e
     · rw [e]; exact hv1
     rw [e]; exact hw1
   obtain ⟨_, _, _, x', y', hx, hy, hjj⟩ := R1.sE f hf
   rcases hjj.of hi with e | e
   · rw [e]; exact (B.nw x').2 (.inr hx)
   rcases hy with hy | hy
   · rw [e]; exact (B.nw y').2 (.inr hy)
   rw [e, R.onlyv HD C hd h1 h2 h3 R1 hge hf hy hjj.right]; exact hv1
 have hnd : (s1.blk.flatten ++ (s.stk ++ d / 2 :: S1)).Nodup := by
   have := R1.glob.nd
   rw [R1.stk] at this
   simpa [pushed] using this
 have hmin : min (s1.low v) (s1.low (T d)) = s.low v := by
   have := R.lowv
   rw [B.vs] at hge
   rw [B.lv]; omega
 refine ⟨⟨R1.glob.bnd, R1.glob.inj, fun f hf x hi => ?_, ?_, R1.glob.good.snoc hgood, fun q hq => ?_, fun b hb => ?_, fun b hb => ?_⟩, B.old, hold, hnew, B.vs.trans R.vmet, R.stk, ?_, hseen, hvseen, hsES, fun f hf x hi => ?_, fun x hx hne f hf hi => ?_, fun d' hd' => ?_, hsrcS, ?_, fun f hf y hYy hi => ?_, fun h => ?_, houtS, hconn, fun q hq => List.mem_append_left _ (hins q hq)⟩
 · have hf : f ∈ (s1.blk ++ [d / 2 :: S1]).flatten := hf
   rw [List.flatten_append, List.mem_append] at hf
   rcases hf with hf | hf
   · exact R1.glob.bv f hf x hi
   exact (hends f (by simpa using hf) x hi).2
 · show ((s1.blk ++ [d / 2 :: S1]).flatten ++ s.stk).Nodup
   rw [List.flatten_append, List.append_assoc]
   refine (List.Perm.nodup_iff (List.Perm.append_left _ ?_)).2 hnd
   simp only [List.flatten_cons, List.flatten_nil, List.append_nil]
   exact List.perm_append_comm
 · rcases List.mem_append.1 hq with h | h
   · rcases R1.glob.ins1 q h with h | ⟨b, hb, e⟩
     · exact .inl h
     exact .inr ⟨b, List.mem_append_left _ hb, e⟩
   exact .inr ⟨_, List.mem_append_right _ (by simp), List.mem_singleton.1 h⟩
 · rcases List.mem_append.1 hb with h | h
   · exact List.mem_append_left _ (R1.glob.ins2 b h)
   rw [List.mem_singleton.1 h]; exact List.mem_append_right _ (by simp)
 · rcases List.mem_append.1 hb with h | h
   · exact R1.glob.ne b h
   rw [List.mem_singleton.1 h]; simp
 · show s1.blk ++ [d / 2 :: S1] = _
   rw [R1.blk]
   show s.blk ++ B1 ++ _ = _
   rw [R.blk]; simp
 · rw [List.flatten_append, List.mem_append] at hf
   rcases hf with hf | hf
   · exact hbE f hf x hi
   exact hends f (by simpa using hf) x hi
 · rcases (B.nw x).1 hx with h | h
   · rcases R.cov x h hne f hf hi with q | q | q
     · exact .inl ⟨q.1, List.mem_append_left _ (R1.insO _ q.2)⟩
     · exact .inr (.inl q)
     exact .inr (.inr (by simp only [List.flatten_append, List.mem_append]; exact .inl (.inl q)))
   rcases R1.covL HD x h f hf hi with q | q | q | q
   · exact .inl ⟨q.1, List.mem_append_left _ q.2⟩
   · exact .inr (.inr (by rw [q]; simp))
   · exact .inr (.inr (by simp [q]))
   exact .inr (.inr (by simp only [List.flatten_append, List.mem_append]; exact .inl (.inr q)))
 · rcases List.mem_append.1 hd' with h | h
   · rcases R.vcov d' h with q | q | q | q
     · exact .inl ⟨q.1, List.mem_append_left _ (R1.insO _ q.2)⟩
     · exact .inr (.inl q)
     · exact .inr (.inr (.inl q))
     exact .inr (.inr (.inr (by simp only [List.flatten_append, List.mem_append]; exact .inl (.inl q))))
   rw [List.mem_singleton.1 h]; exact .inr (.inr (.inr (by simp)))
 · show upd s1.low v _ v ≤ s1.met v
   rw [hlv]; exact hlowv
 · show upd s1.low v _ v ≤ s1.met y
   rw [hlv, hmin, hYm y hYy]; exact R.lowA f hf y hYy hi
 have h : upd s1.low v (min (s1.low v) (s1.low (T d))) v < s1.met v := h
 show ∃ f ∈ _, ∃ x y, _ ∧ _ ∧ _ ∧ s1.met y ≤ upd s1.low v _ v
 rw [hlv, hmin] at h ⊢
 rw [B.vs] at h
 obtain ⟨f, hf, x, y, k1, k2, k3, k4⟩ := R.lowB h
 exact ⟨f, hf, x, y, (B.nw x).2 (.inl k1), k2, k3, by rw [hYm y k2]; exact k4⟩
end
end Go.Proofs.Ytahonnlgkmimlaa.Deep
namespace Go.Proofs.Ytahonnlgkmimlaa.Deep
section
variable {G : Gr} {D : Int → List Int} {T : Int → Int}
theorem split_one {e : Int} {a b c d : List Int} (h : a ++ e :: b = c ++ e :: d) (ha : e ∉ a) (hc : e ∉ c) : a = c ∧ b = d := by
 induction a generalizing c with
 | nil =>
   cases c with
   | nil => simp at h; exact ⟨rfl, h⟩
   | cons x c => simp at h; exact absurd (by rw [h.1]; simp) hc
 | cons x a ih =>
   cases c with
   | nil => simp at h; exact absurd (by rw [h.1]; simp) ha
   | cons y c =>
     simp only [List.cons_append, List.cons.injEq] at h
     obtain ⟨h1, h2⟩ := ih h.2 (fun q => ha (List.mem_cons_of_mem _ q)) (fun q => hc (List.mem_cons_of_mem _ q))
     exact ⟨by rw [h.1, h1], h2⟩
theorem dn_mem {v d : Int} {dn ds : List Int} (h : dn ++ d :: ds = D v) : d ∈ D v ∧ (∀ x ∈ dn, x ∈ D v) := by rw [← h]; exact ⟨by simp, fun x hx => List.mem_append_left _ hx⟩
theorem dn_new (HD : Darts G D T) {v d : Int} {dn ds : List Int} (h : dn ++ d :: ds = D v) : d ∉ dn := by
 have := HD.nodup v
 rw [← h, List.nodup_append] at this
 intro hd
 exact this.2.2 d hd d (by simp) rfl
theorem joins_lp {f x : Int} (h : G.joins f x x) : G.lp f := by rcases h with ⟨a, b⟩ | ⟨a, b⟩ <;> exact a.trans b.symm
theorem loop_run (HD : Darts G D T) {v via : Int} {ds : List Int} {s s' : St} (h : Loop D T v via ds s s') :
   ∀ (Y : Int → Prop) (o : St) (dn S : List Int) (Bs : List (List Int)), Ctx G Y o v via → Run G T Y o v via dn s S Bs → dn ++ ds = D v → ∃ S' Bs', Run G T Y o v via (D v) s' S' Bs' := by
 induction h with
 | nil => intro Y o dn S Bs C R e; rw [List.append_nil] at e; subst e; exact ⟨S, Bs, R⟩
 | @lp v via d ds s s' h1 _ ih =>
   intro Y o dn S Bs C R e
   obtain ⟨hd, _⟩ := dn_mem e
   obtain ⟨hL, hj⟩ := HD.mem v d hd
   rw [h1] at hj
   have hl := joins_lp hj
   refine ih Y o (dn ++ [d]) S Bs C ((R.lp hL hl).more ?_ (.inl ⟨hl, List.mem_append_right _ (by simp)⟩)) (by simpa using e)
   rw [h1]; exact (R.newv C).2
 | @via v via d ds s s' h1 h2 _ ih =>
   intro Y o dn S Bs C R e
   obtain ⟨hd, _⟩ := dn_mem e
   obtain ⟨hL, hj⟩ := HD.mem v d hd
   refine ih Y o (dn ++ [d]) S Bs C (R.more ?_ (.inr (.inl h2))) (by simpa using e)
   rcases C.up with ⟨h, _⟩ | ⟨_, p, hp, hjp, _⟩
   · exact absurd (h2 ▸ hL) h
   rw [h2] at hj
   rcases hjp.of hj.right with q | q
   · rw [q]
     have := C.gray p hp
     rw [R.old p this]; exact this
   exact absurd q h1
 | @keep v via d ds s s1 s' h1 h2 h3 _ h4 _ ih1 ih2 =>
   intro Y o dn S Bs C R e
   obtain ⟨hd, _⟩ := dn_mem e
   have C1 := R.child HD C hd h1 h2 h3
   obtain ⟨S1, B1, R1⟩ := ih1 _ _ [] [] [] C1 (enter_run C1) rfl
   exact ih2 Y o (dn ++ [d]) _ _ C (R.keep HD C hd h1 h2 h3 R1 h4) (by simpa using e)
 | @take v via d ds s s1 s' pre S0 h1 h2 h3 _ h4 h5 h6 _ ih1 ih2 =>
   intro Y o dn S Bs C R e
   obtain ⟨hd, _⟩ := dn_mem e
   have C1 := R.child HD C hd h1 h2 h3
   obtain ⟨S1, B1, R1⟩ := ih1 _ _ [] [] [] C1 (enter_run C1) rfl
   have hst : pre ++ d / 2 :: S0 = s.stk ++ d / 2 :: S1 := by rw [← h5, R1.stk]; simp
   obtain ⟨rfl, rfl⟩ := split_one hst h6 (R.notStk C (HD.mem v d hd).2.right h3 h2)
   exact ih2 Y o (dn ++ [d]) _ _ C (R.take HD C hd h1 h2 h3 R1 h4) (by simpa using e)
 | @back v via d ds s s' h1 h2 h3 h4 _ ih =>
   intro Y o dn S Bs C R e
   obtain ⟨hd, hdn⟩ := dn_mem e
   exact ih Y o (dn ++ [d]) _ _ C (R.back HD C hd hdn (dn_new HD e) h1 h2 h3 h4) (by simpa using e)
 | @skip v via d ds s s' h1 h2 h3 h4 _ ih =>
   intro Y o dn S Bs C R e
   obtain ⟨hd, _⟩ := dn_mem e
   obtain ⟨hL, hj⟩ := HD.mem v d hd
   have hn : New o s (T d) := by
     refine ⟨Classical.byContradiction fun q => h4 ?_, h3⟩
     rw [R.old _ q, R.vmet]
     have := (C.glob.bnd (T d)).2; omega
   refine ih Y o (dn ++ [d]) S Bs C (R.more h3 ?_) (by simpa using e)
   rcases R.cov (T d) hn h1 _ hL hj.right with q | q | q
   · exact .inl q
   · exact .inr (.inr (.inl q))
   exact .inr (.inr (.inr q))
def left (U : List Int) (s : St) : Nat := (U.filter fun x => decide (s.met x = 0)).length
theorem left_le {U : List Int} {s s' : St} (h : ∀ x, s.met x ≠ 0 → s'.met x ≠ 0) : left U s' ≤ left U s := by
 unfold left
 induction U with
 | nil => exact Nat.le_refl _
 | cons x U ih =>
   by_cases h' : s'.met x = 0
   · have : s.met x = 0 := Classical.byContradiction fun q => h x q h'
     simp [h', this]; exact ih
   by_cases h2 : s.met x = 0
   · simp [h', h2]; omega
   simp [h', h2]; exact ih
theorem left_lt {U : List Int} {s s' : St} {v : Int} (h : ∀ x, s.met x ≠ 0 → s'.met x ≠ 0) (hv : v ∈ U) (h0 : s.met v = 0) (h1 : s'.met v ≠ 0) : left U s' < left U s := by
 unfold left
 induction U with
 | nil => simp at hv
 | cons x U ih =>
   have hle := left_le (U := U) h
   unfold left at hle
   by_cases e : x = v
   · subst e; simp [h0, h1]; omega
   have hv' : v ∈ U := (List.mem_cons.1 hv).resolve_left (fun q => e q.symm)
   have := ih hv'
   by_cases h' : s'.met x = 0
   · have : s.met x = 0 := Classical.byContradiction fun q => h x q h'
     simp [h', this]; omega
   by_cases h2 : s.met x = 0
   · simp [h', h2]; omega
   simp [h', h2]; omega
theorem loop_ex (HD : Darts G D T) (U : List Int) (hU : ∀ v d, d ∈ D v → T d ∈ U) : ∀ (n : Nat) (Y : Int → Prop) (o : St) (v via : Int), left U o ≤ n → v ∈ U → Ctx G Y o v via → ∃ s', Loop D T v via (D v) (enter v o) s' := by
 intro n
 induction n with
 | zero =>
   intro Y o v via h hv C
   exfalso
   have : v ∈ U.filter fun x => decide (o.met x = 0) := List.mem_filter.2 ⟨hv, by simpa using C.new⟩
   have h2 := List.length_pos_of_mem this
   unfold left at h; omega
 | succ n ih =>
   intro Y o v via hle hv C
   have inner : ∀ (ds dn S : List Int) (Bs : List (List Int)) (s : St), dn ++ ds = D v → Run G T Y o v via dn s S Bs → ∃ s', Loop D T v via ds s s' := by
     intro ds
     induction ds with
     | nil => intro dn S Bs s _ _; exact ⟨s, .nil⟩
     | cons d ds ih2 =>
       intro dn S Bs s e R
       obtain ⟨hd, hdn⟩ := dn_mem e
       obtain ⟨hL, hj⟩ := HD.mem v d hd
       have e' : (dn ++ [d]) ++ ds = D v := by simpa using e
       by_cases h1 : T d = v
       · have hl : G.lp (d / 2) := by rw [h1] at hj; exact joins_lp hj
         obtain ⟨s', h⟩ := ih2 (dn ++ [d]) S Bs _ e' ((R.lp hL hl).more (by rw [h1]; exact (R.newv C).2) (.inl ⟨hl, List.mem_append_right _ (by simp)⟩))
         exact ⟨s', .lp h1 h⟩
       by_cases h2 : d / 2 = via
       · have hm : s.met (T d) ≠ 0 := by
           rcases C.up with ⟨h, _⟩ | ⟨_, p, hp, hjp, _⟩
           · exact absurd (h2 ▸ hL) h
           rw [h2] at hj
           rcases hjp.of hj.right with q | q
           · rw [q]
             have := C.gray p hp
             rw [R.old p this]; exact this
           exact absurd q h1
         obtain ⟨s', h⟩ := ih2 (dn ++ [d]) S Bs s e' (R.more hm (.inr (.inl h2)))
         exact ⟨s', .via h1 h2 h⟩
       by_cases h3 : s.met (T d) = 0
       · have C1 := R.child HD C hd h1 h2 h3
         have hlt : left U (pushed s (d / 2)) < left U o := by
           refine left_lt (v := v) (fun x hx => ?_) hv C.new (R.newv C).2
           show s.met x ≠ 0
           rw [R.old x hx]; exact hx
         obtain ⟨s1, hl1⟩ := ih _ _ _ _ (by omega) (hU v d hd) C1
         obtain ⟨S1, B1, R1⟩ := loop_run HD hl1 _ _ [] [] [] C1 (enter_run C1) rfl
         by_cases h4 : s1.low (T d) < s1.met v
         · obtain ⟨s', h⟩ := ih2 (dn ++ [d]) _ _ _ e' (R.keep HD C hd h1 h2 h3 R1 h4)
           exact ⟨s', .keep h1 h2 h3 hl1 h4 h⟩
         obtain ⟨s', h⟩ := ih2 (dn ++ [d]) _ _ _ e' (R.take HD C hd h1 h2 h3 R1 h4)
         have hst : s1.stk = s.stk ++ d / 2 :: S1 := by rw [R1.stk]; simp
         exact ⟨s', .take h1 h2 h3 hl1 h4 hst (R.notStk C hj.right h3 h2) h⟩
       by_cases h4 : s.met (T d) < s.met v
       · obtain ⟨s', h⟩ := ih2 (dn ++ [d]) _ _ _ e' (R.back HD C hd hdn (dn_new HD e) h1 h2 h3 h4)
         exact ⟨s', .back h1 h2 h3 h4 h⟩
       have hn : New o s (T d) := by
         refine ⟨Classical.byContradiction fun q => h4 ?_, h3⟩
         rw [R.old _ q, R.vmet]
         have := (C.glob.bnd (T d)).2; omega
       obtain ⟨s', h⟩ := ih2 (dn ++ [d]) S Bs s e' (R.more h3 (by
         rcases R.cov (T d) hn h1 _ hL hj.right with q | q | q
         · exact .inl q
         · exact .inr (.inr (.inl q))
         exact .inr (.inr (.inr q))))
       exact ⟨s', .skip h1 h2 h3 h4 h⟩
   exact inner (D v) [] [] [] _ rfl (enter_run C)
inductive Roots (D : Int → List Int) (T : Int → Int) : List Int → St → St → Prop
 | nil {s} : Roots D T [] s s
 | met {v vs s s'} : s.met v ≠ 0 → Roots D T vs s s' → Roots D T (v :: vs) s s'
 | go {v vs s s1 s'} : s.met v = 0 → Loop D T v (-1) (D v) (enter v s) s1 → Roots D T vs s1 s' → Roots D T (v :: vs) s s'
structure Rest (G : Gr) (s : St) : Prop where
 glob : Glob G s
 stk : s.stk = []
 seen : ∀ x y, s.met x ≠ 0 → G.adj x y → s.met y ≠ 0
 cov : ∀ x, s.met x ≠ 0 → ∀ f ∈ G.L, G.inc f x → (G.lp f ∧ (f, [f]) ∈ s.ins) ∨ f ∈ s.blk.flatten
theorem Rest.ctx {s : St} (R : Rest G s) (h0 : (-1 : Int) ∉ G.L) {v : Int} (hv : s.met v = 0) : Ctx G (fun _ => False) s v (-1) :=
 ⟨R.glob, hv, fun _ h => h.elim, fun x y hx _ ha => R.seen x y hx ha, .inl ⟨h0, fun _ h => h, R.stk⟩, fun f hf => by rw [R.stk] at hf; simp at hf⟩
theorem Rest.next (HD : Darts G D T) {s s1 : St} (R : Rest G s) (h0 : (-1 : Int) ∉ G.L) {v : Int} (hv : s.met v = 0) (h : Loop D T v (-1) (D v) (enter v s) s1) : Rest G s1 ∧ s1.met v ≠ 0 ∧ ∀ x, s.met x ≠ 0 → s1.met x ≠ 0 := by
 have C := R.ctx h0 hv
 obtain ⟨S, Bs, Q⟩ := loop_run HD h _ _ [] [] [] C (enter_run C) rfl
 have hNv := Q.newv C
 have hS : S = [] := by
   cases S with
   | nil => rfl
   | cons f S => obtain ⟨_, y, _, _, hy, _⟩ := Q.out f (by simp) v hNv; exact hy.elim
 have hmono : ∀ x, s.met x ≠ 0 → s1.met x ≠ 0 := fun x hx => by rw [Q.old x hx]; exact hx
 refine ⟨⟨Q.glob, by rw [Q.stk, hS, R.stk]; rfl, fun x y hx ha => ?_, fun x hx f hf hi => ?_⟩, hNv.2, hmono⟩
 · by_cases ho : s.met x = 0
   · exact Q.seenL HD x y ⟨ho, hx⟩ ha
   exact hmono y (R.seen x y ho ha)
 by_cases ho : s.met x = 0
 · rcases Q.covL HD x ⟨ho, hx⟩ f hf hi with q | q | q | q
   · exact .inl q
   · exact absurd (q ▸ hf) h0
   · rw [hS] at q; simp at q
   exact .inr (by rw [Q.blk, List.flatten_append]; exact List.mem_append_right _ q)
 rcases R.cov x ho f hf hi with q | q
 · exact .inl ⟨q.1, Q.insO _ q.2⟩
 exact .inr (by rw [Q.blk, List.flatten_append]; exact List.mem_append_left _ q)
theorem roots_rest (HD : Darts G D T) (h0 : (-1 : Int) ∉ G.L) {vs : List Int} {s s' : St} (h : Roots D T vs s s') (R : Rest G s) : Rest G s' ∧ (∀ v ∈ vs, s'.met v ≠ 0) ∧ ∀ x, s.met x ≠ 0 → s'.met x ≠ 0 := by
 induction h with
 | nil => exact ⟨R, fun _ h => by simp at h, fun _ h => h⟩
 | @met v vs s s' h1 _ ih =>
   obtain ⟨a, b, c⟩ := ih R
   refine ⟨a, fun x hx => ?_, c⟩
   rcases List.mem_cons.1 hx with rfl | hx
   · exact c _ h1
   exact b x hx
 | @go v vs s s1 s' h1 h2 _ ih =>
   obtain ⟨a1, b1, c1⟩ := R.next HD h0 h1 h2
   obtain ⟨a, b, c⟩ := ih a1
   refine ⟨a, fun x hx => ?_, fun x hx => c x (c1 x hx)⟩
   rcases List.mem_cons.1 hx with rfl | hx
   · exact c _ b1
   exact b x hx
theorem roots_ex (HD : Darts G D T) (h0 : (-1 : Int) ∉ G.L) (U : List Int) (hU : ∀ v d, d ∈ D v → T d ∈ U) : ∀ (vs : List Int) (s : St), (∀ v ∈ vs, v ∈ U) → Rest G s → ∃ s', Roots D T vs s s'
 | [], s, _, _ => ⟨s, .nil⟩
 | v :: vs, s, hs, R => by
   by_cases h : s.met v = 0
   · obtain ⟨s1, h1⟩ := loop_ex HD U hU _ _ s v (-1) (Nat.le_refl _) (hs v (by simp)) (R.ctx h0 h)
     obtain ⟨s', h2⟩ := roots_ex HD h0 U hU vs s1 (fun x hx => hs x (List.mem_cons_of_mem _ hx)) (R.next HD h0 h h1).1
     exact ⟨s', .go h h1 h2⟩
   obtain ⟨s', h2⟩ := roots_ex HD h0 U hU vs s (fun x hx => hs x (List.mem_cons_of_mem _ hx)) R
   exact ⟨s', .met h h2⟩
def St.zero : St := ⟨fun _ => 0, fun _ => 0, 0, [], [], []⟩
theorem rest_zero : Rest G St.zero := by
 refine ⟨⟨fun x => ⟨Int.le_refl _, Int.le_refl _⟩, fun x y h => absurd rfl h, fun f hf => ?_, ?_, tv, fun q hq => ?_, fun b hb => ?_, fun b hb => ?_⟩, rfl, fun x y h => absurd rfl h, fun x h => absurd rfl h⟩
 · simp [St.zero] at hf
 · simp [St.zero]
 · simp [St.zero] at hq
 · simp [St.zero] at hb
 simp [St.zero] at hb
theorem same_of_tog : ∀ {bs : List (List Int)} {earlier : List Int}, AllGood G earlier bs → (earlier ++ bs.flatten).Nodup → ∀ {f g : Int}, f ∈ bs.flatten → g ∈ bs.flatten → (∀ z, (∃ e ∈ G.L, G.inc e z) → Tog G z f g) → ∃ b ∈ bs, f ∈ b ∧ g ∈ b
 | [], _, _, _, f, g, hf, _, _ => by simp at hf
 | b :: bs, earlier, hA, hn, f, g, hf, hg, ht => by
   obtain ⟨⟨p, N, hp, ⟨fp, hfp, hip⟩, he, hst, hcov, _⟩, hA'⟩ := hA
   have hkey : ∀ f g, f ∈ b → g ∈ bs.flatten → (∀ z, (∃ e ∈ G.L, G.inc e z) → Tog G z f g) → False := by
     intro f g hf hg ht
     obtain ⟨x, y, hix, hxp, hiy, hyp, hr⟩ := ht p ⟨fp, (he fp hfp).1, hip⟩
     have hx : N x := by
       obtain ⟨_, _, x', y', hx', hy', hj⟩ := he f hf
       rcases hj.of hix with e | e
       · exact e ▸ hx'
       rcases hy' with h | h
       · exact e ▸ h
       exact absurd (e.trans h) hxp
     have hy : N y := Gr.Rch.closed (P := (· ≠ p)) (Q := N) (fun u w hu ha hw => (hst u w hu ha).resolve_right hw) hr hx
     obtain ⟨b', hb', hgb⟩ := List.mem_flatten.1 hg
     have hgood : ∀ {bs : List (List Int)} {e : List Int}, AllGood G e bs → ∀ b ∈ bs, ∀ g ∈ b, g ∈ G.L ∧ ¬ G.lp g := by
       intro bs
       induction bs with
       | nil => intro e _ b hb; simp at hb
       | cons c bs ih =>
         intro e h b hb g hg
         rcases List.mem_cons.1 hb with rfl | hb
         · obtain ⟨_, _, _, _, h3, _⟩ := h.1
           exact ⟨(h3 g hg).1, (h3 g hg).2.1⟩
         exact ih h.2 b hb g hg
     obtain ⟨hgL, hgl⟩ := hgood hA' b' hb' g hgb
     rw [List.flatten_cons] at hn
     rw [List.nodup_append] at hn
     obtain ⟨_, hn2, hn3⟩ := hn
     rw [List.nodup_append] at hn2
     rcases hcov y hy g hgL hiy with q | q | q
     · exact hgl q
     · exact hn2.2.2 g q g hg rfl
     exact hn3 g q g (List.mem_append_right _ hg) rfl
   rw [List.flatten_cons, List.mem_append] at hf hg
   rcases hf with hf | hf
   · rcases hg with hg | hg
     · exact ⟨b, by simp, hf, hg⟩
     exact (hkey f g hf hg ht).elim
   rcases hg with hg | hg
   · refine (hkey g f hg hf fun z hz => ?_).elim
     obtain ⟨a, c, h1, h2, h3, h4, h5⟩ := ht z hz
     exact ⟨c, a, h3, h4, h1, h2, h5.symm⟩
   obtain ⟨b', hb', h1, h2⟩ := same_of_tog hA' (by rw [List.append_assoc, ← List.flatten_cons]; exact hn) hf hg ht
   exact ⟨b', List.mem_cons_of_mem _ hb', h1, h2⟩
theorem good_of : ∀ {bs : List (List Int)} {e : List Int}, AllGood G e bs → ∀ b ∈ bs, (∀ f ∈ b, f ∈ G.L ∧ ¬ G.lp f) ∧ ∀ f ∈ b, ∀ g ∈ b, ∀ z, Tog G z f g
 | [], _, _, b, hb => by simp at hb
 | c :: bs, e, h, b, hb => by
   rcases List.mem_cons.1 hb with rfl | hb
   · obtain ⟨_, _, _, _, h3, _, _, h4⟩ := h.1
     exact ⟨fun g hg => ⟨(h3 g hg).1, (h3 g hg).2.1⟩, h4⟩
   exact good_of h.2 b hb
end
end Go.Proofs.Ytahonnlgkmimlaa.Deep
namespace Go.Proofs.Ytahonnlgkmimlaa
open Go.RowKit
abbrev Asc (l : List Int) : Prop := l.Pairwise (· < ·)
theorem rises_iff {l : List Int} {n : Int} : risesP l n ↔ Asc l ∧ ∀ x ∈ l, 0 ≤ x ∧ x < n := by
 constructor
 · intro h
   refine ⟨List.pairwise_iff_getElem.2 fun i j hi hj hij => ?_, fun x hx => ?_⟩
   · have := rises_lt h hij hj
     simpa [List.getD_eq_getElem?_getD, List.getElem?_eq_getElem hi, List.getElem?_eq_getElem hj] using this
   obtain ⟨j, hj, rfl⟩ := mem_getD.1 hx
   have := h j hj; omega
 rintro ⟨h1, h2⟩ j hj
 have hm := h2 (l.getD j 0) (mem_getD.2 ⟨j, hj, rfl⟩)
 refine ⟨hm.1, hm.2, fun h0 => ?_⟩
 have := List.pairwise_iff_getElem.1 h1 (j - 1) j (by omega) hj (by omega)
 simpa [List.getD_eq_getElem?_getD, List.getElem?_eq_getElem hj, List.getElem?_eq_getElem (show j - 1 < l.length by omega)] using this
theorem asc_ext {l m : List Int} (hl : Asc l) (hm : Asc m) (h : ∀ x, x ∈ l ↔ x ∈ m) : l = m := by
 induction l generalizing m with
 | nil =>
   cases m with
   | nil => rfl
   | cons b m => exact absurd ((h b).2 List.mem_cons_self) (by simp)
 | cons a l ih =>
   cases m with
   | nil => exact absurd ((h a).1 List.mem_cons_self) (by simp)
   | cons b m =>
     obtain ⟨a1, a2⟩ := List.pairwise_cons.1 hl
     obtain ⟨b1, b2⟩ := List.pairwise_cons.1 hm
     have e : a = b := by
       rcases List.mem_cons.1 ((h a).1 List.mem_cons_self) with q | q
       · exact q
       rcases List.mem_cons.1 ((h b).2 List.mem_cons_self) with p | p
       · exact p.symm
       have := b1 a q; have := a1 b p; omega
     subst e
     congr 1
     refine ih a2 b2 fun x => ⟨fun hx => ?_, fun hx => ?_⟩
     · rcases List.mem_cons.1 ((h x).1 (List.mem_cons_of_mem _ hx)) with q | q
       · subst q; have := a1 x hx; omega
       exact q
     rcases List.mem_cons.1 ((h x).2 (List.mem_cons_of_mem _ hx)) with q | q
     · subst q; have := b1 x hx; omega
     exact q
theorem upto_asc (n : Int) : Asc (upto n) := by
 unfold upto
 rw [Asc, List.pairwise_map]
 exact List.pairwise_lt_range.imp fun h => by omega
theorem compact_upTo {d : Array Int} (hs : ∀ j, j + 1 < d.size → d[j]! ≤ d[j + 1]!) : ∀ m, m ≤ d.size → Asc (Lib.compactUpTo d m) ∧ (∀ x, x ∈ Lib.compactUpTo d m ↔ ∃ j, j < m ∧ d[j]! = x) ∧ (∀ x ∈ Lib.compactUpTo d m, ∀ j, m = j + 1 → x ≤ d[j]!)
 | 0, _ => ⟨by simp [Lib.compactUpTo], fun x => by simp [Lib.compactUpTo], fun x hx j hj => by omega⟩
 | m + 1, hm => by
   obtain ⟨h1, h2, h3⟩ := compact_upTo hs m (by omega)
   rw [Lib.compactUpTo_succ]
   have hle : ∀ x ∈ Lib.compactUpTo d m, x ≤ d[m]! := fun x hx => by
     cases m with
     | zero => exact absurd ((h2 x).1 hx) (by simp)
     | succ k => have := h3 x hx k rfl; have := hs k (by omega); omega
   by_cases hk : Lib.keeps d m = true
   · rw [if_pos hk]
     have hlt : ∀ x ∈ Lib.compactUpTo d m, x < d[m]! := fun x hx => by
       cases m with
       | zero => exact absurd ((h2 x).1 hx) (by simp)
       | succ k =>
         have a := h3 x hx k rfl; have b := hs k (by omega)
         have : d[k + 1]! ≠ d[k]! := by
           have := of_decide_eq_true hk
           rcases this with q | q
           · omega
           simpa using q
         omega
     refine ⟨List.pairwise_append.2 ⟨h1, by simp, fun x hx y hy => by simp at hy; subst hy; exact hlt x hx⟩, fun x => ?_, fun x hx j hj => ?_⟩
     · rw [List.mem_append, h2]
       constructor
       · rintro (⟨j, hj, e⟩ | q)
         · exact ⟨j, by omega, e⟩
         simp at q; exact ⟨m, by omega, q.symm⟩
       rintro ⟨j, hj, e⟩
       by_cases q : j = m
       · subst q; exact .inr (by simp [e])
       exact .inl ⟨j, by omega, e⟩
     obtain rfl : j = m := by omega
     rcases List.mem_append.1 hx with q | q
     · exact hle x q
     simp at q; omega
   rw [if_neg hk, List.append_nil]
   have hm0 : 0 < m := by
     rcases Nat.eq_zero_or_pos m with q | q
     · subst q; exact absurd (decide_eq_true (Or.inl rfl)) hk
     exact q
   have he : d[m]! = d[m - 1]! := Classical.byContradiction fun q => hk (decide_eq_true (Or.inr q))
   refine ⟨h1, fun x => ?_, fun x hx j hj => ?_⟩
   · rw [h2]
     constructor
     · rintro ⟨j, hj, e⟩; exact ⟨j, by omega, e⟩
     rintro ⟨j, hj, e⟩
     by_cases q : j = m
     · subst q; exact ⟨j - 1, by omega, by rw [← he]; exact e⟩
     exact ⟨j, by omega, e⟩
   obtain rfl : j = m := by omega
   exact hle x hx
theorem compact_sort (l : List Int) : Asc (Lib.compact (sortL l)) ∧ ∀ x, x ∈ Lib.compact (sortL l) ↔ x ∈ l := by
 have hp : (sortL l).Pairwise (· ≤ ·) := by
   have := List.pairwise_mergeSort (le := fun x y : Int => decide (x ≤ y)) (fun a b c h1 h2 => by simp only [decide_eq_true_eq] at *; omega) (fun a b => by simp only [Bool.or_eq_true, decide_eq_true_eq]; omega) l
   exact this.imp fun h => of_decide_eq_true h
 have hs : ∀ j, j + 1 < (sortL l).toArray.size → (sortL l).toArray[j]! ≤ (sortL l).toArray[j + 1]! := fun j hj => by
   rw [getElem!_pos _ j (by omega), getElem!_pos _ (j + 1) hj]
   exact List.pairwise_iff_getElem.1 hp j (j + 1) (by simpa using (by omega : j < (sortL l).toArray.size)) (by simpa using hj) (by omega)
 obtain ⟨h1, h2, _⟩ := compact_upTo hs (sortL l).length (by simp)
 refine ⟨h1, fun x => ?_⟩
 refine (h2 x).trans ?_
 have hperm : ∀ x, x ∈ sortL l ↔ x ∈ l := fun x => List.mem_mergeSort
 rw [← hperm, List.mem_iff_getElem]
 constructor
 · rintro ⟨j, hj, e⟩
   rw [getElem!_pos _ j (by simpa using hj)] at e
   exact ⟨j, hj, by simpa using e⟩
 rintro ⟨j, hj, e⟩
 exact ⟨j, hj, by rw [getElem!_pos _ j (by simpa using hj)]; simpa using e⟩
theorem mem_endsL {E : List (Int × Int)} {L : List Int} {x : Int} : x ∈ endsL E L ↔ ∃ e ∈ L, touchP E e x := by
 unfold endsL touchP
 simp only [List.mem_flatMap, List.mem_cons, List.not_mem_nil, or_false]
 constructor <;> rintro ⟨e, he, h⟩ <;> exact ⟨e, he, by rcases h with h | h; exact .inl h.symm; exact .inr h.symm⟩
theorem touchB_iff {E : List (Int × Int)} {L : List Int} {v : Int} : touchB E L v = true ↔ ∃ e ∈ L, touchP E e v := by
 unfold touchB
 rw [decide_eq_true_eq]
 constructor
 · rintro ⟨j, hj, h⟩; exact ⟨_, mem_getD.2 ⟨j, hj, rfl⟩, h⟩
 rintro ⟨e, he, h⟩; obtain ⟨j, hj, rfl⟩ := mem_getD.1 he; exact ⟨j, hj, h⟩
theorem okEs_at {n : Int} {E : List (Int × Int)} (h : okEs n E) {e : Int} (h0 : 0 ≤ e) (h1 : e < (E.length : Int)) : okE n (E.getD e.toNat (0, 0)) := h e.toNat (by omega)
theorem touch_bound {n : Int} {E : List (Int × Int)} {L : List Int} (hE : okEs n E) (hL : risesP L (E.length : Int)) {e v : Int} (he : e ∈ L) (h : touchP E e v) : 0 ≤ v ∧ v < n := by
 have hb := (rises_iff.1 hL).2 e he
 have := okEs_at hE hb.1 hb.2
 unfold okE at this; unfold touchP at h; omega
theorem span_touch {n : Int} {E : List (Int × Int)} {L : List Int} (hE : okEs n E) (hL : risesP L (E.length : Int)) : Lib.compact (sortL (endsL E L)) = touchL E L n := by
 obtain ⟨h1, h2⟩ := compact_sort (endsL E L)
 refine asc_ext h1 ((upto_asc n).sublist List.filter_sublist) fun x => ?_
 rw [h2, mem_endsL]
 unfold touchL
 rw [List.mem_filter, touchB_iff, mem_upto]
 exact ⟨fun ⟨e, he, h⟩ => ⟨touch_bound hE hL he h, e, he, h⟩, fun h => h.2⟩
theorem mem_dartsL {E : List (Int × Int)} {L : List Int} {v d : Int} : d ∈ dartsL E L v ↔ d / 2 ∈ L ∧ tailE E d = v := by
 unfold dartsL dartsFrom
 simp only [List.mem_flatMap, List.mem_append]
 constructor
 · rintro ⟨e, he, h⟩
   rcases h with h | h
   · split at h
     · rename_i q; simp at h; subst h; refine ⟨by rw [show (2 * e) / 2 = e by omega]; exact he, ?_⟩
       have := q.2; rw [show 2 * e + 0 = 2 * e by omega] at this; exact this
     simp at h
   split at h
   · rename_i q; simp at h; subst h; exact ⟨by rw [show (2 * e + 1) / 2 = e by omega]; exact he, q.2⟩
   simp at h
 rintro ⟨he, h⟩
 refine ⟨d / 2, he, ?_⟩
 by_cases c : d % 2 = 0
 · left; rw [if_pos ⟨by omega, by rw [show 2 * (d / 2) + 0 = d by omega]; exact h⟩]; simp; omega
 right; rw [if_pos ⟨by omega, by rw [show 2 * (d / 2) + 1 = d by omega]; exact h⟩]; simp; omega
theorem mem_dartsFrom {E : List (Int × Int)} {e v s d : Int} (h : d ∈ dartsFrom E e v s) : d = 2 * e ∨ d = 2 * e + 1 := by
 unfold dartsFrom at h
 rcases List.mem_append.1 h with h | h <;> split at h <;> simp at h <;> omega
theorem dartsFrom_asc (E : List (Int × Int)) (e v s : Int) : Asc (dartsFrom E e v s) := by
 unfold dartsFrom
 split <;> split <;> simp <;> omega
theorem dartsL_rises {E : List (Int × Int)} {L : List Int} {v m : Int} (h : risesP L m) : risesP (dartsL E L v) (2 * m) := by
 obtain ⟨h1, h2⟩ := rises_iff.1 h
 refine rises_iff.2 ⟨?_, fun x hx => by have := h2 _ (mem_dartsL.1 hx).1; omega⟩
 unfold dartsL
 rw [Asc, List.pairwise_flatMap]
 refine ⟨fun e _ => dartsFrom_asc E e v 0, h1.imp fun hab x hx y hy => ?_⟩
 have := mem_dartsFrom hx; have := mem_dartsFrom hy; omega
abbrev awE : List (Int × Int) := [(0, 1), (1, 1)]
theorem part_iff {n : Int} {E : List (Int × Int)} {V L : List Int} : partE n E V L = 0 ↔ rightE n E = 0 ∧ risesP V n ∧ risesP L (E.length : Int) ∧ ∀ e ∈ L, ∀ v, touchP E e v → v ∈ V := by
 constructor
 · intro h
   obtain ⟨h1, h2, h3, h4⟩ := partE_0 h
   refine ⟨h1, h2, h3, fun e he v hv => ?_⟩
   obtain ⟨j, hj, rfl⟩ := mem_getD.1 he
   have := h4 j hj
   rw [hasB_mem h2, hasB_mem h2, decide_eq_true_eq, decide_eq_true_eq] at this
   rcases hv with rfl | rfl
   · exact this.1
   exact this.2
 rintro ⟨h1, h2, h3, h4⟩
 unfold partE
 rw [if_neg (by omega), if_neg (fun q => q.elim (fun q => q h2) (fun q => q h3)), if_pos]
 intro j hj
 rw [hasB_mem h2, hasB_mem h2]
 have hm := mem_getD.2 ⟨j, hj, rfl⟩
 exact ⟨decide_eq_true (h4 _ hm _ (.inl rfl)), decide_eq_true (h4 _ hm _ (.inr rfl))⟩
theorem rises_sub {l m : List Int} {n : Int} (h : Asc l) (hm : risesP m n) (hs : ∀ x ∈ l, x ∈ m) : risesP l n := rises_iff.2 ⟨h, fun x hx => (rises_iff.1 hm).2 x (hs x hx)⟩
theorem touchL_rises {E : List (Int × Int)} {L : List Int} {n : Int} : risesP (touchL E L n) n := rises_iff.2 ⟨(upto_asc n).sublist List.filter_sublist, fun x hx => mem_upto.1 (List.mem_filter.1 hx).1⟩
end Go.Proofs.Ytahonnlgkmimlaa
namespace Go.Proofs.Ytahonnlgkmimlaa
open Go.Proofs.Ytahonnlgkmimlaa.Deep
def eA (E : List (Int × Int)) (f : Int) : Int := (E.getD f.toNat (0, 0)).1
def eB (E : List (Int × Int)) (f : Int) : Int := (E.getD f.toNat (0, 0)).2
abbrev grE (E : List (Int × Int)) (L : List Int) : Gr := ⟨L, eA E, eB E⟩
def headE (E : List (Int × Int)) (d : Int) : Int := if d % 2 = 0 then eB E (d / 2) else eA E (d / 2)
theorem tail_eA {E : List (Int × Int)} {d : Int} : tailE E d = if d % 2 = 0 then eA E (d / 2) else eB E (d / 2) := rfl
theorem asc_nodup {l : List Int} (h : Asc l) : l.Nodup := h.imp fun h e => by omega
theorem darts_ok {E : List (Int × Int)} {L : List Int} {m : Int} (hL : risesP L m) : Darts (grE E L) (dartsL E L) (headE E) := by
 have hj : ∀ v d, d ∈ dartsL E L v → (grE E L).joins (d / 2) v (headE E d) := fun v d hd => by
   obtain ⟨h1, h2⟩ := mem_dartsL.1 hd
   rw [tail_eA] at h2
   unfold headE Gr.joins
   split at h2
   · rename_i h; rw [if_pos h]; exact .inl ⟨h2, rfl⟩
   rename_i h; rw [if_neg h]; exact .inr ⟨rfl, h2⟩
 refine ⟨fun v d hd => ⟨(mem_dartsL.1 hd).1, hj v d hd⟩, fun f x hf hi => ?_, fun v d d' h1 h2 he hne => ?_, fun v => asc_nodup (rises_iff.1 (dartsL_rises hL)).1⟩
 · rcases hi with h | h
   · refine ⟨2 * f, mem_dartsL.2 ⟨by rw [show 2 * f / 2 = f by omega]; exact hf, ?_⟩, by omega⟩
     rw [tail_eA, if_pos (by omega), show 2 * f / 2 = f by omega]; exact h
   refine ⟨2 * f + 1, mem_dartsL.2 ⟨by rw [show (2 * f + 1) / 2 = f by omega]; exact hf, ?_⟩, by omega⟩
   rw [tail_eA, if_neg (by omega), show (2 * f + 1) / 2 = f by omega]; exact h
 refine Classical.byContradiction fun hd => hne ?_
 have t1 := (mem_dartsL.1 h1).2
 have t2 := (mem_dartsL.1 h2).2
 rw [tail_eA] at t1 t2
 unfold headE
 by_cases c : d % 2 = 0
 · rw [if_neg (by omega), ← he] at t2
   rw [if_pos c]; exact t2
 rw [if_pos (by omega), ← he] at t2
 rw [if_neg c]; exact t2
def spStep (E : List (Int × Int)) (but : Int) (i : Nat) (m : List Int) (e : Int) : List Int :=
 let m1 := if eA E e = m.getD i 0 ∧ eB E e ≠ but ∧ eB E e ∉ m then m ++ [eB E e] else m
 if eB E e = m1.getD i 0 ∧ eA E e ≠ but ∧ eA E e ∉ m1 then m1 ++ [eA E e] else m1
def spRound (E : List (Int × Int)) (but : Int) (i : Nat) (l : List Int) (m : List Int) : List Int := l.foldl (spStep E but i) m
def spF (E : List (Int × Int)) (L : List Int) (but : Int) : Nat → Nat → List Int → List Int
 | 0, _, m => m
 | f + 1, i, m => if i < m.length then spF E L but f (i + 1) (spRound E but i L m) else m
def spread (E : List (Int × Int)) (L : List Int) (a but : Int) : List Int := spF E L but (2 * L.length + 1) 0 [a]
def spAdd (but : Int) (i : Nat) (m : List Int) (x y : Int) : List Int := if x = m.getD i 0 ∧ y ≠ but ∧ y ∉ m then m ++ [y] else m
theorem spStep_eq (E : List (Int × Int)) (but : Int) (i : Nat) (m : List Int) (e : Int) : spStep E but i m e = spAdd but i (spAdd but i m (eA E e) (eB E e)) (eB E e) (eA E e) := rfl
structure Sp (G : Gr) (a but : Int) (U : List Int) (m : List Int) : Prop where
 nd : m.Nodup
 fst : a ∈ m
 rch : ∀ x ∈ m, G.Rch (· ≠ but) a x
 sub : ∀ x ∈ m, x ∈ U
theorem sp_add {G : Gr} {a but : Int} {U m : List Int} {i : Nat} {x y e : Int} (h : Sp G a but U m) (he : e ∈ G.L) (hj : G.joins e x y) (hy : y ∈ U) (hi : i < m.length) :
   Sp G a but U (spAdd but i m x y) ∧ (∃ r, spAdd but i m x y = m ++ r) ∧ (x = m.getD i 0 → y ≠ but → y ∈ spAdd but i m x y) := by
 unfold spAdd
 split
 · rename_i c
   refine ⟨⟨?_, List.mem_append_left _ h.fst, fun z hz => ?_, fun z hz => ?_⟩, ⟨_, rfl⟩, fun _ _ => by simp⟩
   · rw [List.nodup_append]
     exact ⟨h.nd, by simp, fun p hp q hq e => c.2.2 (by rw [List.mem_singleton.1 hq] at e; exact e ▸ hp)⟩
   · rcases List.mem_append.1 hz with hz | hz
     · exact h.rch z hz
     rw [List.mem_singleton.1 hz]
     exact (h.rch x (c.1 ▸ mem_getD.2 ⟨i, hi, rfl⟩)).step ⟨e, he, hj⟩ c.2.1
   rcases List.mem_append.1 hz with hz | hz
   · exact h.sub z hz
   rw [List.mem_singleton.1 hz]; exact hy
 rename_i c
 refine ⟨h, ⟨[], by simp⟩, fun h1 h2 => Classical.byContradiction fun h3 => c ⟨h1, h2, h3⟩⟩
theorem getD_app {m r : List Int} {i : Nat} (h : i < m.length) : (m ++ r).getD i 0 = m.getD i 0 := by
 rw [List.getD_eq_getElem?_getD, List.getD_eq_getElem?_getD, List.getElem?_append_left h]
theorem sp_round {E : List (Int × Int)} {L : List Int} {a but : Int} {U : List Int} (hU : ∀ e ∈ L, eA E e ∈ U ∧ eB E e ∈ U) {i : Nat} : ∀ {l : List Int} {m : List Int}, (∀ e ∈ l, e ∈ L) → Sp (grE E L) a but U m → i < m.length →
   Sp (grE E L) a but U (spRound E but i l m) ∧ (∃ r, spRound E but i l m = m ++ r) ∧ (∀ e ∈ l, ∀ y, (grE E L).joins e (m.getD i 0) y → y ≠ but → y ∈ spRound E but i l m)
 | [], m, _, h, _ => ⟨h, ⟨[], by simp [spRound]⟩, fun e he => by simp at he⟩
 | e :: l, m, hs, h, hi => by
   have he := hs e (by simp)
   obtain ⟨h1, ⟨r1, e1⟩, k1⟩ := sp_add (G := grE E L) (e := e) (i := i) (x := eA E e) (y := eB E e) h he (.inl ⟨rfl, rfl⟩) (hU e he).2 hi
   have hi1 : i < (spAdd but i m (eA E e) (eB E e)).length := by rw [e1, List.length_append]; omega
   obtain ⟨h2, ⟨r2, e2⟩, k2⟩ := sp_add (G := grE E L) (e := e) (i := i) (x := eB E e) (y := eA E e) h1 he (.inr ⟨rfl, rfl⟩) (hU e he).1 hi1
   have hi2 : i < (spStep E but i m e).length := by rw [spStep_eq, e2, List.length_append]; omega
   obtain ⟨h3, ⟨r3, e3⟩, k3⟩ := sp_round hU (l := l) (m := spStep E but i m e) (i := i) (fun x hx => hs x (List.mem_cons_of_mem _ hx)) h2 hi2
   have hpre : ∀ x, x ∈ spStep E but i m e → x ∈ spRound E but i (e :: l) m := fun x hx => by
     show x ∈ spRound E but i l (spStep E but i m e)
     rw [e3]; exact List.mem_append_left _ hx
   have hg1 : (spAdd but i m (eA E e) (eB E e)).getD i 0 = m.getD i 0 := by rw [e1]; exact getD_app hi
   have hg2 : (spStep E but i m e).getD i 0 = m.getD i 0 := by rw [spStep_eq, e2, getD_app hi1, hg1]
   refine ⟨h3, ⟨r1 ++ r2 ++ r3, ?_⟩, fun f hf y hj hy => ?_⟩
   · show spRound E but i l (spStep E but i m e) = _
     rw [e3, spStep_eq, e2, e1]; simp
   rcases List.mem_cons.1 hf with rfl | hf
   · refine hpre y ?_
     rw [spStep_eq]
     rcases hj with ⟨p, q⟩ | ⟨p, q⟩
     · have := k1 p (by rw [show eB E f = y from q]; exact hy)
       rw [show eB E f = y from q] at this
       rw [e2]
       rw [show eB E f = y from q]
       exact List.mem_append_left _ this
     have := k2 (by rw [hg1]; exact q) (by rw [show eA E f = y from p]; exact hy)
     rw [show eA E f = y from p] at this ⊢
     exact this
   exact k3 f hf y (by rw [hg2]; exact hj) hy
theorem sp_all {E : List (Int × Int)} {L : List Int} {a but : Int} {U : List Int} (hU : ∀ e ∈ L, eA E e ∈ U ∧ eB E e ∈ U) : ∀ (f i : Nat) (m : List Int), Sp (grE E L) a but U m → U.length ≤ i + f → (∀ j, j < i → j < m.length → ∀ y, (grE E L).adj (m.getD j 0) y → y ≠ but → y ∈ m) → i ≤ m.length →
   Sp (grE E L) a but U (spF E L but f i m) ∧ (∀ x ∈ spF E L but f i m, ∀ y, (grE E L).adj x y → y ≠ but → y ∈ spF E L but f i m)
 | 0, i, m, h, hf, hc, hi => by
   have hle : m.length ≤ U.length := by
     have := h.nd.length_le_of_subset h.sub
     exact this
   refine ⟨h, fun x hx y ha hy => ?_⟩
   have hx : x ∈ m := hx
   obtain ⟨j, hj, e⟩ := mem_getD.1 hx
   exact hc j (by omega) hj y (by rw [e]; exact ha) hy
 | f + 1, i, m, h, hf, hc, hi => by
   unfold spF
   split
   · rename_i hlt
     obtain ⟨h1, ⟨r, e1⟩, h3⟩ := sp_round (i := i) hU (l := L) (fun _ h => h) h hlt
     refine sp_all hU f (i + 1) _ h1 (by omega) (fun j hj hj' y ha hy => ?_) (by rw [e1, List.length_append]; omega)
     by_cases c : j = i
     · subst c
       have hg : (spRound E but j L m).getD j 0 = m.getD j 0 := by rw [e1]; exact getD_app hlt
       rw [hg] at ha
       obtain ⟨e, he, hj⟩ := ha
       exact h3 e he y hj hy
     have hg : (spRound E but i L m).getD j 0 = m.getD j 0 := by rw [e1]; exact getD_app (by omega)
     rw [hg] at ha
     rw [e1]
     exact List.mem_append_left _ (hc j (by omega) (by omega) y ha hy)
   refine ⟨h, fun x hx y ha hy => ?_⟩
   obtain ⟨j, hj, e⟩ := mem_getD.1 hx
   exact hc j (by omega) hj y (by rw [e]; exact ha) hy
theorem endsL_len (E : List (Int × Int)) : ∀ L : List Int, (endsL E L).length = 2 * L.length
 | [] => rfl
 | x :: l => by
   have h : endsL E (x :: l) = [(E.getD x.toNat (0, 0)).1, (E.getD x.toNat (0, 0)).2] ++ endsL E l := rfl
   rw [h, List.length_append, endsL_len E l]; simp; omega
theorem spread_iff {E : List (Int × Int)} {L : List Int} {a but x : Int} (ha : a ≠ but) (haU : a ∈ endsL E L) : x ∈ spread E L a but ↔ (grE E L).Rch (· ≠ but) a x := by
 have hU : ∀ e ∈ L, eA E e ∈ endsL E L ∧ eB E e ∈ endsL E L := fun e he => ⟨mem_endsL.2 ⟨e, he, .inl rfl⟩, mem_endsL.2 ⟨e, he, .inr rfl⟩⟩
 have hlen := endsL_len E L
 obtain ⟨h1, h2⟩ := sp_all (a := a) (but := but) hU (2 * L.length + 1) 0 [a] ⟨by simp, by simp, fun x hx => by rw [List.mem_singleton.1 hx]; exact .refl ha, fun x hx => by rw [List.mem_singleton.1 hx]; exact haU⟩ (by omega) (fun j hj => by omega) (by simp)
 exact ⟨fun h => h1.rch x h, fun h => Gr.Rch.closed (P := (· ≠ but)) (Q := fun x => x ∈ spread E L a but) (fun u w hu hadj hw => h2 u hu w hadj hw) h h1.fst⟩
def otherE (E : List (Int × Int)) (e v : Int) : Int := if eA E e = v then eB E e else eA E e
def apartB (E : List (Int × Int)) (L : List Int) (v e f : Int) : Bool :=
 if e = f then false else if (eA E e = v ∧ eB E e = v) ∨ (eA E f = v ∧ eB E f = v) then true else !(decide (otherE E f v ∈ spread E L (otherE E e v) v))
def togB (E : List (Int × Int)) (V L : List Int) (e f : Int) : Bool := decide (∀ j, j < V.length → apartB E L (V.getD j 0) e f = false)
def classL (E : List (Int × Int)) (V L : List Int) (e : Int) : List Int := L.filter (togB E V L e)
def blocksL (n : Int) (E : List (Int × Int)) (V L : List Int) : List (List Int × List Int) :=
 (L.filter fun e => decide ((classL E V L e).getD 0 0 = e)).map fun e => (touchL E (classL E V L e) n, classL E V L e)
theorem togB_iff {E : List (Int × Int)} {V L : List Int} {e f : Int} : togB E V L e f = true ↔ ∀ v ∈ V, apartB E L v e f = false := by
 unfold togB
 rw [decide_eq_true_eq]
 constructor
 · intro h v hv; obtain ⟨j, hj, rfl⟩ := mem_getD.1 hv; exact h j hj
 intro h j hj; exact h _ (mem_getD.2 ⟨j, hj, rfl⟩)
theorem togB_self {E : List (Int × Int)} {V L : List Int} {e : Int} : togB E V L e e = true := togB_iff.2 fun v _ => by unfold apartB; rw [if_pos rfl]
theorem other_inc {E : List (Int × Int)} {L : List Int} {e v : Int} (h : ¬ (grE E L).lp e) : (grE E L).inc e (otherE E e v) ∧ otherE E e v ≠ v := by
 unfold otherE
 split
 · rename_i c; exact ⟨.inr rfl, fun q => h (c.trans q.symm)⟩
 rename_i c; exact ⟨.inl rfl, c⟩
theorem ends_rch {G : Gr} {e x y v : Int} (he : e ∈ G.L) (hx : G.inc e x) (hy : G.inc e y) (hxv : x ≠ v) (hyv : y ≠ v) : G.Rch (· ≠ v) x y := by
 by_cases c : x = y
 · rw [c]; exact .refl hyv
 refine .one hxv ⟨e, he, ?_⟩ hyv
 rcases hx with a | a <;> rcases hy with b | b
 · exact absurd (a.symm.trans b) c
 · exact .inl ⟨a, b⟩
 · exact .inr ⟨b, a⟩
 exact absurd (a.symm.trans b) c
theorem apart_iff {E : List (Int × Int)} {L : List Int} {v e f : Int} (he : e ∈ L) (hf : f ∈ L) (hne : e ≠ f) (le : ¬ (grE E L).lp e) (lf : ¬ (grE E L).lp f) : apartB E L v e f = false ↔ Tog (grE E L) v e f := by
 unfold apartB
 rw [if_neg hne, if_neg (by rintro (⟨a, b⟩ | ⟨a, b⟩); exact le (a.trans b.symm); exact lf (a.trans b.symm))]
 obtain ⟨i1, n1⟩ := other_inc (v := v) le
 obtain ⟨i2, n2⟩ := other_inc (v := v) lf
 have hU : otherE E e v ∈ endsL E L := mem_endsL.2 ⟨e, he, i1⟩
 simp only [Bool.not_eq_false', decide_eq_true_eq]
 rw [spread_iff n1 hU]
 constructor
 · intro h; exact ⟨_, _, i1, n1, i2, n2, h⟩
 rintro ⟨a, b, ha, hav, hb, hbv, h⟩
 exact ((ends_rch he i1 ha n1 hav).trans h).trans (ends_rch hf hb i2 hbv n2)
theorem sortL_asc {l : List Int} (h : l.Nodup) : Asc (sortL l) := by
 have hp : (sortL l).Pairwise (· ≤ ·) := by
   have := List.pairwise_mergeSort (le := fun x y : Int => decide (x ≤ y)) (fun a b c h1 h2 => by simp only [decide_eq_true_eq] at *; omega) (fun a b => by simp only [Bool.or_eq_true, decide_eq_true_eq]; omega) l
   exact this.imp fun h => of_decide_eq_true h
 have hn : (sortL l).Nodup := (List.Perm.nodup_iff (List.mergeSort_perm _ _)).2 h
 exact (hp.and hn).imp fun h => by omega
theorem mem_sortL {l : List Int} {x : Int} : x ∈ sortL l ↔ x ∈ l := List.mem_mergeSort
section
variable {n : Int} {E : List (Int × Int)} {V L : List Int} {s : St}
theorem flat_nodup {bs : List (List Int)} (h : bs.flatten.Nodup) : (∀ b ∈ bs, b.Nodup) ∧ ∀ b ∈ bs, ∀ c ∈ bs, ∀ x, x ∈ b → x ∈ c → b = c := by
 induction bs with
 | nil => exact ⟨fun b hb => by simp at hb, fun b hb => by simp at hb⟩
 | cons a bs ih =>
   rw [List.flatten_cons, List.nodup_append] at h
   obtain ⟨h1, h2, h3⟩ := h
   obtain ⟨i1, i2⟩ := ih h2
   refine ⟨fun b hb => ?_, fun b hb c hc x hx hy => ?_⟩
   · rcases List.mem_cons.1 hb with rfl | hb
     · exact h1
     exact i1 b hb
   rcases List.mem_cons.1 hb with hb1 | hb1
   · rcases List.mem_cons.1 hc with hc1 | hc1
     · rw [hb1, hc1]
     exact absurd rfl (h3 x (hb1 ▸ hx) x (List.mem_flatten.2 ⟨c, hc1, hy⟩))
   rcases List.mem_cons.1 hc with hc1 | hc1
   · exact absurd rfl (h3 x (hc1 ▸ hy) x (List.mem_flatten.2 ⟨b, hb1, hx⟩))
   exact i2 b hb1 c hc1 x hx hy
theorem class_lp (hp : partE n E V L = 0) {e : Int} (he : e ∈ L) (hl : (grE E L).lp e) : classL E V L e = [e] := by
 obtain ⟨_, _, hL, hV⟩ := part_iff.1 hp
 have hLa := (rises_iff.1 hL).1
 refine asc_ext (hLa.sublist List.filter_sublist) (by simp [Asc]) fun x => ?_
 unfold classL
 rw [List.mem_filter, List.mem_singleton]
 constructor
 · rintro ⟨hx, ht⟩
   refine Classical.byContradiction fun hne => ?_
   have := togB_iff.1 ht (eA E e) (hV e he _ (.inl rfl))
   unfold apartB at this
   rw [if_neg (fun q => hne q.symm), if_pos (.inl ⟨rfl, hl.symm⟩)] at this
   cases this
 rintro rfl; exact ⟨he, togB_self⟩
theorem class_blk (hp : partE n E V L = 0) (R : Deep.Rest (grE E L) s) (hs : ∀ v ∈ V, s.met v ≠ 0) {b : List Int} (hb : b ∈ s.blk) {e : Int} (he : e ∈ b) : classL E V L e = sortL b := by
 obtain ⟨_, _, hL, hV⟩ := part_iff.1 hp
 have hLa := (rises_iff.1 hL).1
 have hnd : s.blk.flatten.Nodup := by have := R.glob.nd; rw [R.stk, List.append_nil] at this; exact this
 obtain ⟨hb1, hb2⟩ := flat_nodup hnd
 obtain ⟨g1, g2⟩ := good_of R.glob.good b hb
 have heL := (g1 e he).1
 have hel := (g1 e he).2
 refine asc_ext (hLa.sublist List.filter_sublist) (sortL_asc (hb1 b hb)) fun x => ?_
 unfold classL
 rw [List.mem_filter, mem_sortL, togB_iff]
 constructor
 · rintro ⟨hx, ht⟩
   by_cases hne : e = x
   · exact hne ▸ he
   have hxl : ¬ (grE E L).lp x := fun hl => by
     have := ht (eA E x) (hV x hx _ (.inl rfl))
     unfold apartB at this
     rw [if_neg hne, if_pos (.inr ⟨rfl, hl.symm⟩)] at this
     cases this
   have htog : ∀ z, (∃ f ∈ (grE E L).L, (grE E L).inc f z) → Tog (grE E L) z e x := fun z ⟨f, hf, hi⟩ => (apart_iff heL hx hne hel hxl).1 (ht z (hV f hf z hi))
   have hxb : x ∈ s.blk.flatten := ((R.cov (eA E x) (hs _ (hV x hx _ (.inl rfl))) x hx (.inl rfl)).resolve_left fun h => hxl h.1)
   obtain ⟨c, hc, h1, h2⟩ := same_of_tog R.glob.good (by simpa using hnd) (List.mem_flatten.2 ⟨b, hb, he⟩) hxb htog
   rw [hb2 b hb c hc e he h1]; exact h2
 intro hx
 have hxL := (g1 x hx).1
 refine ⟨hxL, fun v _ => ?_⟩
 by_cases hne : e = x
 · unfold apartB; rw [if_pos hne]
 exact (apart_iff heL hxL hne hel (g1 x hx).2).2 (g2 e he x hx v)
theorem head_getD {l : List Int} : l.headD 0 = l.getD 0 0 := by cases l <;> rfl
theorem ins_class (hp : partE n E V L = 0) (R : Deep.Rest (grE E L) s) (hs : ∀ v ∈ V, s.met v ≠ 0) {q : Int × List Int} (hq : q ∈ s.ins) : q.1 ∈ L ∧ q.2 = classL E V L q.1 ∧ (classL E V L q.1).getD 0 0 = q.1 := by
 rcases R.glob.ins1 q hq with ⟨h1, h2, h3⟩ | ⟨b, hb, rfl⟩
 · rw [class_lp hp h2 h3]; exact ⟨h2, h1, rfl⟩
 have hne : sortL b ≠ [] := fun h => by
   have h2 : (sortL b).length = b.length := List.length_mergeSort _
   rw [h] at h2
   exact R.glob.ne b hb (List.eq_nil_of_length_eq_zero h2.symm)
 have hk : (key b).1 ∈ sortL b := by
   show (sortL b).headD 0 ∈ _
   cases h : sortL b with
   | nil => exact absurd h hne
   | cons x l => simp
 have hkb := mem_sortL.1 hk
 have hc := class_blk hp R hs hb hkb
 rw [hc]
 exact ⟨((good_of R.glob.good b hb).1 _ hkb).1, rfl, head_getD.symm⟩
theorem class_ins (hp : partE n E V L = 0) (R : Deep.Rest (grE E L) s) (hs : ∀ v ∈ V, s.met v ≠ 0) {e : Int} (he : e ∈ L) (hh : (classL E V L e).getD 0 0 = e) : (e, classL E V L e) ∈ s.ins := by
 obtain ⟨_, _, hL, hV⟩ := part_iff.1 hp
 rcases R.cov (eA E e) (hs _ (hV e he _ (.inl rfl))) e he (.inl rfl) with h | h
 · rw [class_lp hp he h.1]; exact h.2
 obtain ⟨b, hb, heb⟩ := List.mem_flatten.1 h
 have hc := class_blk hp R hs hb heb
 have hi := R.glob.ins2 b hb
 unfold key at hi
 rw [head_getD, ← hc, hh] at hi
 exact hi
theorem blocks_eq (hp : partE n E V L = 0) (R : Deep.Rest (grE E L) s) (hs : ∀ v ∈ V, s.met v ≠ 0) {K : List Int} (hK : Asc K) (hKm : ∀ k, k ∈ K ↔ ∃ l, (k, l) ∈ s.ins) {M : Int → List Int} (hM : ∀ k ∈ K, (k, M k) ∈ s.ins) :
   (K.map fun k => (Lib.compact (sortL (endsL E (M k))), M k)) = blocksL n E V L := by
 obtain ⟨hr, _, hL, hV⟩ := part_iff.1 hp
 have hLa := (rises_iff.1 hL).1
 have hKL : K = L.filter fun e => decide ((classL E V L e).getD 0 0 = e) := by
   refine asc_ext hK (hLa.sublist List.filter_sublist) fun x => ?_
   rw [hKm, List.mem_filter, decide_eq_true_eq]
   constructor
   · rintro ⟨l, hl⟩
     obtain ⟨h1, _, h3⟩ := ins_class hp R hs hl
     exact ⟨h1, h3⟩
   rintro ⟨h1, h2⟩; exact ⟨_, class_ins hp R hs h1 h2⟩
 unfold blocksL
 rw [← hKL]
 refine List.map_congr_left fun k hk => ?_
 have h2 : M k = classL E V L k := (ins_class hp R hs (hM k hk)).2.1
 rw [h2, span_touch (n := n) (L := classL E V L k) (rightE_0 hr).2.2.2 (rises_sub (hLa.sublist List.filter_sublist) hL fun x hx => (List.mem_filter.1 hx).1)]
end
end Go.Proofs.Ytahonnlgkmimlaa
namespace Go.Proofs.Ytahonnlgkmimlaa.Deep
inductive Steps (C : Int → Int → St → St → Prop) (T : Int → Int) (v via : Int) : List Int → St → St → Prop
 | nil {s} : Steps C T v via [] s s
 | lp {d ds s s'} : T d = v → Steps C T v via ds { s with ins := s.ins ++ [(d / 2, [d / 2])] } s' → Steps C T v via (d :: ds) s s'
 | via {d ds s s'} : T d ≠ v → d / 2 = via → Steps C T v via ds s s' → Steps C T v via (d :: ds) s s'
 | keep {d ds s s1 s'} : T d ≠ v → d / 2 ≠ via → s.met (T d) = 0 → C (T d) (d / 2) { s with stk := s.stk ++ [d / 2] } s1 → s1.low (T d) < s1.met v →
     Steps C T v via ds { s1 with low := upd s1.low v (min (s1.low v) (s1.low (T d))) } s' → Steps C T v via (d :: ds) s s'
 | take {d ds s s1 s' pre S} : T d ≠ v → d / 2 ≠ via → s.met (T d) = 0 → C (T d) (d / 2) { s with stk := s.stk ++ [d / 2] } s1 → ¬ s1.low (T d) < s1.met v → s1.stk = pre ++ d / 2 :: S → d / 2 ∉ pre →
     Steps C T v via ds { s1 with low := upd s1.low v (min (s1.low v) (s1.low (T d))), stk := pre, blk := s1.blk ++ [d / 2 :: S], ins := s1.ins ++ [key (d / 2 :: S)] } s' → Steps C T v via (d :: ds) s s'
 | back {d ds s s'} : T d ≠ v → d / 2 ≠ via → s.met (T d) ≠ 0 → s.met (T d) < s.met v → Steps C T v via ds { s with stk := s.stk ++ [d / 2], low := upd s.low v (min (s.low v) (s.met (T d))) } s' → Steps C T v via (d :: ds) s s'
 | skip {d ds s s'} : T d ≠ v → d / 2 ≠ via → s.met (T d) ≠ 0 → ¬ s.met (T d) < s.met v → Steps C T v via ds s s' → Steps C T v via (d :: ds) s s'
def Visit (D : Int → List Int) (T : Int → Int) : Nat → Int → Int → St → St → Prop
 | 0, _, _, _, _ => False
 | h + 1, v, via, s, s' => Steps (Visit D T h) T v via (D v) (enter v s) s'
section
variable {C C' : Int → Int → St → St → Prop} {D : Int → List Int} {T : Int → Int} {v via d : Int} {ds : List Int} {s s' : St}
theorem Steps.mono (hC : ∀ a b s s', C a b s s' → C' a b s s') (h : Steps C T v via ds s s') : Steps C' T v via ds s s' := by
 induction h with
 | nil => exact .nil
 | lp h1 _ ih => exact .lp h1 ih
 | via h1 h2 _ ih => exact .via h1 h2 ih
 | keep h1 h2 h3 h4 h5 _ ih => exact .keep h1 h2 h3 (hC _ _ _ _ h4) h5 ih
 | take h1 h2 h3 h4 h5 h6 h7 _ ih => exact .take h1 h2 h3 (hC _ _ _ _ h4) h5 h6 h7 ih
 | back h1 h2 h3 h4 _ ih => exact .back h1 h2 h3 h4 ih
 | skip h1 h2 h3 h4 _ ih => exact .skip h1 h2 h3 h4 ih
theorem visit_succ : ∀ h v via s s', Visit D T h v via s s' → Visit D T (h + 1) v via s s'
 | 0, _, _, _, _, h => h.elim
 | h + 1, v, via, s, s', hv => Steps.mono (visit_succ h) hv
theorem visit_le {h k : Nat} (hk : h ≤ k) : ∀ {v via s s'}, Visit D T h v via s s' → Visit D T k v via s s' := by
 intro v via s s' hv
 obtain ⟨m, rfl⟩ := Nat.exists_eq_add_of_le hk
 clear hk
 induction m with
 | zero => exact hv
 | succ m ih => exact visit_succ _ _ _ _ _ ih
theorem loop_steps (h : Loop D T v via ds s s') : ∃ n, Steps (Visit D T n) T v via ds s s' := by
 induction h with
 | nil => exact ⟨0, .nil⟩
 | lp h1 _ ih => obtain ⟨n, h⟩ := ih; exact ⟨n, .lp h1 h⟩
 | via h1 h2 _ ih => obtain ⟨n, h⟩ := ih; exact ⟨n, .via h1 h2 h⟩
 | keep h1 h2 h3 _ h5 _ ih1 ih2 =>
   obtain ⟨n, hn⟩ := ih1; obtain ⟨m, hm⟩ := ih2
   exact ⟨max (n + 1) m, .keep h1 h2 h3 (visit_le (h := n + 1) (by omega) hn) h5 (hm.mono fun _ _ _ _ => visit_le (by omega))⟩
 | take h1 h2 h3 _ h5 h6 h7 _ ih1 ih2 =>
   obtain ⟨n, hn⟩ := ih1; obtain ⟨m, hm⟩ := ih2
   exact ⟨max (n + 1) m, .take h1 h2 h3 (visit_le (h := n + 1) (by omega) hn) h5 h6 h7 (hm.mono fun _ _ _ _ => visit_le (by omega))⟩
 | back h1 h2 h3 h4 _ ih => obtain ⟨n, h⟩ := ih; exact ⟨n, .back h1 h2 h3 h4 h⟩
 | skip h1 h2 h3 h4 _ ih => obtain ⟨n, h⟩ := ih; exact ⟨n, .skip h1 h2 h3 h4 h⟩
theorem loop_visit (h : Loop D T v via (D v) (enter v s) s') : ∃ n, Visit D T n v via s s' := let ⟨n, h⟩ := loop_steps h; ⟨n + 1, h⟩
theorem steps_nil (h : Steps C T v via [] s s') : s = s' := by cases h; rfl
theorem steps_lp (h : Steps C T v via (d :: ds) s s') (h1 : T d = v) : Steps C T v via ds { s with ins := s.ins ++ [(d / 2, [d / 2])] } s' := by
 cases h <;> first | assumption | contradiction
theorem steps_via (h : Steps C T v via (d :: ds) s s') (h1 : T d ≠ v) (h2 : d / 2 = via) : Steps C T v via ds s s' := by
 cases h <;> first | assumption | contradiction
theorem steps_go (h : Steps C T v via (d :: ds) s s') (h1 : T d ≠ v) (h2 : d / 2 ≠ via) (h3 : s.met (T d) = 0) : ∃ s1, C (T d) (d / 2) { s with stk := s.stk ++ [d / 2] } s1 ∧
   (s1.low (T d) < s1.met v → Steps C T v via ds { s1 with low := upd s1.low v (min (s1.low v) (s1.low (T d))) } s') ∧
   (¬ s1.low (T d) < s1.met v → ∃ pre S, s1.stk = pre ++ d / 2 :: S ∧ d / 2 ∉ pre ∧
     Steps C T v via ds { s1 with low := upd s1.low v (min (s1.low v) (s1.low (T d))), stk := pre, blk := s1.blk ++ [d / 2 :: S], ins := s1.ins ++ [key (d / 2 :: S)] } s') := by
 cases h with
 | keep _ _ _ h4 h5 h6 => exact ⟨_, h4, fun _ => h6, fun h => absurd h5 h⟩
 | take _ _ _ h4 h5 h6 h7 h8 => exact ⟨_, h4, fun h => absurd h h5, fun _ => ⟨_, _, h6, h7, h8⟩⟩
 | _ => contradiction
theorem steps_back (h : Steps C T v via (d :: ds) s s') (h1 : T d ≠ v) (h2 : d / 2 ≠ via) (h3 : s.met (T d) ≠ 0) (h4 : s.met (T d) < s.met v) : Steps C T v via ds { s with stk := s.stk ++ [d / 2], low := upd s.low v (min (s.low v) (s.met (T d))) } s' := by
 cases h <;> first | assumption | contradiction
theorem steps_skip (h : Steps C T v via (d :: ds) s s') (h1 : T d ≠ v) (h2 : d / 2 ≠ via) (h3 : s.met (T d) ≠ 0) (h4 : ¬ s.met (T d) < s.met v) : Steps C T v via ds s s' := by
 cases h <;> first | assumption | contradiction
structure Bd (s : St) : Prop where
 cnt : s.cnt ≤ 1000000000
 len : (s.blk.flatten ++ s.stk).length ≤ 1000000000
 mem : ∀ f ∈ s.blk.flatten ++ s.stk, 0 ≤ f ∧ f ≤ 1000000000
 ins : s.ins.length ≤ 1000000000
theorem Bd.push {l : Int → Int} (h : Bd { s with stk := s.stk ++ [d], low := l }) : Bd s := by
 obtain ⟨h1, h2, h3, h4⟩ := h
 refine ⟨h1, ?_, fun f hf => h3 f ?_, h4⟩
 · simp only [List.length_append, List.length_cons, List.length_nil] at h2 ⊢; omega
 simp only [List.mem_append] at hf ⊢; exact hf.elim .inl fun h => .inr (.inl h)
theorem Bd.enter (h : Bd (enter v s)) : Bd s := ⟨by have := h.cnt; simp only [Deep.enter] at this; omega, h.len, h.mem, h.ins⟩
theorem Bd.take {pre S : List Int} {q : Int × List Int} {l : Int → Int} (hs : s.stk = pre ++ d :: S) (h : Bd { s with low := l, stk := pre, blk := s.blk ++ [d :: S], ins := s.ins ++ [q] }) : Bd s := by
 obtain ⟨h1, h2, h3, h4⟩ := h
 refine ⟨h1, ?_, fun f hf => h3 f ?_, ?_⟩
 · rw [hs]; simp only [List.length_append, List.flatten_append, List.flatten_cons, List.flatten_nil, List.append_nil, List.length_cons] at h2 ⊢; omega
 · rw [hs] at hf; simp only [List.mem_append, List.flatten_append, List.flatten_cons, List.flatten_nil, List.append_nil, List.mem_cons] at hf ⊢
   rcases hf with h | h | h | h
   · exact .inl (.inl h)
   · exact .inr h
   · exact .inl (.inr (.inl h))
   exact .inl (.inr (.inr h))
 simp only [List.length_append, List.length_cons, List.length_nil] at h4; omega
theorem Bd.lp {q : Int × List Int} (h : Bd { s with ins := s.ins ++ [q] }) : Bd s := ⟨h.cnt, h.len, h.mem, by have := h.ins; simp only [List.length_append, List.length_cons, List.length_nil] at this; omega⟩
theorem Bd.low {l : Int → Int} (h : Bd { s with low := l }) : Bd s := ⟨h.cnt, h.len, h.mem, h.ins⟩
theorem steps_bd (hC : ∀ a b s s', C a b s s' → Bd s' → Bd s) (h : Steps C T v via ds s s') (hb : Bd s') : Bd s := by
 induction h with
 | nil => exact hb
 | lp _ _ ih => exact (ih hb).lp
 | via _ _ _ ih => exact ih hb
 | keep _ _ _ h4 _ _ ih => exact Bd.push (l := _) (hC _ _ _ _ h4 (ih hb).low)
 | take _ _ _ h4 _ h6 _ _ ih => exact Bd.push (l := _) (hC _ _ _ _ h4 (Bd.take h6 (ih hb)))
 | back _ _ _ _ _ ih => exact (ih hb).push
 | skip _ _ _ _ _ ih => exact ih hb
theorem visit_bd : ∀ h v via s s', Visit D T h v via s s' → Bd s' → Bd s
 | 0, _, _, _, _, h, _ => h.elim
 | h + 1, _, _, _, _, hv, hb => (steps_bd (visit_bd h) hv hb).enter
theorem steps_cnt (hC : ∀ a b s s', C a b s s' → s.cnt ≤ s'.cnt) (h : Steps C T v via ds s s') : s.cnt ≤ s'.cnt := by
 induction h with
 | nil => exact Int.le_refl _
 | lp _ _ ih => exact ih
 | via _ _ _ ih => exact ih
 | @keep d ds s s1 s' _ _ _ h4 _ _ ih => have h5 := hC _ _ _ _ h4; simp only at h5; have h6 : s1.cnt ≤ s'.cnt := ih; omega
 | @take d ds s s1 s' pre S _ _ _ h4 _ _ _ _ ih => have h5 := hC _ _ _ _ h4; simp only at h5; have h6 : s1.cnt ≤ s'.cnt := ih; omega
 | back _ _ _ _ _ ih => exact ih
 | skip _ _ _ _ _ ih => exact ih
theorem visit_cnt : ∀ h v via s s', Visit D T h v via s s' → s.cnt ≤ s'.cnt
 | 0, _, _, _, _, h => h.elim
 | h + 1, v, _, s, _, hv => by have := steps_cnt (visit_cnt h) hv; simp only [enter] at this; omega
def ahead (D : Int → List Int) (U : List Int) (s : St) : Nat := (U.map fun x => if s.met x = 0 then (D x).length else 0).sum
theorem ahead_le {U : List Int} {s s' : St} (h : ∀ x, s.met x ≠ 0 → s'.met x ≠ 0) : ahead D U s' ≤ ahead D U s := by
 unfold ahead
 induction U with
 | nil => exact Nat.le_refl _
 | cons x U ih =>
   simp only [List.map_cons, List.sum_cons]
   by_cases h1 : s'.met x = 0
   · have h2 : s.met x = 0 := Classical.byContradiction fun q => h x q h1
     rw [if_pos h1, if_pos h2]; omega
   rw [if_neg h1]; split <;> omega
theorem ahead_enter {U : List Int} {w : Int} (hw : w ∈ U) (h0 : s.met w = 0) (hc : 0 ≤ s.cnt) : ahead D U (enter w s) + (D w).length ≤ ahead D U s := by
 have hm : ∀ x, s.met x ≠ 0 → (enter w s).met x ≠ 0 := fun x hx => by
   rw [show (enter w s).met x = s.met x from upd_ne _ _ (fun e => hx (by rw [e]; exact h0))]; exact hx
 have h1 : (enter w s).met w ≠ 0 := by rw [show (enter w s).met w = s.cnt + 1 from upd_same _ _ _]; omega
 unfold ahead
 induction U with
 | nil => simp at hw
 | cons x U ih =>
   have hle := ahead_le (D := D) (U := U) hm
   unfold ahead at hle
   simp only [List.map_cons, List.sum_cons]
   by_cases e : x = w
   · subst e; rw [if_neg h1, if_pos h0]; omega
   have := ih ((List.mem_cons.1 hw).resolve_left fun q => e q.symm)
   rw [show (enter w s).met x = s.met x from upd_ne _ _ e]
   omega
theorem loop_cnt (h : Loop D T v via ds s s') : s.cnt ≤ s'.cnt := by
 induction h with
 | nil => exact Int.le_refl _
 | lp _ _ ih => exact ih
 | via _ _ _ ih => exact ih
 | @keep v via d ds s s1 s' _ _ _ _ _ _ ih1 ih2 => have h3 : s.cnt + 1 ≤ s1.cnt := ih1; have h4 : s1.cnt ≤ s'.cnt := ih2; omega
 | @take v via d ds s s1 s' pre S _ _ _ _ _ _ _ _ ih1 ih2 => have h3 : s.cnt + 1 ≤ s1.cnt := ih1; have h4 : s1.cnt ≤ s'.cnt := ih2; omega
 | back _ _ _ _ _ ih => exact ih
 | skip _ _ _ _ _ ih => exact ih
theorem loop_ins {U : List Int} (hU : ∀ v d, d ∈ D v → T d ∈ U) (h : Loop D T v via ds s s') : ∀ (hds : ∀ d ∈ ds, T d ∈ U), 0 ≤ s.cnt → s'.ins.length + ahead D U s' ≤ s.ins.length + ds.length + ahead D U s ∧ s'.cnt + (left U s' : Int) ≤ s.cnt + (left U s : Int) := by
 induction h with
 | nil => intro _ _; exact ⟨by simp, Int.le_refl _⟩
 | lp _ _ ih =>
   intro hd hc
   obtain ⟨a, b⟩ := ih (fun x hx => hd x (List.mem_cons_of_mem _ hx)) hc
   refine ⟨?_, b⟩
   have e : ∀ (s : St) q, ahead D U { s with ins := q } = ahead D U s := fun _ _ => rfl
   simp only [List.length_append, List.length_cons, List.length_nil, e] at a ⊢
   omega
 | via _ _ _ ih =>
   intro hd hc
   obtain ⟨a, b⟩ := ih (fun x hx => hd x (List.mem_cons_of_mem _ hx)) hc
   exact ⟨by simp only [List.length_cons]; omega, b⟩
 | @keep v via d ds s s1 s' _ _ h3 h1 _ _ ih1 ih2 =>
   intro hd hc
   obtain ⟨a, b⟩ := ih1 (hU _) (by simp only [enter]; omega)
   have hcn := loop_cnt h1
   simp only [enter] at hcn
   obtain ⟨a2, b2⟩ := ih2 (fun x hx => hd x (List.mem_cons_of_mem _ hx)) (by show 0 ≤ s1.cnt; omega)
   have hw := hd d (by simp)
   have e1 := ahead_enter (D := D) (s := { s with stk := s.stk ++ [d / 2] }) hw h3 hc
   have e2 := left_lt (U := U) (s := s) (s' := enter (T d) { s with stk := s.stk ++ [d / 2] }) (v := T d) (fun x hx => by
     rw [show (enter (T d) { s with stk := s.stk ++ [d / 2] }).met x = s.met x from upd_ne _ _ (fun e => hx (by rw [e]; exact h3))]; exact hx) hw h3 (by rw [show (enter (T d) { s with stk := s.stk ++ [d / 2] }).met (T d) = s.cnt + 1 from upd_same _ _ _]; omega)
   have e3 : ahead D U { s with stk := s.stk ++ [d / 2] } = ahead D U s := rfl
   have e4 : ∀ l, ahead D U { s1 with low := l } = ahead D U s1 := fun _ => rfl
   have e5 : ∀ l, left U { s1 with low := l } = left U s1 := fun _ => rfl
   have e6 : (enter (T d) { s with stk := s.stk ++ [d / 2] }).cnt = s.cnt + 1 := rfl
   have e7 : (enter (T d) { s with stk := s.stk ++ [d / 2] }).ins = s.ins := rfl
   rw [e4] at a2; rw [e5] at b2; rw [e7] at a; rw [e6] at b
   simp only [List.length_cons] at *
   constructor <;> omega
 | @take v via d ds s s1 s' pre S _ _ h3 h1 _ _ _ _ ih1 ih2 =>
   intro hd hc
   obtain ⟨a, b⟩ := ih1 (hU _) (by simp only [enter]; omega)
   have hcn := loop_cnt h1
   simp only [enter] at hcn
   obtain ⟨a2, b2⟩ := ih2 (fun x hx => hd x (List.mem_cons_of_mem _ hx)) (by show 0 ≤ s1.cnt; omega)
   have hw := hd d (by simp)
   have e1 := ahead_enter (D := D) (s := { s with stk := s.stk ++ [d / 2] }) hw h3 hc
   have e2 := left_lt (U := U) (s := s) (s' := enter (T d) { s with stk := s.stk ++ [d / 2] }) (v := T d) (fun x hx => by
     rw [show (enter (T d) { s with stk := s.stk ++ [d / 2] }).met x = s.met x from upd_ne _ _ (fun e => hx (by rw [e]; exact h3))]; exact hx) hw h3 (by rw [show (enter (T d) { s with stk := s.stk ++ [d / 2] }).met (T d) = s.cnt + 1 from upd_same _ _ _]; omega)
   have e3 : ahead D U { s with stk := s.stk ++ [d / 2] } = ahead D U s := rfl
   have e4 : ∀ l p q r, ahead D U { s1 with low := l, stk := p, blk := q, ins := r } = ahead D U s1 := fun _ _ _ _ => rfl
   have e5 : ∀ l p q r, left U { s1 with low := l, stk := p, blk := q, ins := r } = left U s1 := fun _ _ _ _ => rfl
   have e6 : (enter (T d) { s with stk := s.stk ++ [d / 2] }).cnt = s.cnt + 1 := rfl
   have e7 : (enter (T d) { s with stk := s.stk ++ [d / 2] }).ins = s.ins := rfl
   rw [e4] at a2; rw [e5] at b2; rw [e7] at a; rw [e6] at b
   simp only [List.length_append, List.length_cons, List.length_nil] at *
   constructor <;> omega
 | @back v via d ds s s' _ _ _ _ _ ih =>
   intro hd hc
   obtain ⟨a, b⟩ := ih (fun x hx => hd x (List.mem_cons_of_mem _ hx)) hc
   have a : s'.ins.length + ahead D U s' ≤ s.ins.length + ds.length + ahead D U s := a
   have b : s'.cnt + (left U s' : Int) ≤ s.cnt + (left U s : Int) := b
   exact ⟨by simp only [List.length_cons] at *; omega, b⟩
 | skip _ _ _ _ _ ih =>
   intro hd hc
   obtain ⟨a, b⟩ := ih (fun x hx => hd x (List.mem_cons_of_mem _ hx)) hc
   exact ⟨by simp only [List.length_cons]; omega, b⟩
theorem roots_ins {U : List Int} (hU : ∀ v d, d ∈ D v → T d ∈ U) {vs : List Int} (h : Roots D T vs s s') : ∀ (hvs : ∀ v ∈ vs, v ∈ U), 0 ≤ s.cnt → s'.ins.length + ahead D U s' ≤ s.ins.length + ahead D U s ∧ s'.cnt + (left U s' : Int) ≤ s.cnt + (left U s : Int) := by
 induction h with
 | nil => intro _ _; exact ⟨Nat.le_refl _, Int.le_refl _⟩
 | met _ _ ih => intro hv hc; exact ih (fun x hx => hv x (List.mem_cons_of_mem _ hx)) hc
 | @go v vs s s1 s' h1 h2 _ ih =>
   intro hv hc
   have hcn := loop_cnt h2
   simp only [enter] at hcn
   obtain ⟨a, b⟩ := loop_ins hU h2 (hU v) (by simp only [enter]; omega)
   obtain ⟨a2, b2⟩ := ih (fun x hx => hv x (List.mem_cons_of_mem _ hx)) (by omega)
   have hw := hv v (by simp)
   have e1 := ahead_enter (D := D) (s := s) hw h1 hc
   have e2 := left_lt (U := U) (s := s) (s' := enter v s) (v := v) (fun x hx => by
     rw [show (enter v s).met x = s.met x from upd_ne _ _ (fun e => hx (by rw [e]; exact h1))]; exact hx) hw h1 (by rw [show (enter v s).met v = s.cnt + 1 from upd_same _ _ _]; omega)
   have e6 : (enter v s).cnt = s.cnt + 1 := rfl
   have e7 : (enter v s).ins = s.ins := rfl
   rw [e7] at a; rw [e6] at b
   constructor <;> omega
theorem roots_bd {vs : List Int} (h : Roots D T vs s s') (hb : Bd s') : Bd s := by
 induction h with
 | nil => exact hb
 | met _ _ ih => exact ih hb
 | go _ h2 _ ih =>
   obtain ⟨n, hn⟩ := loop_visit h2
   exact visit_bd n _ _ _ _ hn (ih hb)
end
end Go.Proofs.Ytahonnlgkmimlaa.Deep
namespace Go.Proofs
open Go.Shelf
def Try.keysA_ren : Go.Shelf.Ren := ⟨fun | 7 => 82 | 10 => 104 | n => n, fun | 23 => 104 | 26 => 3 | 3 => 27 | 28 => 111 | 0 => 0 | 27 => 110 | 33 => 126 | 4 => 4 | n => n, fun | n => n⟩
theorem Try.keysA : Go.Proofs.SlLaysZI.n7 Try.prog Try.keysA_ren := {
 mixed := by kernel_rfl
 f7 := ⟨Try.f82.name, by decide, Try.func82.trans (congrArg some (by kernel_rfl))⟩
 f10 := ⟨Try.f104.name, by decide, Try.func104.trans (congrArg some (by kernel_rfl))⟩
 t0 := Try.underlying0
 a0 := Try.isAgg0
 z0 := Try.sizeOf0
 v0 := Try.zeroValue0
 t4 := Try.underlying4
 a4 := Try.isAgg4
 z4 := Try.sizeOf4
 v4 := Try.zeroValue4
 t23 := Try.underlying104
 a23 := Try.isAgg104
 z23 := Try.sizeOf104
 v23 := Try.zeroValue104
 t26 := Try.underlying3
 a26 := Try.isAgg3
 z26 := Try.sizeOf3
 v26 := Try.zeroValue3
 t27 := Try.underlying110
 a27 := Try.isAgg110
 z27 := Try.sizeOf110
 v27 := Try.zeroValue110
 t28 := Try.underlying111
 a28 := Try.isAgg111
 z28 := Try.sizeOf111
 v28 := Try.zeroValue111
 t33 := Try.underlying126
 a33 := Try.isAgg126
 z33 := Try.sizeOf126
 v33 := Try.zeroValue126 }
def Try.sortedA_ren : Go.Shelf.Ren := ⟨fun | 6 => 81 | 8 => 103 | 9 => 74 | 11 => 130 | 13 => 99 | 12 => 98 | 23 => 125 | 24 => 126 | 14 => 117 | 15 => 118 | 16 => 119 | 17 => 120 | 18 => 121 | 19 => 122 | 20 => 100 | 21 => 123 | 22 => 124 | 25 => 138 | 26 => 139 | 27 => 140 | 28 => 141 | 29 => 142 | 30 => 127 | 31 => 147 | n => n, fun | 26 => 3 | 28 => 111 | 24 => 27 | 0 => 0 | 3 => 3 | 37 => 124 | 48 => 146 | 50 => 148 | 4 => 4 | 40 => 140 | 39 => 139 | 45 => 78 | 5 => 5 | 9 => 9 | 51 => 158 | 55 => 162 | 57 => 165 | 58 => 166 | 33 => 126 | n => n, fun | n => n⟩
theorem Try.sortedA : Go.Proofs.SlLaysZI.n6 Try.prog Try.sortedA_ren := {
 mixed := by kernel_rfl
 f6 := ⟨Try.f81.name, by decide, Try.func81.trans (congrArg some (by kernel_rfl))⟩
 f8 := ⟨Try.f103.name, by decide, Try.func103.trans (congrArg some (by kernel_rfl))⟩
 f11 := ⟨Try.f130.name, by decide, Try.func130.trans (congrArg some (by kernel_rfl))⟩
 t0 := Try.underlying0
 a0 := Try.isAgg0
 z0 := Try.sizeOf0
 v0 := Try.zeroValue0
 t24 := Try.underlying27
 a24 := Try.isAgg27
 z24 := Try.sizeOf27
 v24 := Try.zeroValue27
 t26 := Try.underlying3
 a26 := Try.isAgg3
 z26 := Try.sizeOf3
 v26 := Try.zeroValue3
 t28 := Try.underlying111
 a28 := Try.isAgg111
 z28 := Try.sizeOf111
 v28 := Try.zeroValue111
 i26 := by kernel_rfl }
end Go.Proofs
namespace Go.Proofs.Ytahonnlgkmimlaa
open Go.RowKit Go.Sort Go.Lib Go.Proofs.Ytahonnlgkmimlaa.Deep
abbrev insOf (ins : List (Int × Value × List Int)) : List (Int × List Int) := ins.map fun q => (q.1, q.2.2)
theorem clone_row {o : Orig} {w : World} {S : Stab} {rs : List Res} (H : Fr o w S rs) {v : Value} {l : List Int} (hv : Rd (· < w.heap.size) w v l) (hl : l.length ≤ 1000000000) :
   Calls Try.prog 105 #[v] w fun e w' => ∃ u, e = .returned u ∧ Fr o w' S (.row 3 u l :: rs) ∧ Below w.heap.size w w' := by
 obtain ⟨p, c, rfl, h1, h2, h3⟩ := rd_slice hv
 have hput : ∀ (u : Value) (w' : World) (xs : List Value), w'.ownsRow w.heap.size 3 1 u l.length xs → xs = l.map (Value.int .i64) → Below w.heap.size w w' → Fr o w' S (.row 3 u l :: rs) := by
   intro u w' xs hrow hxs hb
   refine (H.on hb).put _ ⟨xs, ⟨hrow.1, ?_⟩, by rw [hxs]; exact ints_row l⟩ fun b hb' => ?_
   · rcases hrow.2 with h | ⟨g, cap, cur, e1, e2, rest⟩
     · exact .inl h
     exact .inr ⟨g, cap, cur, e1, Nat.zero_le _, rest⟩
   rcases hrow.2 with ⟨h, _⟩ | ⟨g, cap, cur, e1, e2, e3, _⟩
   · rw [h] at hb'; cases hb'
   rw [e1] at hb'
   have e9 : g = b := Option.some.inj hb'
   have hlt : g < w'.heap.size := (Array.getElem?_eq_some_iff.1 e3).1
   rw [← e9]
   exact ⟨Nat.le_trans H.below.size e2, hlt, fun hs => by have := H.inb g hs; omega, fun r hr e => by have := (H.own r hr g e).2.1; omega⟩
 cases p with
 | none =>
   have : l = [] := by
     rcases h3 with h | ⟨g, off, cur, t, fz, h, _⟩
     · exact h
     cases h
   subst this
   refine (Try.slices_Clone_int_nil 0 c w).mono fun e w' ⟨he, hw⟩ => ⟨_, he, ?_, ?_⟩
   · subst hw; exact H.newRow 3
   subst hw; exact Below.refl _ _
 | some a =>
   by_cases hz : l = []
   · subst hz
     refine (Try.slices_Clone_int_zero a c w).mono fun e w' ⟨u, he, hrow, _, hb⟩ => ⟨u, he, hput u w' [] hrow rfl hb, hb⟩
   rcases h3 with h | ⟨g, off, cur, t, fz, h, hg, hw, hc⟩
   · exact absurd h hz
   cases h
   refine (Try.slices_Clone_int g off l.length c l w (Nat.le_refl _) (by omega) fun j hj => ?_).mono fun e w' ⟨u, he, hrow, _, hb⟩ => ⟨u, he, hput u w' _ hrow (by rw [List.take_length]) hb, hb⟩
   obtain ⟨cs, hr, hq⟩ := hc j hj
   have hr : cs = [.int .i64 l[j]] := hr
   have := hq 0 (show 0 < 1 by decide)
   rw [hr] at this
   rw [cell_of_row w g _ cur t fz hw]
   have e : off + j * Data.size Int + 0 = off + j := by show off + j * 1 + 0 = _; omega
   rw [e] at this
   rw [this]
   simp [List.getD_eq_getElem?_getD, List.getElem?_eq_getElem hj]
def idxL (l : List Int) (x : Int) : Int := if x ∈ l then (l.idxOf x : Int) else -1
theorem idxL_at {pre S : List Int} {x : Int} (h : x ∉ pre) : idxL (pre ++ x :: S) x = (pre.length : Int) := by
 unfold idxL
 rw [if_pos (by simp), List.idxOf_append, if_neg h]
 simp
theorem idxL_F {l : List Int} {x : Int} (h : ∀ j : Nat, j < l.length → l.getD j 0 ≠ x) : idxL l x = -1 := by
 unfold idxL
 rw [if_neg]
 intro hx
 obtain ⟨j, hj, e⟩ := mem_getD.1 hx
 exact h j hj e
theorem idxL_T {l : List Int} {x : Int} {i : Int} (h0 : 0 ≤ i) (h1 : i < (l.length : Int)) (h : l.getD i.toNat 0 = x) (hb : ∀ j : Nat, (j : Int) < i → l.getD j 0 ≠ x) : idxL l x = i := by
 have hsplit : l = l.take i.toNat ++ x :: l.drop (i.toNat + 1) := by
   conv => lhs; rw [← List.take_append_drop i.toNat l]
   rw [drop_round h0 h1, h, show (i + 1).toNat = i.toNat + 1 by omega]
 have hn : x ∉ l.take i.toNat := by
   intro hx
   obtain ⟨j, hj, e⟩ := mem_getD.1 hx
   rw [List.length_take] at hj
   refine hb j (by omega) ?_
   rw [← e, List.getD_eq_getElem?_getD, List.getD_eq_getElem?_getD, List.getElem?_take, if_pos (by omega)]
 rw [hsplit, idxL_at hn, List.length_take]
 omega
theorem keys_box {mb : Nat} (w : World) : Calls Try.prog 82 #[.map (some mb)] w fun e w' =>
   e = .returned (.func (.func 104) #[] #[.pointer (some ⟨w.heap.size, 0, none⟩)]) ∧ w' = w.alloc (.cells #[.map (some mb)] 104) :=
 (callsIn_wide (n := 5)).1 (AnyZI.keys_in Try.keysA Fence.wide 5 tv rfl (some mb) w)
theorem Try.sortsA (m : Nat) : AnyZI.SortsIn Try.prog Try.sortedA_ren Fence.wide m :=
 ⟨fun blk off cap ss W hH hblk hsz => callsIn_wide.2 (Try.slices_Sort_int blk off cap ss W hH hblk hsz), fun p cap W => callsIn_wide.2 (Any.slices_Sort_int_none Try.lays189 p cap W)⟩
theorem sorted_row {o : Orig} {w : World} {S : Stab} {rs : List Res} (H : Fr o w S rs) (j k : Nat) {mb kb : Nat} {ins : List (Int × Value × List Int)} (hj : rs[j]? = some (mapR Try.prog 3 mb ins)) (hk : rs[k]? = some (.box kb 104 [.map (some mb)])) (hn : ins.length ≤ 1000000000) :
   Calls Try.prog 81 #[.func (.func 104) #[] #[.pointer (some ⟨kb, 0, none⟩)]] w fun e w' =>
     ∃ u, e = .returned u ∧ (∃ K : List Int, Asc K ∧ (∀ x, x ∈ K ↔ ∃ l, (x, l) ∈ ins) ∧ Fr o w' S (.row 3 u K :: rs)) ∧ Below w.heap.size w w' := by
 obtain ⟨⟨ob, hb, hI⟩, _⟩ := H.ok _ (List.mem_of_getElem? hj)
 have hown := mapI_owns hb hI
 have hlt := hown.lt
 have hbox : w.heap[kb]? = some (.cells #[.map (some mb)] 104 (0, 0)) := H.ok _ (List.mem_of_getElem? hk)
 have hkb : kb < w.heap.size := (Array.getElem?_eq_some_iff.1 hbox).1
 have hsz : Maps.size (mapD (ins.map fun q => (q.1, q.2.1))) ≤ 1000000000 := by
   have := hown.size_le
   rw [List.length_map] at this; omega
 have hcell : w.cell? ⟨kb, 0, none⟩ = some (.map (some mb)) := by rw [cell_of_row w kb 0 _ _ _ hbox]; rfl
 have hseq : SeqGives Fence.wide 2 Try.prog 104 #[.pointer (some ⟨kb, 0, none⟩)] encZ (fun ss => ss.Perm (intKeys (mapD (ins.map fun q => (q.1, q.2.1))))) (Maps.size (mapD (ins.map fun q => (q.1, q.2.1)))) w :=
   AnyZI.keys_gives (ρ := Try.keysA_ren) { Try.keysA with } Fence.wide 2 tv rfl (by omega) kb mb _ _ w hkb hcell hown
 have cS := AnyZI.sorted_in Try.sortedA Fence.wide 5 tv tv tv tv rfl (by omega) (Try.sortsA _) (enters_of Try.func74 (by kernel_rfl) rfl) 104 #[.pointer (some ⟨kb, 0, none⟩)] tv (enters_of Try.func104 (by kernel_rfl) rfl) _ (Maps.size (mapD (ins.map fun q : Int × Value × List Int => (q.1, q.2.1)))) (by simp only [maxLen]; omega) (by omega) w hseq
 have cS' := (callsIn_wide (n := 5)).1 cS
 refine cS'.mono fun e w' ⟨v, ss, he, hperm, hrow, _, hbw⟩ => ⟨v, he, ⟨ss.mergeSort fun x y => decide (x ≤ y), ?_, fun x => ?_, ?_⟩, hbw⟩
 · have hnd : ss.Nodup := by
     obtain ⟨es, hD, hpw, hkl⟩ := hown.entries (Maps.int_keyed Try.underlying3)
     obtain ⟨es', hD', hko⟩ := hown.keysOf
     rw [hD] at hD' hperm
     cases hD'
     refine hperm.nodup_iff.2 ?_
     show (es.map fun p => Go.intOf p.1).Nodup
     refine List.pairwise_map.2 (hpw.imp_of_mem fun {p q} hp' hq' hne e => hne ?_)
     obtain ⟨v1, hv1⟩ := hko p hp'
     obtain ⟨v2, hv2⟩ := hko q hq'
     obtain ⟨a, _, ha, _⟩ := Maps.keyOf_i64 Try.underlying3 hv1
     obtain ⟨b, _, hb, _⟩ := Maps.keyOf_i64 Try.underlying3 hv2
     rw [ha, hb] at e ⊢
     exact congrArg _ e
   exact sortL_asc hnd
 · have h1 : x ∈ (ss.mergeSort fun x y => decide (x ≤ y)) ↔ x ∈ ss := List.mem_mergeSort
   rw [h1, hperm.mem_iff]
   obtain ⟨es, hD, hko⟩ := hown.keysOf
   have hh := @mapD_has (ins.map fun q => (q.1, q.2.1)) x
   rw [hD] at hh ⊢
   have h2 : x ∈ intKeys (.map es) ↔ Maps.has (.map es) (.int .i64 x) = true := by
     rw [Maps.has_eq, List.any_eq_true]
     show x ∈ es.map (fun p => Go.intOf p.1) ↔ _
     rw [List.mem_map]
     constructor
     · rintro ⟨p, hp, rfl⟩
       obtain ⟨v1, hv1⟩ := hko p hp
       obtain ⟨a, _, ha, _⟩ := Maps.keyOf_i64 Try.underlying3 hv1
       exact ⟨p, hp, by rw [ha]; simp [Lit.sameKey, Go.intOf]⟩
     rintro ⟨p, hp, hs⟩
     obtain ⟨v1, hv1⟩ := hko p hp
     obtain ⟨a, _, ha, _⟩ := Maps.keyOf_i64 Try.underlying3 hv1
     rw [ha] at hs
     exact ⟨p, hp, by rw [ha]; simpa [Lit.sameKey, Go.intOf] using hs⟩
   rw [h2, hh]
   constructor
   · rintro ⟨v, hv⟩
     obtain ⟨q, hq, e⟩ := List.mem_map.1 hv
     cases e
     exact ⟨q.2, hq⟩
   rintro ⟨l, hl⟩
   exact ⟨l.1, List.mem_map.2 ⟨_, hl, rfl⟩⟩
 refine (H.on hbw).put _ ⟨_, ⟨?_, ?_⟩, ints_row _⟩ fun b hb' => ?_
 · rw [List.length_map, List.length_mergeSort]; show _ = _ * 1; omega
 · have hlen : (ss.mergeSort fun x y => decide (x ≤ y)).length = ss.length := List.length_mergeSort _
   rw [hlen]
   rcases hrow.2 with h | ⟨g, cap, cur, e1, e2, rest⟩
   · exact .inl h
   exact .inr ⟨g, cap, cur, e1, Nat.zero_le _, rest⟩
 rcases hrow.2 with ⟨h, _⟩ | ⟨g, cap, cur, e1, e2, e3, _⟩
 · rw [h] at hb'; cases hb'
 rw [e1] at hb'
 have e9 : g = b := Option.some.inj hb'
 have hlt : g < w'.heap.size := (Array.getElem?_eq_some_iff.1 e3).1
 rw [← e9]
 exact ⟨Nat.le_trans H.below.size e2, hlt, fun hs => by have := H.inb g hs; omega, fun r hr e => by have := (H.own r hr g e).2.1; omega⟩
abbrev finR (n : Int) (ve vd : Value) (DL : List (List Int)) (fb mb lb pb : Nat) (s : St) (ev : Value) (ins : List (Int × Value × List Int)) (tl : List Res) : List Res :=
 .box fb 106 [.int .i64 n, ve, vd, .slice (some ⟨mb, 0, none⟩) n.toNat n.toNat, .slice (some ⟨lb, 0, none⟩) n.toNat n.toNat, .int .i64 s.cnt, ev, .map (some pb)] ::
 .box mb 3 (arrV n fun j => .int .i64 (s.met j)) :: .box lb 3 (arrV n fun j => .int .i64 (s.low j)) :: .row 3 ev s.stk :: mapR Try.prog 3 pb ins :: .ro vd DL :: tl
abbrev FinQ (n : Int) (ve vd : Value) (DL : List (List Int)) (fb mb lb pb : Nat) (s' : St) (tl : List Res) (o : Orig) (w : World) : Ending → World → Prop := fun e w' =>
 e = .returned (.tuple #[]) ∧ ∃ S ev ins, Fr o w' S (finR n ve vd DL fb mb lb pb s' ev ins tl) ∧ insOf ins = s'.ins
theorem dart_ok {n : Int} {E : List (Int × Int)} {L : List Int} {v d : Int} (hr : rightE n E = 0) (hL : risesP L (E.length : Int)) (hd : d ∈ dartsL E L v) : 0 ≤ d ∧ d / 2 < (E.length : Int) ∧ 0 ≤ headE E d ∧ headE E d < n ∧ d / 2 ∈ L ∧ d ≤ 10000 := by
 obtain ⟨h1, _⟩ := mem_dartsL.1 hd
 have hb := (rises_iff.1 hL).2 _ h1
 obtain ⟨r1, r2, r3, r4⟩ := rightE_0 hr
 have ho := okEs_at r4 hb.1 hb.2
 unfold okE at ho
 refine ⟨by omega, hb.2, ?_, ?_, h1, by omega⟩ <;> unfold headE eA eB <;> split <;> omega
def updF {α : Type} (f : Int → α) (x : Int) (y : α) : Int → α := fun z => if z = x then y else f z
theorem updF_same {α : Type} (f : Int → α) (x : Int) (y : α) : updF f x y x = y := by simp [updF]
theorem updF_ne {α : Type} (f : Int → α) {x z : Int} (y : α) (h : z ≠ x) : updF f x y z = f z := by simp [updF, h]
theorem make_info {P : Program} {e : TypeId} {zv : Value} (h : (P.info? e).map (fun i => (i.zero.map (·.cells), i.size, decide (i.bytes ≤ 1000))) = some (some #[zv], 1, true)) :
   ∃ inf z, P.info? e = some inf ∧ inf.zero = some z ∧ z.cells = #[zv] ∧ inf.size = 1 ∧ inf.bytes ≤ 1000 := by
 obtain ⟨i, h1, h2⟩ := Option.map_eq_some_iff.1 h
 simp only [Prod.mk.injEq, decide_eq_true_eq] at h2
 obtain ⟨h3, h4, h5⟩ := h2
 obtain ⟨z, h6, h7⟩ := Option.map_eq_some_iff.1 h3
 exact ⟨i, z, h1, h6, h7, h4, h5⟩
abbrev rowR (vs : Int → Value) (ls : Int → List Int) (j : Int) : Res := .row 3 (vs j) (ls j)
def rowsT (n : Int) (vs : Int → Value) (ls : Int → List Int) : List Res := (List.range n.toNat).map fun j : Nat => rowR vs ls (j : Int)
theorem rowsT_len (n : Int) (vs : Int → Value) (ls : Int → List Int) : (rowsT n vs ls).length = n.toNat := by simp [rowsT]
theorem rowsT_get {n a : Int} {vs : Int → Value} {ls : Int → List Int} (h0 : 0 ≤ a) (h1 : a < n) : (rowsT n vs ls)[a.toNat]? = some (rowR vs ls a) := by
 unfold rowsT
 rw [List.getElem?_map, List.getElem?_range (by omega)]
 simp only [Option.map_some]
 congr 2
 omega
theorem erase_split {α : Type _} {l : List α} {i : Nat} {x : α} (h : l[i]? = some x) : l = l.take i ++ x :: l.drop (i + 1) ∧ l.eraseIdx i = l.take i ++ l.drop (i + 1) := by
 obtain ⟨h1, h2⟩ := List.getElem?_eq_some_iff.1 h
 refine ⟨?_, List.eraseIdx_eq_take_drop_succ l i⟩
 conv => lhs; rw [← List.take_append_drop i l]
 rw [List.drop_eq_getElem_cons h1, h2]
section
variable {o : Orig} {w : World} {S : Stab} {n a : Int} {vs : Int → Value} {ls : Int → List Int}
theorem rows_new (rs : List Res) (H : Fr o w S rs) (n : Int) : Fr o w S (rs ++ rowsT n (fun _ => .slice none 0 0) (fun _ => [])) := by
 have key : ∀ k : Nat, Fr o w S (rs ++ List.replicate k (.row 3 (.slice none 0 0) ([] : List Int))) := by
   intro k
   induction k with
   | zero => simpa using H
   | succ k ih =>
     have h := ih.newRow (α := Int) 3
     rw [List.replicate_succ]
     exact h.perm List.perm_middle.symm
 have e : rowsT n (fun _ => .slice none 0 0) (fun _ => []) = List.replicate n.toNat (.row 3 (.slice none 0 0) ([] : List Int)) := by
   unfold rowsT
   apply List.ext_getElem
   · simp
   intro i h1 h2; simp
 rw [e]; exact key _
theorem rows_out (rs : List Res) (H : Fr o w S (rs ++ rowsT n vs ls)) (h0 : 0 ≤ a) (h1 : a < n) : Fr o w S (.row 3 (vs a) (ls a) :: (rs ++ (rowsT n vs ls).eraseIdx a.toNat)) := by
 obtain ⟨e1, e2⟩ := erase_split (rowsT_get (vs := vs) (ls := ls) h0 h1)
 refine H.perm ?_
 rw [e2]
 conv => lhs; rw [e1]
 rw [← List.append_assoc, ← List.append_assoc]
 exact List.perm_middle
theorem rows_in (rs : List Res) {v : Value} {l : List Int} (H : Fr o w S (.row 3 v l :: (rs ++ (rowsT n vs ls).eraseIdx a.toNat))) (h0 : 0 ≤ a) (h1 : a < n) : Fr o w S (rs ++ rowsT n (updF vs a v) (updF ls a l)) := by
 obtain ⟨e1, e2⟩ := erase_split (rowsT_get (vs := updF vs a v) (ls := updF ls a l) h0 h1)
 have e3 : (rowsT n (updF vs a v) (updF ls a l)).eraseIdx a.toNat = (rowsT n vs ls).eraseIdx a.toNat := by
   apply List.ext_getElem?
   intro q
   rw [List.getElem?_eraseIdx, List.getElem?_eraseIdx]
   have key : ∀ q : Nat, q ≠ a.toNat → (rowsT n (updF vs a v) (updF ls a l))[q]? = (rowsT n vs ls)[q]? := by
     intro q hq
     unfold rowsT
     rw [List.getElem?_map, List.getElem?_map]
     by_cases hn : q < n.toNat
     · rw [List.getElem?_range hn]
       simp only [Option.map_some, rowR]
       rw [updF_ne _ _ (by omega), updF_ne _ _ (by omega)]
     rw [List.getElem?_eq_none (by simp; omega)]; rfl
   split
   · exact key q (by omega)
   exact key (q + 1) (by omega)
 refine H.perm ?_
 rw [← e3, e2]
 conv => rhs; rw [e1]
 rw [← List.append_assoc, ← List.append_assoc]
 have e4 : rowR (updF vs a v) (updF ls a l) a = .row 3 v l := by simp only [rowR]; rw [updF_same, updF_same]
 rw [e4]
 exact List.perm_middle.symm
theorem Fr.sub {rs rs' : List Res} (h : Fr o w S rs) (hs : rs'.Sublist rs) : Fr o w S rs' where
 below := h.below
 src := h.src
 inb := h.inb
 ok r hr := h.ok r (hs.subset hr)
 own r hr := h.own r (hs.subset hr)
 nodup := List.Nodup.sublist (hs.filterMap _) h.nodup
theorem rows_freeze (rs : List Res) (H : Fr o w S (rs ++ rowsT n vs ls)) (j : Nat) {db : Nat} (hj : rs[j]? = some (.box db 27 (arrV n vs))) (hn : n ≤ 1000000) :
   ∃ S', Fr o w S' (rs.set j (.ro (.slice (some ⟨db, 0, none⟩) n.toNat n.toNat) ((List.range n.toNat).map fun q : Nat => ls (q : Int)))) := by
 have key : ∀ k : Nat, k ≤ n.toNat → ∃ S', Fr o w S' (rs ++ ((List.range k).map (fun q : Nat => Res.ro (vs (q : Int)) (ls (q : Int))) ++ (rowsT n vs ls).drop k)) := by
   intro k
   induction k with
   | zero => intro _; exact ⟨S, by simpa using H⟩
   | succ k ih =>
     intro hk
     obtain ⟨S', h⟩ := ih (by omega)
     have hget : (rowsT n vs ls)[k]? = some (rowR vs ls (k : Int)) := by
       have := rowsT_get (n := n) (vs := vs) (ls := ls) (a := (k : Int)) (by omega) (by omega)
       rwa [Int.toNat_natCast] at this
     have hidx : (rs ++ ((List.range k).map (fun q : Nat => Res.ro (vs (q : Int)) (ls (q : Int))) ++ (rowsT n vs ls).drop k))[rs.length + k]? = some (.row 3 (vs (k : Int)) (ls (k : Int))) := by
       rw [List.getElem?_append_right (by omega), List.getElem?_append_right (by simp), List.getElem?_drop]
       simp only [List.length_map, List.length_range]
       rw [show k + (rs.length + k - rs.length - k) = k by omega]
       exact hget
     obtain ⟨S2, _, h2⟩ := h.freeze (rs.length + k) hidx
     refine ⟨S2, ?_⟩
     have hd : (rowsT n vs ls).drop k = rowR vs ls (k : Int) :: (rowsT n vs ls).drop (k + 1) := by
       obtain ⟨h5, h6⟩ := List.getElem?_eq_some_iff.1 hget
       rw [List.drop_eq_getElem_cons h5, h6]
     rw [hd] at h2
     rw [List.set_append_right _ _ (by omega), show rs.length + k - rs.length = k by omega, List.set_append_right _ _ (by simp)] at h2
     simp only [List.length_map, List.length_range, Nat.sub_self, List.set_cons_zero] at h2
     rw [List.range_succ, List.map_append, List.append_assoc]
     exact h2
 obtain ⟨S', h⟩ := key n.toNat (Nat.le_refl _)
 have hd : (rowsT n vs ls).drop n.toNat = [] := List.drop_of_length_le (by rw [rowsT_len]; exact Nat.le_refl _)
 rw [hd, List.append_nil] at h
 have hrd : RowRd (α := List Int) S' w (arrV n vs) ((List.range n.toNat).map fun q : Nat => ls (q : Int)) := by
   refine ⟨by rw [arr_len, List.length_map, List.length_range]; show _ = _ * 1; omega, fun i hi => ?_⟩
   have hi' : i < n.toNat := by simpa using hi
   have hro : Rd S' w (vs (i : Int)) (ls (i : Int)) := h.ok (.ro (vs (i : Int)) (ls (i : Int))) (List.mem_append_right _ (List.mem_map.2 ⟨i, List.mem_range.2 hi', rfl⟩))
   show Data.rd S' w (((arrV n vs).drop (i * 1)).take 1) _
   have hg := arr_get (n := n) (f := vs) (i := (i : Int)) (by omega) (by omega)
   rw [Int.toNat_natCast] at hg
   obtain ⟨h5, h6⟩ := List.getElem?_eq_some_iff.1 hg
   rw [Nat.mul_one, List.drop_eq_getElem_cons h5, List.take_succ_cons, List.take_zero, h6]
   simp only [List.getElem_map, List.getElem_range]
   exact ⟨_, rfl, rd_slice hro⟩
 have hjl : j < rs.length := (List.getElem?_eq_some_iff.1 hj).1
 obtain ⟨S2, _, h2⟩ := h.freezeBox j (α := List Int) (by rw [List.getElem?_append_left hjl]; exact hj) hrd (n := n.toNat) (by simp) (by omega)
 rw [List.set_append_left _ _ hjl] at h2
 exact ⟨S2, h2.sub (List.sublist_append_left _ _)⟩
end
theorem dartsL_app {E : List (Int × Int)} {L M : List Int} {x : Int} : dartsL E (L ++ M) x = dartsL E L x ++ dartsL E M x := by unfold dartsL; rw [List.flatMap_append]
theorem darts_next {E : List (Int × Int)} {L : List Int} {i n a b : Int} {ls : Int → List Int} (h0 : 0 ≤ i) (h1 : i < (L.length : Int)) (h : ∀ x, 0 ≤ x → x < n → ls x = dartsL E (L.take i.toNat) x)
   (ha : (E.getD (L.getD i.toNat 0).toNat (0, 0)).1 = a) (hb : (E.getD (L.getD i.toNat 0).toNat (0, 0)).2 = b) :
   ∀ x, 0 ≤ x → x < n → updF (updF ls a (ls a ++ [2 * (L.getD i.toNat 0)])) b (updF ls a (ls a ++ [2 * (L.getD i.toNat 0)]) b ++ [2 * (L.getD i.toNat 0) + 1]) x = dartsL E (L.take (i + 1).toNat) x := by
 intro x hx0 hx1
 have e1 : L.take (i + 1).toNat = L.take i.toNat ++ [L.getD i.toNat 0] := by
   rw [show (i + 1).toNat = i.toNat + 1 by omega, List.take_add_one, List.getElem?_eq_getElem (by omega)]
   rw [List.getD_eq_getElem?_getD, List.getElem?_eq_getElem (by omega)]
   rfl
 have e2 : dartsL E [L.getD i.toNat 0] x = (if a = x then [2 * (L.getD i.toNat 0)] else []) ++ (if b = x then [2 * (L.getD i.toNat 0) + 1] else []) := by
   show List.flatMap _ [_] = _
   rw [List.flatMap_cons, List.flatMap_nil, List.append_nil, dartsFrom_0, ha, hb]
 rw [e1, dartsL_app, e2, ← h x hx0 hx1]
 by_cases hbx : b = x
 · subst hbx
   rw [updF_same, if_pos rfl]
   by_cases hax : a = b
   · rw [if_pos hax, hax, updF_same]; simp
   rw [if_neg hax, updF_ne _ _ (fun e => hax e.symm)]; simp
 rw [updF_ne _ _ (fun e => hbx e.symm), if_neg hbx]
 by_cases hax : a = x
 · rw [if_pos hax, hax, updF_same]; simp
 rw [if_neg hax, updF_ne _ _ (fun e => hax e.symm)]; simp
theorem darts_len {i a b : Int} {ls : Int → List Int} {d d' : Int} (h : ∀ x, ((ls x).length : Int) ≤ 2 * i) : ∀ x, (((updF (updF ls a (ls a ++ [d])) b (updF ls a (ls a ++ [d]) b ++ [d'])) x).length : Int) ≤ 2 * (i + 1) := by
 have h1 : ∀ x, ((updF ls a (ls a ++ [d]) x).length : Int) ≤ 2 * i + 1 := by
   intro x
   unfold updF
   split
   · have := h a; simp only [List.length_append, List.length_cons, List.length_nil]; omega
   have := h x; omega
 intro x
 by_cases e : x = b
 · rw [e, updF_same]; have := h1 b; simp only [List.length_append, List.length_cons, List.length_nil]; omega
 rw [updF_ne _ _ e]; have := h1 x; omega
theorem roots_nil {D : Int → List Int} {T : Int → Int} {s s' : Deep.St} (h : Deep.Roots D T [] s s') : s = s' := by cases h; rfl
theorem roots_met {D : Int → List Int} {T : Int → Int} {v : Int} {vs : List Int} {s s' : Deep.St} (h : Deep.Roots D T (v :: vs) s s') (h1 : s.met v ≠ 0) : Deep.Roots D T vs s s' := by
 cases h <;> first | assumption | contradiction
theorem roots_go {D : Int → List Int} {T : Int → Int} {v : Int} {vs : List Int} {s s' : Deep.St} (h : Deep.Roots D T (v :: vs) s s') (h1 : s.met v = 0) : ∃ s1 k, Deep.Visit D T k v (-1) s s1 ∧ Deep.Roots D T vs s1 s' := by
 cases h with
 | go _ h2 h3 => obtain ⟨k, hk⟩ := Deep.loop_visit h2; exact ⟨_, k, hk, h3⟩
 | met _ _ => contradiction
theorem Fr.order {o : Orig} {w : World} {S : Stab} (l tl : List Res) (H : Fr o w S (l ++ tl)) (is : List Nat) (h : is.Perm (List.range l.length)) : Fr o w S (is.filterMap (fun i => l[i]?) ++ tl) := by
 refine H.perm (List.Perm.append_right tl ?_)
 have h1 := h.filterMap (fun i => l[i]?)
 have h2 : ∀ l : List Res, (List.range l.length).filterMap (fun i => l[i]?) = l := by
   intro l
   induction l with
   | nil => rfl
   | cons x l ih =>
     rw [List.length_cons, List.range_succ_eq_map, List.filterMap_cons]
     simp only [List.getElem?_cons_zero, List.filterMap_map]
     congr 1
 rw [h2 l] at h1
 exact h1.symm
theorem range_getD {n : Int} {ls : Int → List Int} {x : Int} (h0 : 0 ≤ x) (h1 : x < n) : ((List.range n.toNat).map fun q : Nat => ls (q : Int)).getD x.toNat [] = ls x := by
 rw [List.getD_eq_getElem?_getD, List.getElem?_map, List.getElem?_range (by omega)]
 simp only [Option.map_some, Option.getD_some]
 congr 1; omega
theorem cell_twoC {α β : Type} [Data α] [Data β] {T : Stab} {C : World → Prop} {w : World} {v : Value} {l : List (List α × List β)} (hC : ∀ w', C w' → Keeps T w w') (h : Rd T w v l) (i : Int) :
   ∃ a b, (0 ≤ i → i < (l.length : Int) → RowOk C (hdB v) (hdO v + i.toNat * 2) 2 #[a, b]) ∧ (0 ≤ i → i < (l.length : Int) → Rd T w a (l.getD i.toNat ([], [])).1) ∧ (0 ≤ i → i < (l.length : Int) → Rd T w b (l.getD i.toNat ([], [])).2) := by
 by_cases hb : 0 ≤ i ∧ i < (l.length : Int)
 · obtain ⟨cs, ⟨c1, c2, rfl, ⟨u1, rfl, h1⟩, ⟨u2, rfl, h2⟩⟩, hc⟩ := cells_atC hC h hb.1 hb.2 ([], [])
   refine ⟨u1, u2, fun _ _ => ⟨rfl, fun w' hw' j hj => ?_⟩, fun _ _ => slice_rd h1, fun _ _ => slice_rd h2⟩
   have := hc j (show j < 1 + 1 by omega) w' hw'
   have e : hdO v + i.toNat * Data.size (List α × List β) + j = hdO v + i.toNat * 2 + j := rfl
   rw [e] at this
   rw [this]
   rcases j with _ | _ | j
   · rfl
   · rfl
   omega
 exact ⟨undef, undef, fun a b => (hb ⟨a, b⟩).elim, fun a b => (hb ⟨a, b⟩).elim, fun a b => (hb ⟨a, b⟩).elim⟩
theorem row_cellC {C : World → Prop} {b o n : Nat} {us : Array Value} (h : RowOk C b o n us) (j : Nat) {u : Value} (hu : us[j]? = some u := by kernel_rfl) (hj : decide (j < n) = true := by kernel_rfl) : CellOk C b (o + j) u := fun w hw => by
 rw [h.2 w hw j (of_decide_eq_true hj), hu]
section
variable {P : Program} {Q : Exit → Act → World → Prop} {a : Act} {w : World}
end
structure Raw where
 v : Value
instance : Data Raw where
 size := 1
 isAgg := false
 rd _ _ cs x := cs = [x.v] ∧ x.v.oneCell' = true
 len h := by rw [h.1]; rfl
 up _ h := h
 keep _ h := h
 one h u hu := by rw [h.1] at hu; simp at hu; subst hu; exact h.2
abbrev mapN (P : Program) (kt : TypeId) (b : Nat) (m : List (Int × Int)) : Res := mapR P kt (α := Int) b (m.map fun q => (q.1, Value.int .i64 q.2, q.2))
section
variable {P : Program} {o : Orig} {w : World} {S : Stab} {rs : List Res} {kt et t : TypeId}
end
section
variable {P : Program} {Q : Exit → Act → World → Prop} {a : Act} {w : World}
end
section
variable {P : Program} {Q : Exit → Act → World → Prop} {a : Act} {w : World}
end
section
variable {P : Program} {Q : Post} {a : Act} {w : World}
end
def ButL (w : World) (ms : List Nat) (w' : World) : Prop := w.heap.size ≤ w'.heap.size ∧ ∀ k, k < w.heap.size → k ∉ ms → w'.heap[k]? = w.heap[k]?
theorem ButL.drew (w : World) (ms : List Nat) : ButL w ms { w with drawn := w.drawn + 1 } := ⟨Nat.le_refl _, fun _ _ _ => rfl⟩
theorem ButL.grown {w w1 w2 : World} {ms : List Nat} {row : Option Nat} (h : ButL w ms w1) (hg : w1.grownBy w2 row) (hr : ∀ b, row = some b → b ∈ ms ∨ w.heap.size ≤ b) : ButL w ms w2 := by
 refine ⟨Nat.le_trans h.1 hg.size, fun k hk hm => ?_⟩
 rw [hg.block k (Nat.lt_of_lt_of_le hk h.1) (fun e => by
   rcases hr k e.symm with h1 | h1
   · exact hm h1
   omega)]
 exact h.2 k hk hm
theorem ButL.below {w w1 w2 : World} {ms : List Nat} (h : ButL w ms w1) (hb : Below w1.heap.size w1 w2) : ButL w ms w2 :=
 ⟨Nat.le_trans h.1 hb.size, fun k hk hm => (hb.block k (Nat.lt_of_lt_of_le hk h.1)).trans (h.2 k hk hm)⟩
theorem Fr.pick {o : Orig} {w : World} {S : Stab} {rs rs' : List Res} (js : List Nat) (H : Fr o w S rs) (hjs : js.map (fun j => rs[j]?) = rs'.map some) (hn : js.Nodup) : Fr o w S rs' where
 below := H.below
 src := H.src
 inb := H.inb
 ok r hr := by
   obtain ⟨j, _, hj⟩ := List.mem_map.1 (show some r ∈ js.map (fun j => rs[j]?) by rw [hjs]; exact List.mem_map.2 ⟨r, hr, rfl⟩)
   exact H.ok r (List.mem_of_getElem? hj)
 own r hr := by
   obtain ⟨j, _, hj⟩ := List.mem_map.1 (show some r ∈ js.map (fun j => rs[j]?) by rw [hjs]; exact List.mem_map.2 ⟨r, hr, rfl⟩)
   exact H.own r (List.mem_of_getElem? hj)
 nodup := by
   rw [List.Nodup, List.pairwise_filterMap, List.pairwise_iff_getElem]
   intro i k hi hk hik b hb c hc e
   have hl : js.length = rs'.length := by have := congrArg List.length hjs; simpa using this
   have h1 : rs[js[i]'(by omega)]? = some rs'[i] := by
     have h1 := congrArg (fun z : List (Option Res) => z[i]?) hjs
     simp only [List.getElem?_map, List.getElem?_eq_getElem (show i < js.length by omega), List.getElem?_eq_getElem hi, Option.map_some] at h1
     exact Option.some.inj h1
   have h2 : rs[js[k]'(by omega)]? = some rs'[k] := by
     have h1 := congrArg (fun z : List (Option Res) => z[k]?) hjs
     simp only [List.getElem?_map, List.getElem?_eq_getElem (show k < js.length by omega), List.getElem?_eq_getElem hk, Option.map_some] at h1
     exact Option.some.inj h1
   have hne : js[i]'(by omega) ≠ js[k]'(by omega) := by
     rw [List.Nodup, List.pairwise_iff_getElem] at hn
     exact hn i k (by omega) (by omega) hik
   exact H.apart _ _ hne h1 h2 hb (by rw [hc, e])
def idxP {α : Type} (p : α → Bool) (l : List α) : Int := (l.findIdx? p).elim (-1) (fun i => (i : Int))
structure DelI (p : Int → Bool) (l : List Int) (j i : Int) (c : List Int) : Prop where
 i0 : 0 ≤ i
 ij : i < j
 jn : j ≤ (l.length : Int)
 len : c.length = l.length
 front : c.take i.toNat = (l.take j.toNat).filter (fun x => !p x)
 back : ∀ q : Nat, j ≤ (q : Int) → c.getD q 0 = l.getD q 0
def TailOf (v : Value) (k n : Nat) (u : Value) : Prop := ∃ c, u = .slice (some ⟨hdB v, k, none⟩) (n - k) c
section
variable {P : Program} {Q : Exit → Act → World → Prop} {a : Act} {w : World}
end
inductive Kc where
 | int
 | str
def KEl : Kc → Type
 | .int => Int
 | .str => ByteArray
instance kdec : (k : Kc) → DecidableEq (KEl k)
 | .int => (inferInstance : DecidableEq Int)
 | .str => (inferInstance : DecidableEq ByteArray)
def kval : (k : Kc) → KEl k → Value
 | .int, n => .int .i64 n
 | .str, s => .string s
def klit : (k : Kc) → KEl k → Lit
 | .int, n => .int .i64 n
 | .str, s => .string s.data.toList
def kdesc : Kc → TypeDesc
 | .int => .int .i64
 | .str => .string
def kwf : (k : Kc) → KEl k → Prop
 | .int, n => wfI n
 | .str, s => ByteArray.size s ≤ maxLen
def ilt (a b : Int) : Bool := decide (a < b)
def kbef : (k : Kc) → KEl k → KEl k → Bool
 | .int, a, b => ilt a b
 | .str, a, b => bytesBefore a.data.toList b.data.toList
theorem kbef_lit : ∀ (k : Kc) (a b : KEl k), (klit k a).before (klit k b) = kbef k a b
 | .int, _, _ => rfl
 | .str, _, _ => rfl
theorem klit_inj : ∀ (k : Kc) {a b : KEl k}, klit k a = klit k b → a = b
 | .int, a, b, h => by cases h; rfl
 | .str, a, b, h => by
   have h : Lit.string a.data.toList = .string b.data.toList := h
   have h2 := Lit.string.inj h
   obtain ⟨⟨a⟩⟩ := a; obtain ⟨⟨b⟩⟩ := b
   have h2 : a = b := h2
   subst h2; rfl
theorem klit_same (k : Kc) (a b : KEl k) : (klit k a).sameKey (klit k b) = decide (a = b) := by
 by_cases e : a = b
 · subst e
   rw [decide_eq_true rfl]
   cases k
   · have h : ∀ n : Int, (Lit.int .i64 n).sameKey (.int .i64 n) = true := fun n => by simp [Lit.sameKey]
     exact h a
   exact beq_self_eq_true _
 rw [decide_eq_false e]
 exact Bool.eq_false_iff.2 fun q => e (klit_inj k (WideAt.sameKey_eq q))
theorem klit_key : ∀ (k : Kc) (a : KEl k), WideAt.IsKeyLit (klit k a)
 | .int, _ => by simp [klit, WideAt.IsKeyLit]
 | .str, _ => by simp [klit, WideAt.IsKeyLit]
def kkey : Kc → Value → Option Lit
 | .int, .int q n => if q = .i64 ∧ (Lit.int .i64 n).wf = true then some (.int .i64 n) else none
 | .str, .string s => if s.size ≤ maxLen then some (.string s.data.toList) else none
 | _, _ => none
section
variable {P P' : Program} {kt kt' et t : TypeId} {k : Kc}
theorem kkey_eq (h : P.underlying kt = some (kdesc k)) : keyOf P kt = kkey k := by
 funext v
 cases k
 · have h : P.underlying kt = some (.int .i64) := h
   cases v <;> simp [keyOf, mapKey, h, kkey]
 have h : P.underlying kt = some .string := h
 cases v <;> simp [keyOf, mapKey, h, kkey]
theorem kkeyed (h : P.underlying kt = some (kdesc k)) : Maps.Keyed P kt := by
 cases k
 · exact Maps.int_keyed h
 exact Maps.string_keyed h
theorem kkey_of (h : P.underlying kt = some (kdesc k)) {x : KEl k} (hw : kwf k x) : keyOf P kt (kval k x) = some (klit k x) := by
 rw [kkey_eq h]
 cases k
 · have h : ∀ n : Int, wfI n → kkey .int (.int .i64 n) = some (.int .i64 n) := fun n hn => by unfold kkey; exact if_pos ⟨rfl, wf_of hn⟩
   exact h x hw
 have h : ∀ s : ByteArray, s.size ≤ maxLen → kkey .str (.string s) = some (.string s.data.toList) := fun n hn => by unfold kkey; exact if_pos hn
 exact h x hw
theorem kkey_inv {v : Value} {l : Lit} (h : kkey k v = some l) : ∃ x : KEl k, v = kval k x ∧ l = klit k x ∧ kwf k x := by
 cases k
 · have key : ∀ v : Value, kkey .int v = some l → ∃ n : Int, v = .int .i64 n ∧ l = .int .i64 n ∧ wfI n := by
     intro v h
     cases v with
     | int q n =>
       have h : (if q = .i64 ∧ (Lit.int .i64 n).wf = true then some (Lit.int .i64 n) else none) = some l := h
       split at h
       · rename_i hq
         cases h; obtain ⟨rfl, hw⟩ := hq
         refine ⟨n, rfl, rfl, ?_⟩
         have hw : (decide (IntKind.min .i64 ≤ n) && decide (n ≤ IntKind.max .i64)) = true := hw
         simp only [Bool.and_eq_true, decide_eq_true_eq] at hw
         have h1 : IntKind.min .i64 = -9223372036854775808 := by decide
         have h2 : IntKind.max .i64 = 9223372036854775807 := by decide
         rw [h1, h2] at hw
         exact hw
       cases h
     | _ => cases h
   exact key v h
 have key : ∀ v : Value, kkey .str v = some l → ∃ s : ByteArray, v = .string s ∧ l = .string s.data.toList ∧ s.size ≤ maxLen := by
   intro v h
   cases v with
   | string s =>
     have h : (if s.size ≤ maxLen then some (Lit.string s.data.toList) else none) = some l := h
     split at h
     · rename_i hq; cases h; exact ⟨s, rfl, rfl, hq⟩
     cases h
   | _ => cases h
 exact key v h
end
section
variable {k : Kc} {α β : Type}
def lookK (l : List (KEl k × α)) (x : KEl k) : Option α := (l.find? fun p => decide (p.1 = x)).map (·.2)
def delK (l : List (KEl k × α)) (x : KEl k) : List (KEl k × α) := l.filter fun p => !decide (p.1 = x)
def insK (p : KEl k × α) : List (KEl k × α) → List (KEl k × α)
 | [] => [p]
 | y :: r => if kbef k p.1 y.1 then p :: y :: r else y :: insK p r
def putK (l : List (KEl k × α)) (x : KEl k) (v : α) : List (KEl k × α) := insK (x, v) (delK l x)
def encK (l : List (KEl k × Value)) : DataW Value := .map (l.map fun p => (klit k p.1, .held p.2))
theorem enc_insK (p : KEl k × Value) : ∀ l : List (KEl k × Value), (insK p l).map (fun p => (klit k p.1, DataW.held p.2)) = DataW.insert (klit k p.1, .held p.2) (l.map fun p => (klit k p.1, DataW.held p.2))
 | [] => rfl
 | y :: r => by
   simp only [insK, List.map_cons, DataW.insert, kbef_lit]
   split
   · rfl
   rw [List.map_cons, enc_insK p r]
theorem enc_del (l : List (KEl k × Value)) (x : KEl k) : (encK l).del (klit k x) = encK (delK l x) := by
 unfold encK DataW.del delK
 simp only [List.filter_map]
 congr 2
 refine List.filter_congr fun p _ => ?_
 simp only [Function.comp_apply, klit_same]
theorem enc_put (l : List (KEl k × Value)) (x : KEl k) (v : Value) : (encK l).put (klit k x) (.held v) = encK (putK l x v) := by
 have h : (encK l).put (klit k x) (.held v) = .map (DataW.insert (klit k x, .held v) ((l.map fun p => (klit k p.1, DataW.held p.2)).filter fun p => !p.1.sameKey (klit k x))) := rfl
 have h2 : (encK l).del (klit k x) = .map ((l.map fun p => (klit k p.1, DataW.held p.2)).filter fun p => !p.1.sameKey (klit k x)) := rfl
 rw [enc_del] at h2
 have h3 := DataW.map.inj h2
 rw [h, ← h3]
 exact congrArg DataW.map (enc_insK (x, v) (delK l x)).symm
theorem enc_at (l : List (KEl k × Value)) (x : KEl k) (z : DataW Value) : (encK l).atKey (klit k x) z = match lookK l x with | some v => .held v | none => z := by
 unfold encK lookK DataW.atKey
 simp only [List.find?_map]
 have : ((fun p : Lit × DataW Value => p.1.sameKey (klit k x)) ∘ fun p : KEl k × Value => (klit k p.1, DataW.held p.2)) = fun p => decide (p.1 = x) := by
   funext p; exact klit_same k _ _
 rw [this]
 cases l.find? fun p => decide (p.1 = x) <;> rfl
theorem enc_has (l : List (KEl k × Value)) (x : KEl k) : Maps.has (encK l) (klit k x) = (lookK l x).isSome := by
 unfold encK lookK Maps.has
 simp only [List.any_map, Option.isSome_map, List.find?_isSome]
 rw [Bool.eq_iff_iff]
 simp [klit_same]
theorem insK_len (p : KEl k × α) : ∀ l : List (KEl k × α), (insK p l).length = l.length + 1
 | [] => rfl
 | y :: r => by unfold insK; split <;> simp [insK_len p r]
theorem putK_len (l : List (KEl k × α)) (x : KEl k) (v : α) : (putK l x v).length ≤ l.length + 1 := by
 unfold putK delK; rw [insK_len]; exact Nat.succ_le_succ (List.length_filter_le _ _)
theorem map_insK (f : α → β) (p : KEl k × α) : ∀ l : List (KEl k × α), (insK p l).map (fun q => (q.1, f q.2)) = insK (p.1, f p.2) (l.map fun q => (q.1, f q.2))
  | [] => rfl
  | y :: r => by simp only [insK, List.map_cons]; split; · rfl
                 · rw [List.map_cons, map_insK f p r]
theorem map_delK (f : α → β) (l : List (KEl k × α)) (x : KEl k) : (delK l x).map (fun q => (q.1, f q.2)) = delK (l.map fun q => (q.1, f q.2)) x := by
 unfold delK; rw [List.filter_map]; rfl
theorem map_putK (f : α → β) (l : List (KEl k × α)) (x : KEl k) (v : α) : (putK l x v).map (fun q => (q.1, f q.2)) = putK (l.map fun q => (q.1, f q.2)) x (f v) := by
 unfold putK; rw [map_insK, map_delK]
theorem map_lookK (f : α → β) (l : List (KEl k × α)) (x : KEl k) : lookK (l.map fun q => (q.1, f q.2)) x = (lookK l x).map f := by
 unfold lookK; rw [List.find?_map]
 show Option.map _ (Option.map _ (l.find? fun p => decide (p.1 = x))) = _
 cases l.find? fun p => decide (p.1 = x) <;> rfl
theorem mem_insK {p q : KEl k × α} : ∀ {l : List (KEl k × α)}, q ∈ insK p l ↔ q = p ∨ q ∈ l
 | [] => by simp [insK]
 | y :: r => by
   unfold insK; split
   · simp
   simp only [List.mem_cons, mem_insK (l := r)]
   constructor
   · rintro (h | h | h)
     · exact .inr (.inl h)
     · exact .inl h
     exact .inr (.inr h)
   rintro (h | h | h)
   · exact .inr (.inl h)
   · exact .inl h
   exact .inr (.inr h)
theorem mem_putK {l : List (KEl k × α)} {x : KEl k} {v : α} {q : KEl k × α} : q ∈ putK l x v ↔ q = (x, v) ∨ q ∈ l ∧ q.1 ≠ x := by
 unfold putK delK; rw [mem_insK]; simp
theorem lookK_mem {l : List (KEl k × α)} {x : KEl k} {v : α} (h : lookK l x = some v) : (x, v) ∈ l := by
 unfold lookK at h
 obtain ⟨p, h1, h2⟩ := Option.map_eq_some_iff.1 h
 have := List.find?_some h1
 have e : p.1 = x := by simpa using this
 subst e; subst h2
 exact List.mem_of_find?_eq_some h1
theorem lookK_none {l : List (KEl k × α)} {x : KEl k} : lookK l x = none ↔ ∀ v, (x, v) ∉ l := by
 unfold lookK
 rw [Option.map_eq_none_iff, List.find?_eq_none]
 constructor
 · intro h v hm; have := h _ hm; simp at this
 intro h p hp q; have e : p.1 = x := by simpa using q
 exact h p.2 (by rw [← e]; exact hp)
theorem lookK_ins (p : KEl k × α) (x : KEl k) : ∀ l : List (KEl k × α), (∀ q ∈ l, q.1 ≠ p.1) → lookK (insK p l) x = if p.1 = x then some p.2 else lookK l x
 | [], _ => by unfold lookK insK; by_cases e : p.1 = x <;> simp [e]
 | y :: r, h => by
   have ih := lookK_ins p x r fun q hq => h q (List.mem_cons_of_mem _ hq)
   unfold insK
   split
   · unfold lookK
     by_cases e : p.1 = x
     · simp [e]
     simp [List.find?_cons, e]
   by_cases e2 : y.1 = x
   · have hne : p.1 ≠ x := fun e => h y (by simp) (e2.trans e.symm)
     rw [if_neg hne]
     unfold lookK; simp [List.find?_cons, e2]
   have s1 : lookK (y :: insK p r) x = lookK (insK p r) x := by unfold lookK; simp [List.find?_cons, e2]
   have s2 : lookK (y :: r) x = lookK r x := by unfold lookK; simp [List.find?_cons, e2]
   rw [s1, s2, ih]
theorem lookK_del (l : List (KEl k × α)) (y x : KEl k) : lookK (delK l y) x = if y = x then none else lookK l x := by
 by_cases e : y = x
 · rw [if_pos e, lookK_none]
   intro v hm
   unfold delK at hm
   have := (List.mem_filter.1 hm).2
   simp [e] at this
 rw [if_neg e]
 unfold lookK delK
 rw [List.find?_filter]
 congr 2
 funext p
 by_cases q : p.1 = x
 · have : ¬ x = y := fun h => e h.symm
   simp [q, this]
 simp [q]
theorem lookK_put (l : List (KEl k × α)) (y x : KEl k) (v : α) : lookK (putK l y v) x = if y = x then some v else lookK l x := by
 unfold putK
 rw [lookK_ins _ _ _ (fun q hq => by have := (List.mem_filter.1 hq).2; simpa using this), lookK_del]
 by_cases e : y = x
 · rw [if_pos e, if_pos e]
 rw [if_neg e, if_neg e, if_neg e]
end
def OwnsK (k : Kc) (w : World) (b : Nat) (l : List (KEl k × Value)) : Prop := ∃ P kt, P.underlying kt = some (kdesc k) ∧ w.ownsMap P kt Rv b l.length (encK l)
section
variable {P P' : Program} {kt kt' et t : TypeId} {k : Kc} {w w' : World} {b n : Nat} {l : List (KEl k × Value)}
theorem owns_same (h : keyOf P kt = keyOf P' kt') {D : DataW Value} (ho : w.ownsMap P kt Rv b n D) : w.ownsMap P' kt' Rv b n D := by
 obtain ⟨es, clock, hb, F, hs, hD⟩ := ho
 have hrd : WideElems.rd P kt Rv = WideElems.rd P' kt' Rv := by
   funext x; unfold WideElems.rd; rw [h]
 have hrg : WideElems.rg P kt Rv = WideElems.rg P' kt' Rv := by
   funext x; unfold WideElems.rg; rw [hrd]
 exact ⟨es, clock, hb, ⟨F.size, F.stamped, by rw [← hrd]; exact F.reads⟩, hs, by rw [← hrg]; exact hD⟩
theorem owns_len {D : DataW Value} (ho : w.ownsMap P kt Rv b n D) : w.ownsMap P kt Rv b (Maps.size D) D := by
 obtain ⟨es, clock, hb, F, hs, rfl⟩ := ho
 exact ⟨es, clock, hb, F, by simp [Maps.size, length_sorted], rfl⟩
theorem OwnsK.to (h : OwnsK k w b l) (hu : P.underlying kt = some (kdesc k)) : w.ownsMap P kt Rv b l.length (encK l) := by
 obtain ⟨P', kt', hu', ho⟩ := h
 exact owns_same ((kkey_eq hu').trans (kkey_eq hu).symm) ho
theorem OwnsK.mk (hu : P.underlying kt = some (kdesc k)) (ho : w.ownsMap P kt Rv b n (encK l)) : OwnsK k w b l := by
 have := owns_len ho
 have e : Maps.size (encK l) = l.length := by simp [Maps.size, encK]
 rw [e] at this
 exact ⟨P, kt, hu, this⟩
theorem OwnsK.keep (h : OwnsK k w b l) (hb : w'.heap[b]? = w.heap[b]?) : OwnsK k w' b l := by
 obtain ⟨P, kt, hu, es, clock, hb', r⟩ := h
 exact ⟨P, kt, hu, es, clock, hb.trans hb', r⟩
theorem OwnsK.lt (h : OwnsK k w b l) : b < w.heap.size := by obtain ⟨P, kt, hu, ho⟩ := h; exact ho.lt
theorem OwnsK.new (w : World) (hu : P.underlying kt = some (kdesc k)) : OwnsK k (w.alloc (.map #[] 0)) w.heap.size [] := OwnsK.mk hu (World.ownsMap_made (H := Value) w P kt Rv)
theorem OwnsK.wf (h : OwnsK k w b l) : ∀ p ∈ l, kwf k p.1 := by
 obtain ⟨P, kt, hu, es, clock, hb, F, hs, hD⟩ := h
 intro p hp
 have h1 : (klit k p.1, DataW.held p.2) ∈ (es.toList.map (WideElems.rg P kt Rv)).foldr DataW.insert [] := by
   rw [← DataW.map.inj hD]; exact List.mem_map.2 ⟨p, hp, rfl⟩
 obtain ⟨x, hx, hxe⟩ := List.mem_map.1 (mem_sorted.1 h1)
 obtain ⟨y, hy⟩ := F.reads x hx
 have hk := WideElems.rd_key hy
 rw [kkey_eq hu] at hk
 obtain ⟨z, _, hz, hw⟩ := kkey_inv hk
 have : WideElems.rg P kt Rv x = y := by unfold WideElems.rg; rw [hy]; rfl
 rw [this] at hxe
 have hz2 : klit k p.1 = klit k z := by rw [← hz, hxe]
 rw [klit_inj k hz2]; exact hw
theorem OwnsK.look (h : OwnsK k w b l) (ht : P.underlying t = some (.map kt et)) (hu : P.underlying kt = some (kdesc k)) {z : Value} (hz : (zeroValue et).run P w = .ok z w) {x : KEl k} (hx : kwf k x) :
   (Instr.lookup t (.map (some b)) (kval k x) false).run P w = .ok ((lookK l x).getD z) w := by
 obtain ⟨v, ps, hrun, hv⟩ := (h.to hu).lookup (kkeyed hu) ht hz (zd := .held z) (zp := []) rfl (kkey_of hu hx)
 rw [enc_at] at hv
 rw [hrun]
 cases hl : lookK l x with
 | none => rw [hl] at hv; simp only [Rv, Option.some.injEq, Prod.mk.injEq, DataW.held.injEq] at hv; rw [hv.1]; rfl
 | some u => rw [hl] at hv; simp only [Rv, Option.some.injEq, Prod.mk.injEq, DataW.held.injEq] at hv; rw [hv.1]; rfl
theorem OwnsK.lookT (h : OwnsK k w b l) (ht : P.underlying t = some (.map kt et)) (hu : P.underlying kt = some (kdesc k)) {z : Value} (hz : (zeroValue et).run P w = .ok z w) {x : KEl k} (hx : kwf k x) :
   (Instr.lookup t (.map (some b)) (kval k x) true).run P w = .ok (.tuple #[(lookK l x).getD z, .bool (lookK l x).isSome]) w := by
 obtain ⟨v, ps, hrun, hv⟩ := (h.to hu).look_ok (kkeyed hu) ht hz (zd := .held z) (zp := []) rfl (kkey_of hu hx)
 rw [enc_at] at hv
 rw [hrun, enc_has]
 cases hl : lookK l x with
 | none => rw [hl] at hv; simp only [Rv, Option.some.injEq, Prod.mk.injEq, DataW.held.injEq] at hv; rw [hv.1]; rfl
 | some u => rw [hl] at hv; simp only [Rv, Option.some.injEq, Prod.mk.injEq, DataW.held.injEq] at hv; rw [hv.1]; rfl
theorem OwnsK.put (h : OwnsK k w b l) (ht : P.underlying t = some (.map kt et)) (hu : P.underlying kt = some (kdesc k)) (hl : l.length ≤ 2147483647) {x : KEl k} (hx : kwf k x) (v : Value) :
   ∃ w', (Instr.mapUpdate t (.map (some b)) (kval k x) v).run P w = .ok () w' ∧ OwnsK k w' b (putK l x v) ∧ w.grownBy w' (some b) ∧ w'.heap.size = w.heap.size := by
 obtain ⟨w', hrun, ho, hG⟩ := (h.to hu).store (kkeyed hu) ht (by simp only [maxLen]; omega) (kkey_of hu hx) (val := v) (d := .held v) (ps := []) rfl
 rw [enc_put] at ho
 refine ⟨w', hrun, OwnsK.mk hu ho, hG.grown, ?_⟩
 obtain ⟨_, _, _, _, _, rfl⟩ := hG
 simp [ChangeMaps.setBlock]
theorem OwnsK.drop (h : OwnsK k w b l) (ht : P.underlying t = some (.map kt et)) (hu : P.underlying kt = some (kdesc k)) {x : KEl k} (hx : kwf k x) (ty : TypeId) :
   ∃ w', (Builtin.delete_ #[t, kt] ty #[.map (some b), kval k x]).run P w = .ok (.tuple #[]) w' ∧ OwnsK k w' b (delK l x) ∧ w.grownBy w' (some b) := by
 obtain ⟨w', hrun, ho, hG⟩ := (h.to hu).drop (kkeyed hu) ht (kkey_of hu hx) ty
 rw [enc_del] at ho
 exact ⟨w', hrun, OwnsK.mk hu ho, hG.grown⟩
theorem OwnsK.len (h : OwnsK k w b l) (ht : P.underlying t = some (.map kt et)) (hu : P.underlying kt = some (kdesc k)) (ty : TypeId) : (Builtin.len_ #[t] ty #[.map (some b)]).run P w = .ok (.int .i64 (l.length : Int)) w := by
 have := (h.to hu).len ht ty
 have e : Maps.size (encK l) = l.length := by simp [Maps.size, encK]
 rw [e] at this; exact this
end
section
variable {α : Type}
def lkI (m : List (Int × α)) (x : Int) : Option α := lookK (k := .int) m x
def ptI (m : List (Int × α)) (x : Int) (v : α) : List (Int × α) := putK (k := .int) m x v
def dlI (m : List (Int × α)) (x : Int) : List (Int × α) := delK (k := .int) m x
theorem lkI_pt (m : List (Int × α)) (y x : Int) (v : α) : lkI (ptI m y v) x = if y = x then some v else lkI m x := lookK_put (k := .int) m y x v
theorem ptI_len (m : List (Int × α)) (x : Int) (v : α) : (ptI m x v).length ≤ m.length + 1 := putK_len (k := .int) m x v
theorem lkI_none {m : List (Int × α)} {x : Int} : lkI m x = none ↔ ∀ v, (x, v) ∉ m := lookK_none (k := .int)
theorem lkI_mem {m : List (Int × α)} {x : Int} {v : α} (h : lkI m x = some v) : (x, v) ∈ m := lookK_mem (k := .int) h
theorem mem_ptI {m : List (Int × α)} {x : Int} {v : α} {q : Int × α} : q ∈ ptI m x v ↔ q = (x, v) ∨ q ∈ m ∧ q.1 ≠ x := mem_putK (k := .int)
theorem insK_perm {k : Kc} (p : KEl k × α) : ∀ l : List (KEl k × α), (insK p l).Perm (p :: l)
 | [] => List.Perm.refl _
 | y :: r => by
   unfold insK; split
   · exact List.Perm.refl _
   exact (List.Perm.cons y (insK_perm p r)).trans (List.Perm.swap p y r)
theorem delK_none {k : Kc} {l : List (KEl k × α)} {x : KEl k} (h : lookK l x = none) : delK l x = l := by
 unfold delK
 rw [List.filter_eq_self]
 intro p hp
 have := lookK_none.1 h p.2
 by_cases e : p.1 = x
 · exact (this (by rw [← e]; exact hp)).elim
 simp [e]
theorem putK_perm {k : Kc} {l : List (KEl k × α)} {x : KEl k} {v : α} (h : lookK l x = none) : (putK l x v).Perm ((x, v) :: l) := by
 unfold putK; rw [delK_none h]; exact insK_perm _ _
theorem ptI_perm {m : List (Int × α)} {x : Int} {v : α} (h : lkI m x = none) : (ptI m x v).Perm ((x, v) :: m) := putK_perm (k := .int) h
end
theorem entry_any {P P' : Program} {r b since c0 clock : Nat} {seen : Array Nat} {es : Array MapEntry} {w w' : World} {v : Value} (h : (Instr.entry (.pointer (some ⟨r, 0, none⟩))).run P w = .ok v w)
   (hb : w.heap[b]? = some (.map es clock)) (hr : w.heap[r]? = some (.mapIter (some b) since seen c0)) (hb' : w'.heap[b]? = w.heap[b]?) (hr' : w'.heap[r]? = w.heap[r]?) : (Instr.entry (.pointer (some ⟨r, 0, none⟩))).run P' w' = .ok v w' := by
 rw [hb] at hb'; rw [hr] at hr'
 simp only [Instr.entry, getObj, Sem.run_bind, Sem.run, hr, hb, Result.andThen] at h
 simp only [Instr.entry, getObj, Sem.run_bind, Sem.run, hr', hb', Result.andThen]
 revert h
 generalize seen.back? = bk
 cases bk with
 | none => intro h; simp [Sem.run] at h
 | some q =>
   intro h
   simp only [Sem.run_bind, Sem.run, hb, Result.andThen] at h
   simp only [Sem.run_bind, Sem.run, hb', Result.andThen]
   revert h
   cases hq : (clock != c0) with
   | true => intro h; simp [Sem.run, Sem.run_bind, unsupported, Result.andThen] at h
   | false =>
     simp only [Bool.false_eq_true, if_false]
     cases hf : es.find? (fun x => x.born == q) with
     | none => intro h; simp [Sem.run, unsupported] at h
     | some e => intro h; simp only [Sem.run_pure] at h ⊢; cases h; rfl
def IterAt (k : Kc) (w : World) (mb r : Nat) (l : List (KEl k × Value)) (lf : KEl k → Bool) (cnt : Nat) (cur : Option (KEl k × Value)) : Prop :=
 (∃ P kt left, P.underlying kt = some (kdesc k) ∧ w.ranges P kt Rv mb r l.length (encK l) left cnt ∧ ∀ x, left (klit k x) = lf x) ∧
 ∀ x v, cur = some (x, v) → ∀ (P : Program) (w' : World), w'.heap[mb]? = w.heap[mb]? → w'.heap[r]? = w.heap[r]? → (Instr.entry (.pointer (some ⟨r, 0, none⟩))).run P w' = .ok (.tuple #[kval k x, v]) w'
section
variable {P P' : Program} {kt kt' et t : TypeId} {k : Kc} {w w' : World} {mb r n cnt : Nat} {l : List (KEl k × Value)} {lf : KEl k → Bool} {cur : Option (KEl k × Value)}
theorem IterAt.keep (h : IterAt k w mb r l lf cnt cur) (hb : w'.heap[mb]? = w.heap[mb]?) (hr : w'.heap[r]? = w.heap[r]?) : IterAt k w' mb r l lf cnt cur := by
 obtain ⟨⟨P, kt, left, hu, ⟨es, clock, since, seen, c0, h1, F, hs, hD, h2, rest⟩, hl⟩, hc⟩ := h
 exact ⟨⟨P, kt, left, hu, ⟨es, clock, since, seen, c0, hb.trans h1, F, hs, hD, hr.trans h2, rest⟩, hl⟩, fun x v e P w'' h3 h4 => hc x v e P w'' (h3.trans hb) (h4.trans hr)⟩
theorem IterAt.lt (h : IterAt k w mb r l lf cnt cur) : r < w.heap.size := by obtain ⟨⟨P, kt, left, hu, h, _⟩, _⟩ := h; exact h.lt
theorem IterAt.ne (h : IterAt k w mb r l lf cnt cur) : r ≠ mb := by obtain ⟨⟨P, kt, left, hu, h, _⟩, _⟩ := h; exact h.ne
theorem IterAt.owns (h : IterAt k w mb r l lf cnt cur) : OwnsK k w mb l := by obtain ⟨⟨P, kt, left, hu, h, _⟩, _⟩ := h; exact ⟨P, kt, hu, h.owns⟩
theorem IterAt.has (h : IterAt k w mb r l lf cnt cur) {x : KEl k} (hx : lf x = true) : (lookK l x).isSome = true := by
 obtain ⟨⟨P, kt, left, hu, ⟨es, clock, since, seen, c0, h1, F, hs, hD, h2, h3, h4, h5, h6, h7⟩, hl⟩, _⟩ := h
 rw [← hl] at hx
 obtain ⟨e, he, hk⟩ := h6 _ hx
 have : (encK l).atKey (klit k x) .nil = (encK l).atKey (klit k x) .nil := rfl
 rw [← enc_has]
 unfold encK at hD ⊢
 rw [hD]
 exact List.any_eq_true.2 ⟨WideElems.rg P kt Rv e, mem_sorted.2 (List.mem_map.2 ⟨e, he, rfl⟩), by rw [hk]; exact WideAt.sameKey_self (klit_key k x)⟩
theorem OwnsK.range (h : OwnsK k w mb l) (ht : P.underlying t = some (.map kt et)) (hu : P.underlying kt = some (kdesc k)) :
   ∃ w', (Instr.range t (.map (some mb))).run P w = .ok (.pointer (some ⟨w.heap.size, 0, none⟩)) w' ∧ IterAt k w' mb w.heap.size l (fun x => (lookK l x).isSome) l.length none ∧ w.grownBy w' none ∧ w'.heap.size = w.heap.size + 1 := by
 obtain ⟨w', h1, h2, h3, h4⟩ := (h.to hu).range (kkeyed hu) ht
 have e : Maps.size (encK l) = l.length := by simp [Maps.size, encK]
 rw [e] at h2
 exact ⟨w', h1, ⟨⟨P, kt, _, hu, h2, fun x => enc_has l x⟩, fun _ _ q => by cases q⟩, h3, h4⟩
theorem ranges_same (h : keyOf P kt = keyOf P' kt') {D : DataW Value} {left : Lit → Bool} (ho : w.ranges P kt Rv mb r n D left cnt) : w.ranges P' kt' Rv mb r n D left cnt := by
 have hrd : WideElems.rd P kt Rv = WideElems.rd P' kt' Rv := by
   funext x; unfold WideElems.rd; rw [h]
 have hrg : WideElems.rg P kt Rv = WideElems.rg P' kt' Rv := by
   funext x; unfold WideElems.rg; rw [hrd]
 obtain ⟨es, clock, since, seen, c0, hb, F, hs, hD, h1, h2, h3, h4, h5, h6⟩ := ho
 exact ⟨es, clock, since, seen, c0, hb, ⟨F.size, F.stamped, by rw [← hrd]; exact F.reads⟩, hs, by rw [← hrg]; exact hD, h1, h2, h3, by rw [← hrg]; exact h4, by rw [← hrg]; exact h5, h6⟩
theorem IterAt.next (h : IterAt k w mb r l lf cnt cur) (hu : P.underlying kt = some (kdesc k)) (ty : TypeId) :
   ((∀ x, lf x = false) ∧ (Instr.next (.pointer (some ⟨r, 0, none⟩)) false ty).run P w = .ok (.tuple #[.bool false]) w) ∨
   ∃ x v w' cnt', lf x = true ∧ kwf k x ∧ lookK l x = some v ∧ cnt' < cnt ∧ (Instr.next (.pointer (some ⟨r, 0, none⟩)) false ty).run P w = .ok (.tuple #[.bool true, kval k x, v]) w' ∧
     IterAt k w' mb r l (fun z => lf z && !decide (z = x)) cnt' (some (x, v)) ∧ w.grownBy w' (some r) ∧ w'.heap.size = w.heap.size := by
 obtain ⟨⟨P', kt', left, hu', hR', hl⟩, _⟩ := h
 have hR : w.ranges P kt Rv mb r l.length (encK l) left cnt := ranges_same ((kkey_eq hu').trans (kkey_eq hu).symm) hR'
 have hne := hR.ne
 rcases hR.next (kkeyed hu) ty with ⟨_, h2, h3⟩ | ⟨key, v, kl, y, w', cnt', h1, h2, h3, h4, h5, h6, h7, h8, h9, h10⟩
 · exact .inl ⟨fun x => by rw [← hl]; exact h2 _, h3⟩
 rw [kkey_eq hu] at h1
 obtain ⟨x, rfl, rfl, hw⟩ := kkey_inv h1
 simp only [Rv, Option.some.injEq] at h3
 subst h3
 have hlk : lookK l x = some v := by
   have a := h4 (.held (.bool false))
   have b := h4 (.held (.bool true))
   rw [enc_at] at a b
   cases hq : lookK l x with
   | none =>
     rw [hq] at a b
     have a : DataW.held (Value.bool false) = .held v := a
     have b : DataW.held (Value.bool true) = .held v := b
     rw [← b] at a; cases a
   | some u => rw [hq] at a; have a : DataW.held u = .held v := a; cases a; rfl
 obtain ⟨es, clock, since, seen, c0, e1, F, hs, hD, e2, e3⟩ := h6
 refine .inr ⟨x, v, w', cnt', by rw [← hl]; exact h2, hw, hlk, h7, h5, ⟨⟨P, kt, fun q => left q && !q.sameKey (klit k x), hu, ⟨es, clock, since, seen, c0, e1, F, hs, hD, e2, e3⟩, fun z => ?_⟩, fun x' v' q P2 w2 q1 q2 => ?_⟩, h8, h9⟩
 · show (left (klit k z) && !(klit k z).sameKey (klit k x)) = _
   rw [hl, klit_same]
 cases q
 exact entry_any h10 e1 e2 q1 q2
theorem range_nil (ht : P.underlying t = some (.map kt et)) : (Instr.range t (.map none)).run P w = .ok (.pointer (some ⟨w.heap.size, 0, none⟩)) (w.alloc (.mapIter none 0 #[] 0)) := by
 simp [Instr.range, run_underlying ht, newObj, Result.andThen, Sem.run, Sem.run_bind, Sem.run_pure]
theorem next_nil {since c0 : Nat} {seen : Array Nat} (hr : w.heap[r]? = some (.mapIter none since seen c0)) (ty : TypeId) : (Instr.next (.pointer (some ⟨r, 0, none⟩)) false ty).run P w = .ok (.tuple #[.bool false]) w := by
 simp [Instr.next, getObj, Sem.run_bind, Sem.run, hr, Result.andThen]
end
def MapD (k : Kc) (α : Type) : Type := List (KEl k × α)
def MapAt {k : Kc} {α : Type} [Data α] (S : Stab) (w : World) (b : Nat) (m : MapD k α) : Prop :=
 ∃ zs : List (KEl k × (Value × α)), OwnsK k w b (zs.map fun q => (q.1, q.2.1)) ∧ m = zs.map (fun q => (q.1, q.2.2)) ∧ ∀ z ∈ zs, Rd S w z.2.1 z.2.2
def MapRd {k : Kc} {α : Type} [Data α] (S : Stab) (w : World) (v : Value) (m : MapD k α) : Prop := ∃ x, v = .map x ∧ match x with
 | none => m = ([] : List (KEl k × α))
 | some b => S b ∧ MapAt S w b m
theorem MapAt.keep {k : Kc} {α : Type} [Data α] {S : Stab} {w w' : World} {b : Nat} {m : MapD k α} (h : MapAt S w b m) (hk : Keeps S w w') (hb : w'.heap[b]? = w.heap[b]?) : MapAt S w' b m := by
 obtain ⟨zs, h1, h2, h3⟩ := h
 exact ⟨zs, h1.keep hb, h2, fun z hz => (h3 z hz).keep hk⟩
theorem MapAt.up {k : Kc} {α : Type} [Data α] {S S' : Stab} {w : World} {b : Nat} {m : MapD k α} (h : MapAt S w b m) (hs : ∀ k, S k → S' k) : MapAt S' w b m := by
 obtain ⟨zs, h1, h2, h3⟩ := h
 exact ⟨zs, h1, h2, fun z hz => (h3 z hz).up hs⟩
instance datMap {k : Kc} {α : Type} [Data α] : Data (MapD k α) where
 size := 1
 isAgg := false
 rd S w cs m := ∃ v, cs = [v] ∧ MapRd S w v m
 len := by rintro S w cs l ⟨v, rfl, _⟩; rfl
 up := by
   rintro S S' w cs l hs ⟨v, rfl, x, rfl, h⟩
   refine ⟨_, rfl, x, rfl, ?_⟩
   cases x with
   | none => exact h
   | some b => exact ⟨hs _ h.1, h.2.up hs⟩
 keep := by
   rintro S w w' cs l hk ⟨v, rfl, x, rfl, h⟩
   refine ⟨_, rfl, x, rfl, ?_⟩
   cases x with
   | none => exact h
   | some b => exact ⟨h.1, h.2.keep hk (hk b h.1)⟩
 one := by
   rintro S w cs l ⟨v, rfl, x, rfl, _⟩ u hu
   simp at hu; subst hu; rfl
theorem rd_map {k : Kc} {α : Type} [Data α] {S : Stab} {w : World} {v : Value} {m : MapD k α} (h : Rd S w v m) : MapRd S w v m := by
 obtain ⟨cs, ⟨v', rfl, h⟩, rfl⟩ := h; exact h
theorem map_rd {k : Kc} {α : Type} [Data α] {S : Stab} {w : World} {v : Value} {m : MapD k α} (h : MapRd S w v m) : Rd S w v m := ⟨[v], ⟨v, rfl, h⟩, rfl⟩
def PtrD (α : Type) : Type := Option α
def PtrRd {α : Type} [Data α] (S : Stab) (w : World) (v : Value) : PtrD α → Prop
 | none => v = .pointer none
 | some y => ∃ b cur t fz cs, v = .pointer (some ⟨b, 0, none⟩) ∧ S b ∧ w.heap[b]? = some (.cells cur t fz) ∧ Data.rd S w cs y ∧ ∀ j, j < Data.size α → cur[j]? = cs[j]?
theorem PtrRd.keep {α : Type} [Data α] {S : Stab} {w w' : World} {v : Value} {x : PtrD α} (h : PtrRd S w v x) (hk : Keeps S w w') : PtrRd S w' v x := by
 cases x with
 | none => exact h
 | some y =>
   obtain ⟨b, cur, t, fz, cs, h1, h2, h3, h4, h5⟩ := h
   exact ⟨b, cur, t, fz, cs, h1, h2, (hk b h2).trans h3, Data.keep hk h4, h5⟩
theorem PtrRd.up {α : Type} [Data α] {S S' : Stab} {w : World} {v : Value} {x : PtrD α} (h : PtrRd S w v x) (hs : ∀ k, S k → S' k) : PtrRd S' w v x := by
 cases x with
 | none => exact h
 | some y =>
   obtain ⟨b, cur, t, fz, cs, h1, h2, h3, h4, h5⟩ := h
   exact ⟨b, cur, t, fz, cs, h1, hs _ h2, h3, Data.up hs h4, h5⟩
theorem PtrRd.val {α : Type} [Data α] {S : Stab} {w : World} {v : Value} {x : PtrD α} (h : PtrRd S w v x) : ∃ p, v = .pointer p := by
 cases x with
 | none => exact ⟨_, h⟩
 | some y => obtain ⟨b, cur, t, fz, cs, h1, _⟩ := h; exact ⟨_, h1⟩
instance datPtr {α : Type} [Data α] : Data (PtrD α) where
 size := 1
 isAgg := false
 rd S w cs x := ∃ v, cs = [v] ∧ PtrRd S w v x
 len := by rintro S w cs l ⟨v, rfl, _⟩; rfl
 up := by rintro S S' w cs l hs ⟨v, rfl, h⟩; exact ⟨v, rfl, h.up hs⟩
 keep := by rintro S w w' cs l hk ⟨v, rfl, h⟩; exact ⟨v, rfl, h.keep hk⟩
 one := by
   rintro S w cs l ⟨v, rfl, h⟩ u hu
   obtain ⟨p, rfl⟩ := h.val
   simp at hu; subst hu; rfl
theorem rd_ptr {α : Type} [Data α] {S : Stab} {w : World} {v : Value} {x : PtrD α} (h : Rd S w v x) : PtrRd S w v x := by
 obtain ⟨cs, ⟨v', rfl, h⟩, rfl⟩ := h; exact h
theorem ptr_rd {α : Type} [Data α] {S : Stab} {w : World} {v : Value} {x : PtrD α} (h : PtrRd S w v x) : Rd S w v x := ⟨[v], ⟨v, rfl, h⟩, rfl⟩
inductive Ty where
 | int
 | bool
 | str
 | list (t : Ty)
 | pair (a b : Ty)
 | map (k : Kc) (t : Ty)
 | ptr (t : Ty)
def El : Ty → Type
 | .int => Int
 | .bool => Bool
 | .str => ByteArray
 | .list t => List (El t)
 | .pair a b => El a × El b
 | .map k t => MapD k (El t)
 | .ptr t => PtrD (El t)
instance datOf : (t : Ty) → Data (El t)
 | .int => (inferInstance : Data Int)
 | .bool => (inferInstance : Data Bool)
 | .str => (inferInstance : Data ByteArray)
 | .list t => @instDataList (El t) (datOf t)
 | .pair a b => @instDataProd (El a) (El b) (datOf a) (datOf b)
 | .map k t => @datMap k (El t) (datOf t)
 | .ptr t => @datPtr (El t) (datOf t)
def dfl : (t : Ty) → El t
 | .int => (0 : Int)
 | .bool => false
 | .str => (⟨#[]⟩ : ByteArray)
 | .list _ => []
 | .pair a b => (dfl a, dfl b)
 | .map k t => ([] : List (KEl k × El t))
 | .ptr t => (none : Option (El t))
def tyEq : (t s : Ty) → Option (PLift (t = s))
 | .int, .int => some ⟨rfl⟩
 | .bool, .bool => some ⟨rfl⟩
 | .str, .str => some ⟨rfl⟩
 | .list t, .list s => match tyEq t s with
   | some ⟨h⟩ => some ⟨congrArg Ty.list h⟩
   | none => none
 | .pair a b, .pair c d => match tyEq a c, tyEq b d with
   | some ⟨h⟩, some ⟨k⟩ => some ⟨h ▸ k ▸ rfl⟩
   | _, _ => none
 | .map .int a, .map .int b => match tyEq a b with
   | some ⟨h⟩ => some ⟨congrArg (Ty.map .int) h⟩
   | none => none
 | .map .str a, .map .str b => match tyEq a b with
   | some ⟨h⟩ => some ⟨congrArg (Ty.map .str) h⟩
   | none => none
 | .ptr t, .ptr s => match tyEq t s with
   | some ⟨h⟩ => some ⟨congrArg Ty.ptr h⟩
   | none => none
 | _, _ => none
def castEl {t s : Ty} (a : El t) : Option (El s) := match tyEq t s with
 | some ⟨h⟩ => some (h ▸ a)
 | none => none
theorem castEl_ok {t s : Ty} {a : El t} {b : El s} (h : castEl (s := s) a = some b) : ∃ e : t = s, e ▸ a = b := by
 unfold castEl at h
 split at h
 · rename_i e _; exact ⟨e, Option.some.inj h⟩
 cases h
inductive Cel where
 | i (n : Int)
 | b (b : Bool)
 | s (s : ByteArray)
 | l (t : Ty) (l : List (El t))
 | m (k : Kc) (t : Ty) (m : MapD k (El t))
 | p (t : Ty) (x : PtrD (El t))
def cels : (t : Ty) → El t → List Cel
 | .int, n => [.i n]
 | .bool, b => [.b b]
 | .str, s => [.s s]
 | .list t, l => [.l t l]
 | .pair a b, x => cels a x.1 ++ cels b x.2
 | .map k t, m => [.m k t m]
 | .ptr t, x => [.p t x]
def CelOk (S : Stab) (w : World) (v : Value) : Cel → Prop
 | .i n => v = .int .i64 n
 | .b b => v = .bool b
 | .s s => v = .string s
 | .l _ l => Rd S w v l
 | .m _ _ m => Rd S w v m
 | .p _ x => Rd S w v x
def CelsOk (S : Stab) (w : World) : List Value → List Cel → Prop
 | [], [] => True
 | v :: vs, c :: cs => CelOk S w v c ∧ CelsOk S w vs cs
 | _, _ => False
theorem CelsOk.append {S : Stab} {w : World} : ∀ {a : List Value} {b : List Cel} {c : List Value} {d : List Cel}, CelsOk S w a b → CelsOk S w c d → CelsOk S w (a ++ c) (b ++ d)
 | [], [], _, _, _, h => h
 | _ :: _, _ :: _, _, _, h, k => ⟨h.1, h.2.append k⟩
 | [], _ :: _, _, _, h, _ => h.elim
 | _ :: _, [], _, _, h, _ => h.elim
theorem CelsOk.split {S : Stab} {w : World} : ∀ {vs : List Value} {a b : List Cel}, CelsOk S w vs (a ++ b) → CelsOk S w (vs.take a.length) a ∧ CelsOk S w (vs.drop a.length) b
 | vs, [], b, h => by simpa using ⟨tv, h⟩
 | [], _ :: _, _, h => h.elim
 | v :: vs, x :: a, b, h => by
   obtain ⟨h1, h2⟩ := CelsOk.split (vs := vs) (a := a) (b := b) h.2
   exact ⟨⟨h.1, h1⟩, h2⟩
theorem CelsOk.len {S : Stab} {w : World} : ∀ {vs : List Value} {a : List Cel}, CelsOk S w vs a → vs.length = a.length
 | [], [], _ => rfl
 | _ :: _, _ :: _, h => by simp [CelsOk.len h.2]
 | [], _ :: _, h => h.elim
 | _ :: _, [], h => h.elim
theorem CelsOk.get {S : Stab} {w : World} : ∀ {vs : List Value} {a : List Cel}, CelsOk S w vs a → ∀ {j : Nat} {c : Cel}, a[j]? = some c → ∃ v, vs[j]? = some v ∧ CelOk S w v c
 | [], [], _, _, _, h => by simp at h
 | v :: vs, x :: a, h, 0, c, e => by simp at e; subst e; exact ⟨v, rfl, h.1⟩
 | v :: vs, x :: a, h, j + 1, c, e => h.2.get (j := j) (by simpa using e)
 | [], _ :: _, h, _, _, _ => h.elim
 | _ :: _, [], h, _, _, _ => h.elim
theorem CelOk.keep {S : Stab} {w w' : World} (hk : Keeps S w w') {v : Value} {c : Cel} (h : CelOk S w v c) : CelOk S w' v c := by
 cases c with
 | l t l => exact Rd.keep hk h
 | m k t m => exact Rd.keep hk h
 | p t x => exact Rd.keep hk h
 | _ => exact h
theorem CelOk.up {S S' : Stab} {w : World} (hs : ∀ k, S k → S' k) {v : Value} {c : Cel} (h : CelOk S w v c) : CelOk S' w v c := by
 cases c with
 | l t l => exact Rd.up hs h
 | m k t m => exact Rd.up hs h
 | p t x => exact Rd.up hs h
 | _ => exact h
theorem rd_cels {S : Stab} {w : World} : ∀ (t : Ty) {cs : List Value} {a : El t}, Data.rd S w cs a → CelsOk S w cs (cels t a)
 | .int, cs, a, h => by have h : cs = [.int .i64 a] := h; subst h; exact ⟨rfl, tv⟩
 | .bool, cs, a, h => by have h : cs = [.bool a] := h; subst h; exact ⟨rfl, tv⟩
 | .str, cs, a, h => by have h : cs = [.string a] := h; subst h; exact ⟨rfl, tv⟩
 | .list t, cs, a, h => by
   obtain ⟨v, rfl, h⟩ := h
   exact ⟨slice_rd h, tv⟩
 | .pair a b, cs, x, h => by
   obtain ⟨c1, c2, rfl, h1, h2⟩ := h
   exact (rd_cels a h1).append (rd_cels b h2)
 | .map k t, cs, a, h => by
   obtain ⟨v, rfl, h⟩ := h
   exact ⟨map_rd h, tv⟩
 | .ptr t, cs, a, h => by
   obtain ⟨v, rfl, h⟩ := h
   exact ⟨ptr_rd h, tv⟩
theorem cels_rd {S : Stab} {w : World} : ∀ (t : Ty) {cs : List Value} {a : El t}, CelsOk S w cs (cels t a) → Data.rd S w cs a
 | .int, cs, a, h => by
   match cs, h with
   | [v], h => have h1 : v = .int .i64 a := h.1; subst h1; rfl
 | .bool, cs, a, h => by
   match cs, h with
   | [v], h => have h1 : v = .bool a := h.1; subst h1; rfl
 | .str, cs, a, h => by
   match cs, h with
   | [v], h => have h1 : v = .string a := h.1; subst h1; rfl
 | .list t, cs, a, h => by
   match cs, h with
   | [v], h => exact ⟨v, rfl, rd_slice h.1⟩
 | .pair a b, cs, x, h => by
   obtain ⟨h1, h2⟩ := CelsOk.split h
   exact ⟨_, _, (List.take_append_drop _ _).symm, cels_rd a h1, cels_rd b h2⟩
 | .map k t, cs, a, h => by
   match cs, h with
   | [v], h => exact ⟨v, rfl, rd_map h.1⟩
 | .ptr t, cs, a, h => by
   match cs, h with
   | [v], h => exact ⟨v, rfl, rd_ptr h.1⟩
theorem cels_len : ∀ (t : Ty) (a : El t), (cels t a).length = Data.size (El t)
 | .int, _ => rfl
 | .bool, _ => rfl
 | .str, _ => rfl
 | .list _, _ => rfl
 | .map _ _, _ => rfl
 | .ptr _, _ => rfl
 | .pair a b, x => by
   show (cels a x.1 ++ cels b x.2).length = Data.size (El a) + Data.size (El b)
   rw [List.length_append, cels_len a, cels_len b]
def isPair : Ty → Bool | .pair _ _ => true | _ => false
theorem agg_pair : ∀ t : Ty, Data.isAgg (El t) = isPair t
 | .int => rfl
 | .bool => rfl
 | .str => rfl
 | .list _ => rfl
 | .pair _ _ => rfl
 | .map _ _ => rfl
 | .ptr _ => rfl
end Go.Proofs.Ytahonnlgkmimlaa
