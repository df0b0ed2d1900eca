/-
  What memory holds, said of plain data: 'Data' (cells that read as a datum, out of stable blocks), 'Fr' (a call's own memory as a list of resources). No program in sight.
-/
import Derived.WalkKit
import Derived.WalkSpells
import Derived.WalkLawsBesides
import Derived.Lib.Hide
import Derived.Lib.OthersKept
namespace Go.Proofs.Ytbdgelipabndaaa
open Go.RowKit

/-- Blocks that nobody writes any more. -/
abbrev Stab := Nat → Prop

/-- The blocks of S are in w' as they are in w. -/
def Keeps (S : Stab) (w w' : World) : Prop := ∀ k, S k → w'.heap[k]? = w.heap[k]?

theorem Keeps.refl (S : Stab) (w : World) : Keeps S w w := fun _ _ => rfl
theorem Keeps.trans {S : Stab} {a b c : World} (h : Keeps S a b) (k : Keeps S b c) : Keeps S a c := fun i hi => (k i hi).trans (h i hi)
theorem Keeps.mono {S S' : Stab} {a b : World} (h : Keeps S a b) (hs : ∀ k, S' k → S k) : Keeps S' a b := fun i hi => h i (hs i hi)
theorem Keeps.below {B : Nat} {a b : World} (h : Below B a b) : Keeps (· < B) a b := fun i hi => h.block i hi

/-- A type of data that stands in cells. -/
class Data (α : Type) where
  size : Nat
  isAgg : Bool
  rd : Stab → World → List Value → α → Prop
  len : ∀ {S w cs a}, rd S w cs a → cs.length = size
  up : ∀ {S S' : Stab} {w cs a}, (∀ k, S k → S' k) → rd S w cs a → rd S' w cs a
  keep : ∀ {S w w' cs a}, Keeps S w w' → rd S w cs a → rd S w' cs a
  one : ∀ {S w cs a}, rd S w cs a → ∀ u ∈ cs, u.oneCell' = true

instance : Data Int where
  size := 1
  isAgg := false
  rd _ _ cs n := cs = [.int .i64 n]
  len h := by rw [h]; rfl
  up _ h := h
  keep _ h := h
  one h u hu := by rw [h] at hu; simp at hu; subst hu; rfl

instance : Data Bool where
  size := 1
  isAgg := false
  rd _ _ cs b := cs = [.bool b]
  len h := by rw [h]; rfl
  up _ h := h
  keep _ h := h
  one h u hu := by rw [h] at hu; simp at hu; subst hu; rfl

instance : Data ByteArray where
  size := 1
  isAgg := false
  rd _ _ cs s := cs = [.string s]
  len h := by rw [h]; rfl
  up _ h := h
  keep _ h := h
  one h u hu := by rw [h] at hu; simp at hu; subst hu; rfl

instance {α β : Type} [Data α] [Data β] : Data (α × β) where
  size := Data.size α + Data.size β
  isAgg := true
  rd S w cs x := ∃ c1 c2, cs = c1 ++ c2 ∧ Data.rd S w c1 x.1 ∧ Data.rd S w c2 x.2
  len := by rintro S w cs a ⟨c1, c2, rfl, h1, h2⟩; rw [List.length_append, Data.len h1, Data.len h2]
  up := by rintro S S' w cs a hs ⟨c1, c2, rfl, h1, h2⟩; exact ⟨c1, c2, rfl, Data.up hs h1, Data.up hs h2⟩
  keep := by rintro S w w' cs a hk ⟨c1, c2, rfl, h1, h2⟩; exact ⟨c1, c2, rfl, Data.keep hk h1, Data.keep hk h2⟩
  one := by
    rintro S w cs a ⟨c1, c2, rfl, h1, h2⟩ u hu
    rcases List.mem_append.1 hu with hu | hu
    · exact Data.one h1 u hu
    · exact Data.one h2 u hu

/-- The cells of a block from a place on read as a list. -/
def CellsRd {α : Type} [Data α] (S : Stab) (w : World) (cur : Array Value) (off : Nat) (l : List α) : Prop :=
  ∀ i (h : i < l.length), ∃ cs, Data.rd S w cs l[i] ∧ ∀ j, j < Data.size α → cur[off + i * Data.size α + j]? = cs[j]?

def SliceRd {α : Type} [Data α] (S : Stab) (w : World) (v : Value) (l : List α) : Prop :=
  ∃ p c, v = .slice p l.length c ∧ l.length ≤ c ∧ c ≤ maxLen ∧
    (l = [] ∨ ∃ g off cur t fz, p = some ⟨g, off, none⟩ ∧ S g ∧ w.heap[g]? = some (.cells cur t fz) ∧ CellsRd S w cur off l)

theorem CellsRd.up {α : Type} [Data α] {S S' : Stab} {w : World} {cur : Array Value} {off : Nat} {l : List α} (hs : ∀ k, S k → S' k) (h : CellsRd S w cur off l) : CellsRd S' w cur off l :=
  fun i hi => let ⟨cs, h1, h2⟩ := h i hi; ⟨cs, Data.up hs h1, h2⟩
theorem CellsRd.keep {α : Type} [Data α] {S : Stab} {w w' : World} {cur : Array Value} {off : Nat} {l : List α} (hk : Keeps S w w') (h : CellsRd S w cur off l) : CellsRd S w' cur off l :=
  fun i hi => let ⟨cs, h1, h2⟩ := h i hi; ⟨cs, Data.keep hk h1, h2⟩

instance {α : Type} [Data α] : Data (List α) where
  size := 1
  isAgg := false
  rd S w cs l := ∃ v, cs = [v] ∧ SliceRd S w v l
  len := by rintro S w cs l ⟨v, rfl, _⟩; rfl
  up := by
    rintro S S' w cs l hs ⟨v, rfl, p, c, rfl, h1, h2, h3⟩
    refine ⟨_, rfl, p, c, rfl, h1, h2, ?_⟩
    rcases h3 with h3 | ⟨g, off, cur, t, fz, rfl, hg, hw, hc⟩
    · exact .inl h3
    · exact .inr ⟨g, off, cur, t, fz, rfl, hs _ hg, hw, hc.up hs⟩
  keep := by
    rintro S w w' cs l hk ⟨v, rfl, p, c, rfl, h1, h2, h3⟩
    refine ⟨_, rfl, p, c, rfl, h1, h2, ?_⟩
    rcases h3 with h3 | ⟨g, off, cur, t, fz, rfl, hg, hw, hc⟩
    · exact .inl h3
    · exact .inr ⟨g, off, cur, t, fz, rfl, hg, (hk g hg).trans hw, hc.keep hk⟩
  one := by
    rintro S w cs l ⟨v, rfl, p, c, rfl, _⟩ u hu
    simp at hu; subst hu; rfl

/-- A value reads as a datum: a struct lies in its cells, all else is one cell. -/
def Rd {α : Type} [Data α] (S : Stab) (w : World) (v : Value) (a : α) : Prop := ∃ cs, Data.rd S w cs a ∧ v = if Data.isAgg α then .agg cs.toArray else cs.headD undef

theorem Rd.up {α : Type} [Data α] {S S' : Stab} {w : World} {v : Value} {a : α} (hs : ∀ k, S k → S' k) (h : Rd S w v a) : Rd S' w v a := let ⟨cs, h1, h2⟩ := h; ⟨cs, Data.up hs h1, h2⟩
theorem Rd.keep {α : Type} [Data α] {S : Stab} {w w' : World} {v : Value} {a : α} (hk : Keeps S w w') (h : Rd S w v a) : Rd S w' v a := let ⟨cs, h1, h2⟩ := h; ⟨cs, Data.keep hk h1, h2⟩

theorem rd_slice {α : Type} [Data α] {S : Stab} {w : World} {v : Value} {l : List α} (h : Rd S w v l) : SliceRd S w v l := by
  obtain ⟨cs, ⟨v', rfl, hs⟩, rfl⟩ := h
  exact hs
theorem slice_rd {α : Type} [Data α] {S : Stab} {w : World} {v : Value} {l : List α} (h : SliceRd S w v l) : Rd S w v l := ⟨[v], ⟨v, rfl, h⟩, rfl⟩

theorem slice_header {α : Type} [Data α] {S : Stab} {w : World} {v : Value} {l : List α} (h : SliceRd S w v l) : ∃ p c, v = .slice p l.length c ∧ l.length ≤ c ∧ c ≤ maxLen :=
  let ⟨p, c, h1, h2, h3, _⟩ := h; ⟨p, c, h1, h2, h3⟩

/-- The cells of an element. -/
theorem slice_at {α : Type} [Data α] {S : Stab} {w : World} {v : Value} {l : List α} (h : SliceRd S w v l) (i : Nat) (hi : i < l.length) :
    ∃ g off c cs, v = .slice (some ⟨g, off, none⟩) l.length c ∧ Data.rd S w cs l[i] ∧ ∀ j, j < Data.size α → w.cell? ⟨g, off + i * Data.size α + j, none⟩ = cs[j]? := by
  obtain ⟨p, c, rfl, h1, h2, h3⟩ := h
  rcases h3 with rfl | ⟨g, off, cur, t, fz, rfl, hg, hw, hc⟩
  · simp at hi
  · obtain ⟨cs, hr, hj⟩ := hc i hi
    exact ⟨g, off, c, cs, rfl, hr, fun j hj' => by rw [cell_of_row w g _ cur t fz hw]; exact hj j hj'⟩

end Go.Proofs.Ytbdgelipabndaaa
