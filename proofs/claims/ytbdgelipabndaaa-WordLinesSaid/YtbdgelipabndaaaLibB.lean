/-
  A call's own memory as a list of resources (rows that it appends to, iterators, boxes), beside stable blocks; the laws for what a call does with them. No program in sight.
-/
import Derived.Test.YtbdgelipabndaaaLibA
namespace Go.Proofs.Ytbdgelipabndaaa
open Go.RowKit

/-- The cells of a whole row read as a list. -/
def RowRd {α : Type} [Data α] (S : Stab) (w : World) (xs : List Value) (l : List α) : Prop :=
  xs.length = l.length * Data.size α ∧ ∀ i (h : i < l.length), Data.rd S w ((xs.drop (i * Data.size α)).take (Data.size α)) l[i]

theorem RowRd.nil {α : Type} [Data α] (S : Stab) (w : World) : RowRd S w [] ([] : List α) := ⟨by simp, fun i h => by simp at h⟩
theorem RowRd.up {α : Type} [Data α] {S S' : Stab} {w : World} {xs : List Value} {l : List α} (hs : ∀ k, S k → S' k) (h : RowRd S w xs l) : RowRd S' w xs l :=
  ⟨h.1, fun i hi => Data.up hs (h.2 i hi)⟩
theorem RowRd.keep {α : Type} [Data α] {S : Stab} {w w' : World} {xs : List Value} {l : List α} (hk : Keeps S w w') (h : RowRd S w xs l) : RowRd S w' xs l :=
  ⟨h.1, fun i hi => Data.keep hk (h.2 i hi)⟩

theorem RowRd.append {α : Type} [Data α] {S : Stab} {w : World} {xs ys : List Value} {l m : List α} (h : RowRd S w xs l) (k : RowRd S w ys m) : RowRd S w (xs ++ ys) (l ++ m) := by
  refine ⟨by rw [List.length_append, List.length_append, h.1, k.1, Nat.add_mul], fun i hi => ?_⟩
  by_cases hl : i < l.length
  · rw [List.getElem_append_left hl]
    have h1 : i * Data.size α + Data.size α ≤ xs.length := by rw [h.1, ← Nat.succ_mul]; exact Nat.mul_le_mul_right _ hl
    rw [List.drop_append_of_le_length (by omega), List.take_append_of_le_length (by rw [List.length_drop]; omega)]
    exact h.2 i hl
  · rw [List.length_append] at hi
    rw [List.getElem_append_right (by omega)]
    have e : i * Data.size α = xs.length + (i - l.length) * Data.size α := by rw [h.1, ← Nat.add_mul]; congr 1; omega
    rw [e, List.drop_append]
    rw [List.drop_of_length_le (by omega), List.nil_append]
    rw [show xs.length + (i - l.length) * Data.size α - xs.length = (i - l.length) * Data.size α by omega]
    exact k.2 (i - l.length) (by omega)

theorem RowRd.single {α : Type} [Data α] {S : Stab} {w : World} {cs : List Value} {a : α} (h : Data.rd S w cs a) : RowRd S w cs [a] := by
  refine ⟨by rw [Data.len h]; simp, fun i hi => ?_⟩
  have : i = 0 := by simp at hi; exact hi
  subst this
  have e : (cs.drop (0 * Data.size α)).take (Data.size α) = cs := by rw [Nat.zero_mul, List.drop_zero, ← Data.len h]; exact List.take_length
  rw [e]; exact h

theorem RowRd.one {α : Type} [Data α] {S : Stab} {w : World} {xs : List Value} {l : List α} (h : RowRd S w xs l) : ∀ u ∈ xs, u.oneCell' = true := by
  intro u hu
  by_cases hz : Data.size α = 0
  · have : xs = [] := List.eq_nil_of_length_eq_zero (by rw [h.1, hz]; simp)
    subst this; simp at hu
  obtain ⟨j, hj, rfl⟩ := List.getElem_of_mem hu
  have hpos : 0 < Data.size α := by omega
  have hi : j / Data.size α < l.length := by rw [Nat.div_lt_iff_lt_mul hpos, ← h.1]; exact hj
  refine Data.one (h.2 _ hi) _ ?_
  have hm := Nat.mod_lt j hpos
  have hd := Nat.div_add_mod j (Data.size α)
  rw [Nat.mul_comm] at hd
  refine List.mem_iff_getElem?.2 ⟨j % Data.size α, ?_⟩
  rw [List.getElem?_take, if_pos hm, List.getElem?_drop, hd, List.getElem?_eq_getElem hj]

/-- A row of the call's own. -/
def Own {α : Type} [Data α] (S : Stab) (w : World) (e : TypeId) (v : Value) (l : List α) : Prop :=
  ∃ xs, w.ownsRow 0 e (Data.size α) v l.length xs ∧ RowRd S w xs l

inductive Res : Type 1 where
  | iter (b : Nat) (s : ByteArray) (pos : Nat)
  | row {α : Type} [Data α] (e : TypeId) (v : Value) (l : List α)
  | box (b : Nat) (t : TypeId) (vs : List Value)
  | ro {α : Type} [Data α] (v : Value) (a : α)

def Res.block : Res → Option Nat
  | .iter b _ _ => some b
  | @Res.row _ _ _ v _ => v.ownBlock
  | .box b _ _ => some b
  | @Res.ro _ _ _ _ => none

def Res.ok (S : Stab) (w : World) : Res → Prop
  | .iter b s pos => w.heap[b]? = some (.stringIter s pos)
  | @Res.row _ _ e v l => Own S w e v l
  | .box b t vs => w.heap[b]? = some (.cells vs.toArray t (0, 0))
  | @Res.ro _ _ v a => Rd S w v a

/-- Where a call began: its world, the blocks that its arguments lie in. -/
structure Orig where
  w : World
  S : Stab
  ok : ∀ k, S k → k < w.heap.size
/-- A call whose arguments lie in no block. -/
abbrev org (w : World) : Orig := ⟨w, fun _ => False, fun _ h => h.elim⟩
/-- The blocks of the arguments, and those that are new since. -/
abbrev Since (o : Orig) (w' : World) : Stab := fun k => o.S k ∨ (o.w.heap.size ≤ k ∧ k < w'.heap.size)

/-- What stands at a moment of a call that began in w0. -/
structure Fr (w0 : Orig) (w : World) (S : Stab) (rs : List Res) : Prop where
  below : Below w0.w.heap.size w0.w w
  src : ∀ k, S k → w0.S k ∨ w0.w.heap.size ≤ k
  inb : ∀ k, S k → k < w.heap.size
  ok : ∀ r ∈ rs, r.ok S w
  own : ∀ r ∈ rs, ∀ b, r.block = some b → w0.w.heap.size ≤ b ∧ b < w.heap.size ∧ ¬ S b
  nodup : (rs.filterMap Res.block).Nodup

theorem Fr.start (o : Orig) : Fr o o.w o.S [] :=
  ⟨Below.refl _ _, fun _ h => .inl h, o.ok, fun _ h => by simp at h, fun _ h => by simp at h, by simp⟩
theorem Fr.org {w0 : Orig} {w : World} {S : Stab} {rs : List Res} (h : Fr w0 w S rs) : w0.w.heap.size ≤ w.heap.size := h.below.size
/-- Where a callee begins, at a moment of the caller's. -/
abbrev Fr.at {w0 : Orig} {w : World} {S : Stab} {rs : List Res} (h : Fr w0 w S rs) : Orig := ⟨w, S, h.inb⟩

theorem Res.ok_keep {S : Stab} {w w' : World} {r : Res} (h : r.ok S w) (hk : Keeps S w w') (hb : ∀ b, r.block = some b → w'.heap[b]? = w.heap[b]?) : r.ok S w' := by
  cases r with
  | iter b s pos => exact (hb b rfl).trans h
  | row e v l =>
    obtain ⟨xs, ⟨h1, h2⟩, h3⟩ := h
    refine ⟨xs, ⟨h1, ?_⟩, h3.keep hk⟩
    rcases h2 with h2 | ⟨g, cap, cur, rfl, hg, hh, rest⟩
    · exact .inl h2
    · exact .inr ⟨g, cap, cur, rfl, hg, (hb g rfl).trans hh, rest⟩
  | box b t vs => exact (hb b rfl).trans h
  | ro v a => exact Rd.keep hk h

theorem Res.ok_up {S S' : Stab} {w : World} {r : Res} (h : r.ok S w) (hs : ∀ k, S k → S' k) : r.ok S' w := by
  cases r with
  | iter b s pos => exact h
  | row e v l => obtain ⟨xs, h1, h2⟩ := h; exact ⟨xs, h1, h2.up hs⟩
  | box b t vs => exact h
  | ro v a => exact Rd.up hs h

/-- The world moves on, all blocks of the moment as they were (a draw, a call, a new block). -/
theorem Fr.on {w0 : Orig} {w w' : World} {S : Stab} {rs : List Res} (h : Fr w0 w S rs) (hb : Below w.heap.size w w') : Fr w0 w' S rs where
  below := h.below.trans (hb.mono h.below.size)
  src := h.src
  inb k hk := Nat.lt_of_lt_of_le (h.inb k hk) hb.size
  ok r hr := Res.ok_keep (h.ok r hr) (fun k hk => hb.block k (h.inb k hk)) (fun b hb' => hb.block b (h.own r hr b hb').2.1)
  own r hr b hb' := let ⟨a, c, d⟩ := h.own r hr b hb'; ⟨a, Nat.lt_of_lt_of_le c hb.size, d⟩
  nodup := h.nodup

/-- Behind a call: the blocks that it made are stable from then on. -/
theorem Fr.call {w0 : Orig} {w w' : World} {S : Stab} {rs : List Res} (h : Fr w0 w S rs) (hb : Below w.heap.size w w') : Fr w0 w' (fun k => S k ∨ (w.heap.size ≤ k ∧ k < w'.heap.size)) rs where
  below := (h.on hb).below
  src k hk := by
    rcases hk with hk | hk
    · exact h.src k hk
    · exact .inr (Nat.le_trans h.below.size hk.1)
  inb k hk := by
    rcases hk with hk | hk
    · exact (h.on hb).inb k hk
    · exact hk.2
  ok r hr := Res.ok_up ((h.on hb).ok r hr) fun _ => .inl
  own r hr b hb' := by
    obtain ⟨a, c, d⟩ := h.own r hr b hb'
    exact ⟨a, Nat.lt_of_lt_of_le c hb.size, fun e => e.elim d (fun e => by omega)⟩
  nodup := h.nodup

/-- What the call handed back, or what was known of plain data, beside the rest. -/
theorem Fr.ro {α : Type} [Data α] {w0 : Orig} {w : World} {S : Stab} {rs : List Res} (h : Fr w0 w S rs) {v : Value} {a : α} (hr : Rd S w v a) : Fr w0 w S (.ro v a :: rs) where
  below := h.below
  src := h.src
  inb := h.inb
  ok r hr' := by
    rcases List.mem_cons.1 hr' with rfl | hr'
    · exact hr
    · exact h.ok r hr'
  own r hr' b hb := by
    rcases List.mem_cons.1 hr' with rfl | hr'
    · cases hb
    · exact h.own r hr' b hb
  nodup := by rw [List.filterMap_cons]; exact h.nodup

theorem Fr.tail {w0 : Orig} {w : World} {S : Stab} {r : Res} {rs : List Res} (h : Fr w0 w S (r :: rs)) : Fr w0 w S rs where
  below := h.below
  src := h.src
  inb := h.inb
  ok r hr := h.ok r (List.mem_cons_of_mem _ hr)
  own r hr := h.own r (List.mem_cons_of_mem _ hr)
  nodup := by
    have := h.nodup
    rw [List.filterMap_cons] at this
    split at this
    · exact this
    · exact (List.nodup_cons.1 this).2

/-- A resource comes in that owns no block yet, or a new one. -/
theorem Fr.put {w0 : Orig} {w : World} {S : Stab} {rs : List Res} (h : Fr w0 w S rs) (r : Res) (hr : r.ok S w)
    (hb : ∀ b, r.block = some b → w0.w.heap.size ≤ b ∧ b < w.heap.size ∧ ¬ S b ∧ ∀ r' ∈ rs, r'.block ≠ some b) : Fr w0 w S (r :: rs) where
  below := h.below
  src := h.src
  inb := h.inb
  ok r' hr' := by
    rcases List.mem_cons.1 hr' with rfl | hr'
    · exact hr
    · exact h.ok r' hr'
  own r' hr' b hb' := by
    rcases List.mem_cons.1 hr' with rfl | hr'
    · obtain ⟨x, y, z, _⟩ := hb b hb'; exact ⟨x, y, z⟩
    · exact h.own r' hr' b hb'
  nodup := by
    rw [List.filterMap_cons]
    split
    · exact h.nodup
    · rename_i b hb'
      refine List.nodup_cons.2 ⟨fun hm => ?_, h.nodup⟩
      obtain ⟨r', hr', e⟩ := List.mem_filterMap.1 hm
      exact (hb b hb').2.2.2 r' hr' e

theorem Fr.fresh {w0 : Orig} {w : World} {S : Stab} {rs : List Res} (h : Fr w0 w S rs) : w0.w.heap.size ≤ w.heap.size ∧ ¬ S w.heap.size ∧ ∀ r ∈ rs, r.block ≠ some w.heap.size :=
  ⟨h.below.size, fun hs => Nat.lt_irrefl _ (h.inb _ hs), fun r hr e => Nat.lt_irrefl _ (h.own r hr _ e).2.1⟩

theorem below_new (w : World) (o : Obj) : Below w.heap.size w (w.alloc o) := (Below.refl _ _).alloc (Nat.le_refl _) _

/-- A new block. -/
theorem Fr.alloc {w0 : Orig} {w : World} {S : Stab} {rs : List Res} (h : Fr w0 w S rs) (o : Obj) : Fr w0 (w.alloc o) S rs := h.on (below_new w o)

theorem Fr.newBox {w0 : Orig} {w : World} {S : Stab} {rs : List Res} (h : Fr w0 w S rs) (vs : List Value) (t : TypeId) : Fr w0 (w.alloc (.cells vs.toArray t)) S (.box w.heap.size t vs :: rs) :=
  (h.alloc _).put _ (heap_alloc_new w _) (fun b hb => by
    cases hb
    have hf := h.fresh
    exact ⟨hf.1, by simp, hf.2.1, hf.2.2⟩)

theorem Fr.newIter {w0 : Orig} {w : World} {S : Stab} {rs : List Res} (h : Fr w0 w S rs) (s : ByteArray) : Fr w0 (w.iter s 0) S (.iter w.heap.size s 0 :: rs) :=
  (h.alloc _).put _ (heap_alloc_new w _) (fun b hb => by
    cases hb
    have hf := h.fresh
    exact ⟨hf.1, by simp, hf.2.1, hf.2.2⟩)

theorem Fr.newRow {α : Type} [Data α] {w0 : Orig} {w : World} {S : Stab} {rs : List Res} (h : Fr w0 w S rs) (e : TypeId) : Fr w0 w S (.row e (.slice none 0 0) ([] : List α) :: rs) :=
  h.put _ ⟨[], World.ownsRow_nil _ _ _ _, RowRd.nil _ _⟩ (fun b hb => by cases hb)

/-- Resource number i becomes another one, in a world where the blocks of all others, and all stable ones, are as they were. -/
theorem Fr.set {w0 : Orig} {w w' : World} {S : Stab} {rs : List Res} (h : Fr w0 w S rs) (i : Nat) {r : Res} (hi : rs[i]? = some r) (r' : Res) (hok : r'.ok S w')
    (hg : w.grownBy w' r.block) (hb : ∀ b, r'.block = some b → r.block = some b ∨ (w.heap.size ≤ b ∧ b < w'.heap.size)) : Fr w0 w' S (rs.set i r') := by
  have hS : ∀ k, S k → some k ≠ r.block := fun k hk e => (h.own r (List.mem_of_getElem? hi) k e.symm).2.2 hk
  have hkeep : Keeps S w w' := fun k hk => hg.block k (h.inb k hk) (hS k hk)
  have hil : i < rs.length := (List.getElem?_eq_some_iff.1 hi).1
  have hri : rs[i] = r := (List.getElem?_eq_some_iff.1 hi).2
  -- the others' blocks
  have hoth : ∀ j (hj : j < rs.length), j ≠ i → ∀ b, rs[j].block = some b → some b ≠ r.block := by
    intro j hj hne b hb' e
    have hn := h.nodup
    rw [List.Nodup, List.pairwise_filterMap] at hn
    rw [List.pairwise_iff_getElem] at hn
    rcases Nat.lt_or_gt_of_ne hne with hlt | hgt
    · exact hn j i hj hil hlt b hb' b (by rw [hri]; exact e.symm) rfl
    · exact hn i j hil hj hgt b (by rw [hri]; exact e.symm) b hb' rfl
  have hO : ∀ k, k < w0.w.heap.size → some k ≠ r.block := fun k hk e => by have := (h.own r (List.mem_of_getElem? hi) k e.symm).1; omega
  refine ⟨?_, h.src, fun k hk => Nat.lt_of_lt_of_le (h.inb k hk) hg.size, ?_, ?_, ?_⟩
  · refine h.below.trans ⟨hg.os, hg.tape, hg.output, hg.size, fun k hk => ?_⟩
    exact hg.block k (Nat.lt_of_lt_of_le hk h.below.size) (hO k hk)
  · intro x hx
    obtain ⟨j, hj, rfl⟩ := List.getElem_of_mem hx
    rw [List.length_set] at hj
    rw [List.getElem_set]
    split
    · exact hok
    · rename_i hne
      refine Res.ok_keep (h.ok _ (List.getElem_mem hj)) hkeep fun b hb' => ?_
      exact hg.block b (h.own _ (List.getElem_mem hj) b hb').2.1 (hoth j hj (fun e => hne e.symm) b hb')
  · intro x hx b hb'
    obtain ⟨j, hj, rfl⟩ := List.getElem_of_mem hx
    rw [List.length_set] at hj
    rw [List.getElem_set] at hb'
    split at hb'
    · rcases hb b hb' with e | ⟨e1, e2⟩
      · obtain ⟨a, c, d⟩ := h.own r (List.mem_of_getElem? hi) b e
        exact ⟨a, Nat.lt_of_lt_of_le c hg.size, d⟩
      · exact ⟨Nat.le_trans h.below.size e1, e2, fun hs => by have := h.inb b hs; omega⟩
    · obtain ⟨a, c, d⟩ := h.own _ (List.getElem_mem hj) b hb'
      exact ⟨a, Nat.lt_of_lt_of_le c hg.size, d⟩
  · have hn := h.nodup
    rw [List.Nodup, List.pairwise_filterMap, List.pairwise_iff_getElem] at hn ⊢
    intro j k hj hk hjk
    rw [List.length_set] at hj hk
    rw [List.getElem_set, List.getElem_set]
    intro b hb1 b' hb2 e
    subst e
    split at hb1
    · rename_i e1
      rw [if_neg (by omega)] at hb2
      rcases hb b hb1 with e | ⟨e2, e3⟩
      · exact hoth k hk (by omega) b hb2 e.symm
      · have := (h.own _ (List.getElem_mem hk) b hb2).2.1; omega
    · split at hb2
      · rcases hb b hb2 with e | ⟨e2, e3⟩
        · exact hoth j hj (by omega) b hb1 e.symm
        · have := (h.own _ (List.getElem_mem hj) b hb1).2.1; omega
      · exact hn j k hj hk hjk b hb1 b hb2 rfl

end Go.Proofs.Ytbdgelipabndaaa
