/-
 Texts joined by program: LibA, LibB, LibC, EngA, EngB, EngC, EngD, EngE, EngF, RowA, EngG, EngH, EngI, EngJ, RowB, RowC, EngK, EngM, Shelf, SortA.
-/
import Derived.WalkKit
import Derived.WalkSpells
import Derived.WalkLawsBesides
import Derived.Lib.Hide
import Derived.Lib.OthersKept
import Derived.Deep.Quiet
import Derived.KernelRfl
import Derived.Test.YtahonnlgkmimlaaRows
import Derived.ProofKit
import Derived.OrdersHeld
import Derived.Deep.Slices
import Derived.Carry
import Derived.Maps.Own
import Derived.Maps.OwnSet
import Derived.Maps.Views
import Derived.Lib.SlKeysI
import Derived.Shelf.Sort.Plain
import Derived.Shelf.Slices.Equal
import Derived.Ground.Names2Prog
import Derived.Shelf.Slices.Clone
import Derived.Shelf.Slices.CompactI
import Derived.Shelf.Slices.In.SortNone
import Derived.Shelf.Slices.Empties
import Derived.Test.YtahonnlgkmimlaaProg
import Derived.Sort.OwnSortedInts
import Derived.Lib.RowBridge
set_option linter.unusedSimpArgs false
set_option linter.unusedVariables false
set_option maxRecDepth 100000
set_option maxHeartbeats 8000000
namespace Go.Proofs.Ytahonnlgkmimlaa
open Go.RowKit
abbrev iv (x : Int) : Value := .int .i64 x
abbrev pv (b : Nat) : Value := .pointer (some ⟨b, 0, none⟩)
abbrev TT : Prop := True
theorem tv : True := trivial
abbrev Stab := Nat → Prop
def Keeps (S : Stab) (w w' : World) : Prop := ∀ k, S k → w'.heap[k]? = w.heap[k]?
theorem Keeps.refl (S : Stab) (w : World) : Keeps S w w := fun _ _ => rfl
theorem Keeps.trans {S : Stab} {a b c : World} (h : Keeps S a b) (k : Keeps S b c) : Keeps S a c := fun i hi => (k i hi).trans (h i hi)
theorem Keeps.mono {S S' : Stab} {a b : World} (h : Keeps S a b) (hs : ∀ k, S' k → S k) : Keeps S' a b := fun i hi => h i (hs i hi)
theorem Keeps.below {B : Nat} {a b : World} (h : Below B a b) : Keeps (· < B) a b := fun i hi => h.block i hi
class Data (α : Type) where
 size : Nat
 isAgg : Bool
 rd : Stab → World → List Value → α → Prop
 len : ∀ {S w cs a}, rd S w cs a → cs.length = size
 up : ∀ {S S' : Stab} {w cs a}, (∀ k, S k → S' k) → rd S w cs a → rd S' w cs a
 keep : ∀ {S w w' cs a}, Keeps S w w' → rd S w cs a → rd S w' cs a
 one : ∀ {S w cs a}, rd S w cs a → ∀ u ∈ cs, u.oneCell' = true
instance : Data Int where
 size := 1
 isAgg := false
 rd _ _ cs n := cs = [.int .i64 n]
 len h := by rw [h]; rfl
 up _ h := h
 keep _ h := h
 one h u hu := by rw [h] at hu; simp at hu; subst hu; rfl
instance : Data Bool where
 size := 1
 isAgg := false
 rd _ _ cs b := cs = [.bool b]
 len h := by rw [h]; rfl
 up _ h := h
 keep _ h := h
 one h u hu := by rw [h] at hu; simp at hu; subst hu; rfl
instance : Data ByteArray where
 size := 1
 isAgg := false
 rd _ _ cs s := cs = [.string s]
 len h := by rw [h]; rfl
 up _ h := h
 keep _ h := h
 one h u hu := by rw [h] at hu; simp at hu; subst hu; rfl
instance {α β : Type} [Data α] [Data β] : Data (α × β) where
 size := Data.size α + Data.size β
 isAgg := true
 rd S w cs x := ∃ c1 c2, cs = c1 ++ c2 ∧ Data.rd S w c1 x.1 ∧ Data.rd S w c2 x.2
 len := by rintro S w cs a ⟨c1, c2, rfl, h1, h2⟩; rw [List.length_append, Data.len h1, Data.len h2]
 up := by rintro S S' w cs a hs ⟨c1, c2, rfl, h1, h2⟩; exact ⟨c1, c2, rfl, Data.up hs h1, Data.up hs h2⟩
 keep := by rintro S w w' cs a hk ⟨c1, c2, rfl, h1, h2⟩; exact ⟨c1, c2, rfl, Data.keep hk h1, Data.keep hk h2⟩
 one := by
   rintro S w cs a ⟨c1, c2, rfl, h1, h2⟩ u hu
   rcases List.mem_append.1 hu with hu | hu
   · exact Data.one h1 u hu
   exact Data.one h2 u hu
def CellsRd {α : Type} [Data α] (S : Stab) (w : World) (cur : Array Value) (off : Nat) (l : List α) : Prop :=
 ∀ i (h : i < l.length), ∃ cs, Data.rd S w cs l[i] ∧ ∀ j, j < Data.size α → cur[off + i * Data.size α + j]? = cs[j]?
def SliceRd {α : Type} [Data α] (S : Stab) (w : World) (v : Value) (l : List α) : Prop :=
 ∃ p c, v = .slice p l.length c ∧ l.length ≤ c ∧ c ≤ maxLen ∧
   (l = [] ∨ ∃ g off cur t fz, p = some ⟨g, off, none⟩ ∧ S g ∧ w.heap[g]? = some (.cells cur t fz) ∧ CellsRd S w cur off l)
theorem CellsRd.up {α : Type} [Data α] {S S' : Stab} {w : World} {cur : Array Value} {off : Nat} {l : List α} (hs : ∀ k, S k → S' k) (h : CellsRd S w cur off l) : CellsRd S' w cur off l :=
 fun i hi => let ⟨cs, h1, h2⟩ := h i hi; ⟨cs, Data.up hs h1, h2⟩
theorem CellsRd.keep {α : Type} [Data α] {S : Stab} {w w' : World} {cur : Array Value} {off : Nat} {l : List α} (hk : Keeps S w w') (h : CellsRd S w cur off l) : CellsRd S w' cur off l :=
 fun i hi => let ⟨cs, h1, h2⟩ := h i hi; ⟨cs, Data.keep hk h1, h2⟩
instance {α : Type} [Data α] : Data (List α) where
 size := 1
 isAgg := false
 rd S w cs l := ∃ v, cs = [v] ∧ SliceRd S w v l
 len := by rintro S w cs l ⟨v, rfl, _⟩; rfl
 up := by
   rintro S S' w cs l hs ⟨v, rfl, p, c, rfl, h1, h2, h3⟩
   refine ⟨_, rfl, p, c, rfl, h1, h2, ?_⟩
   rcases h3 with h3 | ⟨g, off, cur, t, fz, rfl, hg, hw, hc⟩
   · exact .inl h3
   exact .inr ⟨g, off, cur, t, fz, rfl, hs _ hg, hw, hc.up hs⟩
 keep := by
   rintro S w w' cs l hk ⟨v, rfl, p, c, rfl, h1, h2, h3⟩
   refine ⟨_, rfl, p, c, rfl, h1, h2, ?_⟩
   rcases h3 with h3 | ⟨g, off, cur, t, fz, rfl, hg, hw, hc⟩
   · exact .inl h3
   exact .inr ⟨g, off, cur, t, fz, rfl, hg, (hk g hg).trans hw, hc.keep hk⟩
 one := by
   rintro S w cs l ⟨v, rfl, p, c, rfl, _⟩ u hu
   simp at hu; subst hu; rfl
def Rd {α : Type} [Data α] (S : Stab) (w : World) (v : Value) (a : α) : Prop := ∃ cs, Data.rd S w cs a ∧ v = if Data.isAgg α then .agg cs.toArray else cs.headD undef
theorem Rd.up {α : Type} [Data α] {S S' : Stab} {w : World} {v : Value} {a : α} (hs : ∀ k, S k → S' k) (h : Rd S w v a) : Rd S' w v a := let ⟨cs, h1, h2⟩ := h; ⟨cs, Data.up hs h1, h2⟩
theorem Rd.keep {α : Type} [Data α] {S : Stab} {w w' : World} {v : Value} {a : α} (hk : Keeps S w w') (h : Rd S w v a) : Rd S w' v a := let ⟨cs, h1, h2⟩ := h; ⟨cs, Data.keep hk h1, h2⟩
theorem rd_slice {α : Type} [Data α] {S : Stab} {w : World} {v : Value} {l : List α} (h : Rd S w v l) : SliceRd S w v l := by
 obtain ⟨cs, ⟨v', rfl, hs⟩, rfl⟩ := h
 exact hs
theorem slice_rd {α : Type} [Data α] {S : Stab} {w : World} {v : Value} {l : List α} (h : SliceRd S w v l) : Rd S w v l := ⟨[v], ⟨v, rfl, h⟩, rfl⟩
theorem slice_header {α : Type} [Data α] {S : Stab} {w : World} {v : Value} {l : List α} (h : SliceRd S w v l) : ∃ p c, v = .slice p l.length c ∧ l.length ≤ c ∧ c ≤ maxLen :=
 let ⟨p, c, h1, h2, h3, _⟩ := h; ⟨p, c, h1, h2, h3⟩
theorem slice_at {α : Type} [Data α] {S : Stab} {w : World} {v : Value} {l : List α} (h : SliceRd S w v l) (i : Nat) (hi : i < l.length) :
   ∃ g off c cs, v = .slice (some ⟨g, off, none⟩) l.length c ∧ Data.rd S w cs l[i] ∧ ∀ j, j < Data.size α → w.cell? ⟨g, off + i * Data.size α + j, none⟩ = cs[j]? := by
 obtain ⟨p, c, rfl, h1, h2, h3⟩ := h
 rcases h3 with rfl | ⟨g, off, cur, t, fz, rfl, hg, hw, hc⟩
 · simp at hi
 obtain ⟨cs, hr, hj⟩ := hc i hi
 exact ⟨g, off, c, cs, rfl, hr, fun j hj' => by rw [cell_of_row w g _ cur t fz hw]; exact hj j hj'⟩
def RowRd {α : Type} [Data α] (S : Stab) (w : World) (xs : List Value) (l : List α) : Prop :=
 xs.length = l.length * Data.size α ∧ ∀ i (h : i < l.length), Data.rd S w ((xs.drop (i * Data.size α)).take (Data.size α)) l[i]
theorem RowRd.nil {α : Type} [Data α] (S : Stab) (w : World) : RowRd S w [] ([] : List α) := ⟨by simp, fun i h => by simp at h⟩
theorem RowRd.up {α : Type} [Data α] {S S' : Stab} {w : World} {xs : List Value} {l : List α} (hs : ∀ k, S k → S' k) (h : RowRd S w xs l) : RowRd S' w xs l :=
 ⟨h.1, fun i hi => Data.up hs (h.2 i hi)⟩
theorem RowRd.keep {α : Type} [Data α] {S : Stab} {w w' : World} {xs : List Value} {l : List α} (hk : Keeps S w w') (h : RowRd S w xs l) : RowRd S w' xs l :=
 ⟨h.1, fun i hi => Data.keep hk (h.2 i hi)⟩
theorem RowRd.append {α : Type} [Data α] {S : Stab} {w : World} {xs ys : List Value} {l m : List α} (h : RowRd S w xs l) (k : RowRd S w ys m) : RowRd S w (xs ++ ys) (l ++ m) := by
 refine ⟨by rw [List.length_append, List.length_append, h.1, k.1, Nat.add_mul], fun i hi => ?_⟩
 by_cases hl : i < l.length
 · rw [List.getElem_append_left hl]
   have h1 : i * Data.size α + Data.size α ≤ xs.length := by rw [h.1, ← Nat.succ_mul]; exact Nat.mul_le_mul_right _ hl
   rw [List.drop_append_of_le_length (by omega), List.take_append_of_le_length (by rw [List.length_drop]; omega)]
   exact h.2 i hl
 rw [List.length_append] at hi
 rw [List.getElem_append_right (by omega)]
 have e : i * Data.size α = xs.length + (i - l.length) * Data.size α := by rw [h.1, ← Nat.add_mul]; congr 1; omega
 rw [e, List.drop_append]
 rw [List.drop_of_length_le (by omega), List.nil_append]
 rw [show xs.length + (i - l.length) * Data.size α - xs.length = (i - l.length) * Data.size α by omega]
 exact k.2 (i - l.length) (by omega)
theorem RowRd.single {α : Type} [Data α] {S : Stab} {w : World} {cs : List Value} {a : α} (h : Data.rd S w cs a) : RowRd S w cs [a] := by
 refine ⟨by rw [Data.len h]; simp, fun i hi => ?_⟩
 have : i = 0 := by simp at hi; exact hi
 subst this
 have e : (cs.drop (0 * Data.size α)).take (Data.size α) = cs := by rw [Nat.zero_mul, List.drop_zero, ← Data.len h]; exact List.take_length
 rw [e]; exact h
theorem RowRd.one {α : Type} [Data α] {S : Stab} {w : World} {xs : List Value} {l : List α} (h : RowRd S w xs l) : ∀ u ∈ xs, u.oneCell' = true := by
 intro u hu
 by_cases hz : Data.size α = 0
 · have : xs = [] := List.eq_nil_of_length_eq_zero (by rw [h.1, hz]; simp)
   subst this; simp at hu
 obtain ⟨j, hj, rfl⟩ := List.getElem_of_mem hu
 have hpos : 0 < Data.size α := by omega
 have hi : j / Data.size α < l.length := by rw [Nat.div_lt_iff_lt_mul hpos, ← h.1]; exact hj
 refine Data.one (h.2 _ hi) _ ?_
 have hm := Nat.mod_lt j hpos
 have hd := Nat.div_add_mod j (Data.size α)
 rw [Nat.mul_comm] at hd
 refine List.mem_iff_getElem?.2 ⟨j % Data.size α, ?_⟩
 rw [List.getElem?_take, if_pos hm, List.getElem?_drop, hd, List.getElem?_eq_getElem hj]
def Own {α : Type} [Data α] (S : Stab) (w : World) (e : TypeId) (v : Value) (l : List α) : Prop :=
 ∃ xs, w.ownsRow 0 e (Data.size α) v l.length xs ∧ RowRd S w xs l
inductive Res : Type 1 where
 | iter (b : Nat) (s : ByteArray) (pos : Nat)
 | row {α : Type} [Data α] (e : TypeId) (v : Value) (l : List α)
 | box (b : Nat) (t : TypeId) (vs : List Value)
 | ro {α : Type} [Data α] (v : Value) (a : α)
 | obj {α : Type} [Data α] (b : Nat) (I : Obj → Prop) (vals : List (Value × α))
def Res.block : Res → Option Nat
 | .iter b _ _ => some b
 | @Res.row _ _ _ v _ => v.ownBlock
 | .box b _ _ => some b
 | @Res.ro _ _ _ _ => none
 | @Res.obj _ _ b _ _ => some b
def Res.ok (S : Stab) (w : World) : Res → Prop
 | .iter b s pos => w.heap[b]? = some (.stringIter s pos)
 | @Res.row _ _ e v l => Own S w e v l
 | .box b t vs => w.heap[b]? = some (.cells vs.toArray t (0, 0))
 | @Res.ro _ _ v a => Rd S w v a
 | @Res.obj _ _ b I vals => (∃ x, w.heap[b]? = some x ∧ I x) ∧ ∀ q ∈ vals, Rd S w q.1 q.2
structure Orig where
 w : World
 S : Stab
 ok : ∀ k, S k → k < w.heap.size
abbrev org (w : World) : Orig := ⟨w, fun _ => False, fun _ h => h.elim⟩
abbrev Since (o : Orig) (w' : World) : Stab := fun k => o.S k ∨ (o.w.heap.size ≤ k ∧ k < w'.heap.size)
structure Fr (w0 : Orig) (w : World) (S : Stab) (rs : List Res) : Prop where
 below : Below w0.w.heap.size w0.w w
 src : ∀ k, S k → w0.S k ∨ w0.w.heap.size ≤ k
 inb : ∀ k, S k → k < w.heap.size
 ok : ∀ r ∈ rs, r.ok S w
 own : ∀ r ∈ rs, ∀ b, r.block = some b → w0.w.heap.size ≤ b ∧ b < w.heap.size ∧ ¬ S b
 nodup : (rs.filterMap Res.block).Nodup
theorem Fr.start (o : Orig) : Fr o o.w o.S [] :=
 ⟨Below.refl _ _, fun _ h => .inl h, o.ok, fun _ h => by simp at h, fun _ h => by simp at h, by simp⟩
theorem Fr.org {w0 : Orig} {w : World} {S : Stab} {rs : List Res} (h : Fr w0 w S rs) : w0.w.heap.size ≤ w.heap.size := h.below.size
abbrev Fr.at {w0 : Orig} {w : World} {S : Stab} {rs : List Res} (h : Fr w0 w S rs) : Orig := ⟨w, S, h.inb⟩
theorem Res.ok_keep {S : Stab} {w w' : World} {r : Res} (h : r.ok S w) (hk : Keeps S w w') (hb : ∀ b, r.block = some b → w'.heap[b]? = w.heap[b]?) : r.ok S w' := by
 cases r with
 | iter b s pos => exact (hb b rfl).trans h
 | row e v l =>
   obtain ⟨xs, ⟨h1, h2⟩, h3⟩ := h
   refine ⟨xs, ⟨h1, ?_⟩, h3.keep hk⟩
   rcases h2 with h2 | ⟨g, cap, cur, rfl, hg, hh, rest⟩
   · exact .inl h2
   exact .inr ⟨g, cap, cur, rfl, hg, (hb g rfl).trans hh, rest⟩
 | box b t vs => exact (hb b rfl).trans h
 | ro v a => exact Rd.keep hk h
 | obj b I vals => exact ⟨let ⟨x, h1, h2⟩ := h.1; ⟨x, (hb b rfl).trans h1, h2⟩, fun q hq => (h.2 q hq).keep hk⟩
theorem Res.ok_up {S S' : Stab} {w : World} {r : Res} (h : r.ok S w) (hs : ∀ k, S k → S' k) : r.ok S' w := by
 cases r with
 | iter b s pos => exact h
 | row e v l => obtain ⟨xs, h1, h2⟩ := h; exact ⟨xs, h1, h2.up hs⟩
 | box b t vs => exact h
 | ro v a => exact Rd.up hs h
 | obj b I vals => exact ⟨h.1, fun q hq => (h.2 q hq).up hs⟩
theorem Fr.on {w0 : Orig} {w w' : World} {S : Stab} {rs : List Res} (h : Fr w0 w S rs) (hb : Below w.heap.size w w') : Fr w0 w' S rs where
 below := h.below.trans (hb.mono h.below.size)
 src := h.src
 inb k hk := Nat.lt_of_lt_of_le (h.inb k hk) hb.size
 ok r hr := Res.ok_keep (h.ok r hr) (fun k hk => hb.block k (h.inb k hk)) (fun b hb' => hb.block b (h.own r hr b hb').2.1)
 own r hr b hb' := let ⟨a, c, d⟩ := h.own r hr b hb'; ⟨a, Nat.lt_of_lt_of_le c hb.size, d⟩
 nodup := h.nodup
theorem Fr.call {w0 : Orig} {w w' : World} {S : Stab} {rs : List Res} (h : Fr w0 w S rs) (hb : Below w.heap.size w w') : Fr w0 w' (fun k => S k ∨ (w.heap.size ≤ k ∧ k < w'.heap.size)) rs where
 below := (h.on hb).below
 src k hk := by
   rcases hk with hk | hk
   · exact h.src k hk
   exact .inr (Nat.le_trans h.below.size hk.1)
 inb k hk := by
   rcases hk with hk | hk
   · exact (h.on hb).inb k hk
   exact hk.2
 ok r hr := Res.ok_up ((h.on hb).ok r hr) fun _ => .inl
 own r hr b hb' := by
   obtain ⟨a, c, d⟩ := h.own r hr b hb'
   exact ⟨a, Nat.lt_of_lt_of_le c hb.size, fun e => e.elim d (fun e => by omega)⟩
 nodup := h.nodup
theorem Fr.ro {α : Type} [Data α] {w0 : Orig} {w : World} {S : Stab} {rs : List Res} (h : Fr w0 w S rs) {v : Value} {a : α} (hr : Rd S w v a) : Fr w0 w S (.ro v a :: rs) where
 below := h.below
 src := h.src
 inb := h.inb
 ok r hr' := by
   rcases List.mem_cons.1 hr' with rfl | hr'
   · exact hr
   exact h.ok r hr'
 own r hr' b hb := by
   rcases List.mem_cons.1 hr' with rfl | hr'
   · cases hb
   exact h.own r hr' b hb
 nodup := by rw [List.filterMap_cons]; exact h.nodup
theorem Fr.put {w0 : Orig} {w : World} {S : Stab} {rs : List Res} (h : Fr w0 w S rs) (r : Res) (hr : r.ok S w)
   (hb : ∀ b, r.block = some b → w0.w.heap.size ≤ b ∧ b < w.heap.size ∧ ¬ S b ∧ ∀ r' ∈ rs, r'.block ≠ some b) : Fr w0 w S (r :: rs) where
 below := h.below
 src := h.src
 inb := h.inb
 ok r' hr' := by
   rcases List.mem_cons.1 hr' with rfl | hr'
   · exact hr
   exact h.ok r' hr'
 own r' hr' b hb' := by
   rcases List.mem_cons.1 hr' with rfl | hr'
   · obtain ⟨x, y, z, _⟩ := hb b hb'; exact ⟨x, y, z⟩
   exact h.own r' hr' b hb'
 nodup := by
   rw [List.filterMap_cons]
   split
   · exact h.nodup
   rename_i b hb'
   refine List.nodup_cons.2 ⟨fun hm => ?_, h.nodup⟩
   obtain ⟨r', hr', e⟩ := List.mem_filterMap.1 hm
   exact (hb b hb').2.2.2 r' hr' e
theorem Fr.fresh {w0 : Orig} {w : World} {S : Stab} {rs : List Res} (h : Fr w0 w S rs) : w0.w.heap.size ≤ w.heap.size ∧ ¬ S w.heap.size ∧ ∀ r ∈ rs, r.block ≠ some w.heap.size :=
 ⟨h.below.size, fun hs => Nat.lt_irrefl _ (h.inb _ hs), fun r hr e => Nat.lt_irrefl _ (h.own r hr _ e).2.1⟩
theorem below_new (w : World) (o : Obj) : Below w.heap.size w (w.alloc o) := (Below.refl _ _).alloc (Nat.le_refl _) _
theorem Fr.alloc {w0 : Orig} {w : World} {S : Stab} {rs : List Res} (h : Fr w0 w S rs) (o : Obj) : Fr w0 (w.alloc o) S rs := h.on (below_new w o)
theorem Fr.newBox {w0 : Orig} {w : World} {S : Stab} {rs : List Res} (h : Fr w0 w S rs) (vs : List Value) (t : TypeId) : Fr w0 (w.alloc (.cells vs.toArray t)) S (.box w.heap.size t vs :: rs) :=
 (h.alloc _).put _ (heap_alloc_new w _) (fun b hb => by
   cases hb
   have hf := h.fresh
   exact ⟨hf.1, by simp, hf.2.1, hf.2.2⟩)
theorem Fr.newRow {α : Type} [Data α] {w0 : Orig} {w : World} {S : Stab} {rs : List Res} (h : Fr w0 w S rs) (e : TypeId) : Fr w0 w S (.row e (.slice none 0 0) ([] : List α) :: rs) :=
 h.put _ ⟨[], World.ownsRow_nil _ _ _ _, RowRd.nil _ _⟩ (fun b hb => by cases hb)
theorem Fr.set {w0 : Orig} {w w' : World} {S : Stab} {rs : List Res} (h : Fr w0 w S rs) (i : Nat) {r : Res} (hi : rs[i]? = some r) (r' : Res) (hok : r'.ok S w')
   (hg : w.grownBy w' r.block) (hb : ∀ b, r'.block = some b → r.block = some b ∨ (w.heap.size ≤ b ∧ b < w'.heap.size)) : Fr w0 w' S (rs.set i r') := by
 have hS : ∀ k, S k → some k ≠ r.block := fun k hk e => (h.own r (List.mem_of_getElem? hi) k e.symm).2.2 hk
 have hkeep : Keeps S w w' := fun k hk => hg.block k (h.inb k hk) (hS k hk)
 have hil : i < rs.length := (List.getElem?_eq_some_iff.1 hi).1
 have hri : rs[i] = r := (List.getElem?_eq_some_iff.1 hi).2
 -- the others' blocks
 have hoth : ∀ j (hj : j < rs.length), j ≠ i → ∀ b, rs[j].block = some b → some b ≠ r.block := by
   intro j hj hne b hb' e
   have hn := h.nodup
   rw [List.Nodup, List.pairwise_filterMap] at hn
   rw [List.pairwise_iff_getElem] at hn
   rcases Nat.lt_or_gt_of_ne hne with hlt | hgt
   · exact hn j i hj hil hlt b hb' b (by rw [hri]; exact e.symm) rfl
   exact hn i j hil hj hgt b (by rw [hri]; exact e.symm) b hb' rfl
 have hO : ∀ k, k < w0.w.heap.size → some k ≠ r.block := fun k hk e => by have := (h.own r (List.mem_of_getElem? hi) k e.symm).1; omega
 refine ⟨?_, h.src, fun k hk => Nat.lt_of_lt_of_le (h.inb k hk) hg.size, ?_, ?_, ?_⟩
 · refine h.below.trans ⟨hg.os, hg.tape, hg.output, hg.size, fun k hk => ?_⟩
   exact hg.block k (Nat.lt_of_lt_of_le hk h.below.size) (hO k hk)
 · intro x hx
   obtain ⟨j, hj, rfl⟩ := List.getElem_of_mem hx
   rw [List.length_set] at hj
   rw [List.getElem_set]
   split
   · exact hok
   rename_i hne
   refine Res.ok_keep (h.ok _ (List.getElem_mem hj)) hkeep fun b hb' => ?_
   exact hg.block b (h.own _ (List.getElem_mem hj) b hb').2.1 (hoth j hj (fun e => hne e.symm) b hb')
 · intro x hx b hb'
   obtain ⟨j, hj, rfl⟩ := List.getElem_of_mem hx
   rw [List.length_set] at hj
   rw [List.getElem_set] at hb'
   split at hb'
   · rcases hb b hb' with e | ⟨e1, e2⟩
     · obtain ⟨a, c, d⟩ := h.own r (List.mem_of_getElem? hi) b e
       exact ⟨a, Nat.lt_of_lt_of_le c hg.size, d⟩
     exact ⟨Nat.le_trans h.below.size e1, e2, fun hs => by have := h.inb b hs; omega⟩
   obtain ⟨a, c, d⟩ := h.own _ (List.getElem_mem hj) b hb'
   exact ⟨a, Nat.lt_of_lt_of_le c hg.size, d⟩
 have hn := h.nodup
 rw [List.Nodup, List.pairwise_filterMap, List.pairwise_iff_getElem] at hn ⊢
 intro j k hj hk hjk
 rw [List.length_set] at hj hk
 rw [List.getElem_set, List.getElem_set]
 intro b hb1 b' hb2 e
 subst e
 split at hb1
 · rename_i e1
   rw [if_neg (by omega)] at hb2
   rcases hb b hb1 with e | ⟨e2, e3⟩
   · exact hoth k hk (by omega) b hb2 e.symm
   have := (h.own _ (List.getElem_mem hk) b hb2).2.1; omega
 split at hb2
 · rcases hb b hb2 with e | ⟨e2, e3⟩
   · exact hoth j hj (by omega) b hb1 e.symm
   have := (h.own _ (List.getElem_mem hj) b hb1).2.1; omega
 exact hn j k hj hk hjk b hb1 b hb2 rfl
structure Elem (P : Program) (t e : TypeId) (size bytes : Nat) : Prop where
 under : P.underlying t = some (.slice e)
 info : ∃ i z, P.info? e = some i ∧ i.zero = some z ∧ i.size = size ∧ i.bytes = bytes ∧ z.cells.size = size
 pos : 0 < size
theorem elem_of {P : Program} {t e : TypeId} {z : Value} {size bytes : Nat} (hu : P.underlying t = some (.slice e)) (h : (P.info? e).map (fun i => (i.zero, i.size, i.bytes)) = some (some z, size, bytes)) (hz : z.cells.size = size) (hp : 0 < size) : Elem P t e size bytes := by
 obtain ⟨i, h1, h2, h3, h4⟩ := info_parts h
 exact ⟨hu, ⟨i, z, h1, h2, h3, h4, hz⟩, hp⟩
theorem run_push {P : Program} {t ty e : TypeId} {size bytes : Nat} (E : Elem P t e size bytes) (w : World) (v : Value) (n : Nat) (xs : List Value) (hown : w.ownsRow 0 e size v n xs)
   (a : Addr) (m c : Nat) (news : List Value) (hl : news.length = m * size) (hnews : ∀ j u, news[j]? = some u → w.cell? (a.add j) = some u) (h1 : ∀ u ∈ news, u.oneCell' = true)
   (h63 : n + m ≤ maxLen) (hbytes : (n + m) * bytes ≤ 140737488355328) :
   ∃ v' w', (Builtin.append_ #[t, t] ty #[v, .slice (some a) m c]).run P w = .ok v' w' ∧ w'.ownsRow 0 e size v' (n + m) (xs ++ news) ∧ w.grownBy w' v.ownBlock ∧
     (∀ b, v'.ownBlock = some b → v.ownBlock = some b ∨ (w.heap.size ≤ b ∧ b < w'.heap.size)) := by
 obtain ⟨i, z, hi, hz, hsize, hby, hzs⟩ := E.info
 by_cases hnil : v = .slice none 0 0 ∨ ¬ (∃ g cap, v = .slice (some ⟨g, 0, none⟩) n cap ∧ n + m ≤ cap)
 · -- a new block, or nothing
   have hkey : ∃ base, base = w.heap.size ∧ True := ⟨_, rfl, tv⟩
   rcases hown.2 with ⟨rfl, rfl⟩ | ⟨g, cap, cur, rfl, hbg, hg, hnc, hcm, hcs, htake⟩
   · have hx : xs = [] := List.eq_nil_of_length_eq_zero (by simpa using hown.1)
     subst hx
     obtain ⟨v', w', hr, h2, h3, h4⟩ := run_append_own (P := P) w w.heap.size t ty e i z size bytes E.under hi hz hsize hby hzs E.pos (.slice none 0 0) 0 [] (World.ownsRow_nil _ _ _ _) a m c news hl hnews h1 h63 hbytes (Nat.le_refl _)
     refine ⟨v', w', hr, ⟨h2.1, ?_⟩, h3, fun b hb => .inr (h2.lt b hb)⟩
     rcases h2.2 with h | ⟨g, cap, cur, e1, e2, e3⟩
     · exact .inl h
     exact .inr ⟨g, cap, cur, e1, Nat.zero_le _, e3⟩
   have hroom : ¬ n + m ≤ cap := by
     rcases hnil with h | h
     · cases h
     intro hh; exact h ⟨g, cap, rfl, hh⟩
   have holds : ∀ j u, xs[j]? = some u → w.cell? ((⟨g, 0, none⟩ : Addr).add j) = some u := hown.cells (g := g) rfl
   have h63' : n + m ≤ 9223372036854775807 := by simp only [maxLen] at h63; omega
   have hr := run_append_grow (P := P) w t ty e i z E.under hi hz ⟨g, 0, none⟩ n cap xs (by rw [hsize]; exact hown.1) holds a m c news (by rw [hsize]; exact hl) hnews (by omega) (by omega) (by rw [hby]; exact growslice_fits (by omega) hbytes)
   have hge := grownCap_ge w (n + m) cap e
   have hcm' : grownCap w (n + m) cap e ≤ maxLen := grownCap_le_maxLen w (n + m) cap e h63
   refine ⟨_, _, hr, ⟨by rw [List.length_append, hown.1, hl, Nat.add_mul], .inr ⟨w.heap.size, _, _, rfl, Nat.zero_le _, heap_alloc_new w.drew _, hge, hcm', ?_, ?_⟩⟩, ⟨rfl, rfl, rfl, by simp, fun k hk _ => heap_alloc_old w.drew _ hk⟩, ?_⟩
   · simp only [Array.size_append, List.size_toArray, size_zeroCells, hzs, hown.1, hl, ← Nat.add_mul]
     congr 1
     omega
   · simp only [Array.toList_append, List.append_assoc]
     rw [← List.append_assoc, Nat.add_mul, ← hown.1, ← hl, ← List.length_append]
     exact List.take_left
   intro b hb
   simp [Value.ownBlock] at hb
   subst hb
   exact .inr ⟨Nat.le_refl _, by simp⟩
 -- in its place
 have hv : ∃ g cap, v = .slice (some ⟨g, 0, none⟩) n cap ∧ n + m ≤ cap := Classical.byContradiction fun h => hnil (.inr h)
 obtain ⟨g, cap, rfl, hroom⟩ := hv
 rcases hown.2 with ⟨h, _⟩ | ⟨g', cap', cur, hv', hbg, hg, hnc, hcm, hcs, htake⟩
 · cases h
 cases hv'
 have hfit : n * i.size + news.length ≤ cur.size := by rw [hl, hcs, hsize, ← Nat.add_mul]; exact Nat.mul_le_mul_right _ hroom
 have hr := run_append_room (P := P) w t ty e i E.under hi g n cap cur hg a m c news (by rw [hsize]; exact hl) hnews h1 hroom hfit
 refine ⟨_, _, hr, ⟨by rw [List.length_append, hown.1, hl, Nat.add_mul], .inr ⟨g, cap, _, rfl, Nat.zero_le _, setRow_heap w g cur _ e _ hg, hroom, hcm, ?_, ?_⟩⟩, ⟨rfl, rfl, rfl, by simp, fun k _ hk => setRow_other w g k _ (fun e => hk (by simp [Value.ownBlock, e]))⟩, fun b hb => .inl hb⟩
 · simp only [List.size_toArray, List.length_append, List.length_take, List.length_drop, Array.length_toList]
   omega
 rw [hsize, htake, Nat.add_mul, ← hown.1, ← hl, ← List.length_append]
 exact List.take_left
theorem Fr.push {P : Program} {t ty e : TypeId} {α : Type} [Data α] {bytes : Nat} (E : Elem P t e (Data.size α) bytes) {w0 : Orig} {w : World} {S : Stab} {rs : List Res} (h : Fr w0 w S rs) (i : Nat) {v : Value} {l : List α} (hi : rs[i]? = some (.row e v l))
   (a : Addr) (c : Nat) (m : List α) (news : List Value) (hrd : RowRd S w news m) (hnews : ∀ j u, news[j]? = some u → w.cell? (a.add j) = some u)
   (h63 : l.length + m.length ≤ maxLen) (hbytes : (l.length + m.length) * bytes ≤ 140737488355328) :
   ∃ v' w', (Builtin.append_ #[t, t] ty #[v, .slice (some a) m.length c]).run P w = .ok v' w' ∧ Fr w0 w' S (rs.set i (.row e v' (l ++ m))) ∧ w.grownBy w' v.ownBlock := by
 obtain ⟨xs, h1, h2⟩ := h.ok _ (List.mem_of_getElem? hi)
 obtain ⟨v', w', hr, k1, k2, k3⟩ := run_push E w v l.length xs h1 a m.length c news hrd.1 hnews hrd.one h63 hbytes
 have hS : Keeps S w w' := fun k hk => k2.block k (h.inb k hk) (fun e => (h.own _ (List.mem_of_getElem? hi) k e.symm).2.2 hk)
 refine ⟨v', w', hr, h.set i hi _ ⟨xs ++ news, by rw [List.length_append]; exact k1, (h2.keep hS).append (hrd.keep hS)⟩ k2 k3, k2⟩
theorem Fr.next {w0 : Orig} {w : World} {S : Stab} {rs : List Res} (h : Fr w0 w S rs) (i : Nat) {b : Nat} {s : ByteArray} {pos : Nat} (hi : rs[i]? = some (.iter b s pos)) (pos' : Nat) : Fr w0 (w.iterAt b s pos') S (rs.set i (.iter b s pos')) := by
 have hok := h.ok _ (List.mem_of_getElem? hi)
 refine h.set i hi _ (Lib.iterAt_heap w b s pos pos' hok) ⟨rfl, rfl, rfl, by rw [Lib.iterAt_size]; exact Nat.le_refl _, fun k hk hne => Lib.iterAt_other w b k s pos' (fun e => hne (by rw [e]; rfl))⟩ (fun b' hb' => .inl hb')
theorem Fr.out {α : Type} [Data α] {w0 : Orig} {w : World} {S : Stab} {rs : List Res} (h : Fr w0 w S rs) (i : Nat) {e : TypeId} {v : Value} {l : List α} (hi : rs[i]? = some (.row e v l)) : Rd (· < w.heap.size) w v l := by
 obtain ⟨xs, h1, h2⟩ := h.ok _ (List.mem_of_getElem? hi)
 refine slice_rd ?_
 rcases h1.2 with ⟨rfl, hn⟩ | ⟨g, cap, cur, rfl, _, hg, hnc, hcm, hcs, htake⟩
 · have : l = [] := List.eq_nil_of_length_eq_zero hn
   subst this
   exact ⟨none, 0, rfl, by simp, by simp [maxLen], .inl rfl⟩
 refine ⟨_, cap, rfl, hnc, hcm, .inr ⟨g, 0, cur, e, (0, 0), rfl, (Array.getElem?_eq_some_iff.1 hg).1, hg, fun j hj => ?_⟩⟩
 refine ⟨_, Data.up h.inb (h2.2 j hj), fun q hq => ?_⟩
 rw [List.getElem?_take, if_pos hq, List.getElem?_drop, ← htake, List.getElem?_take, if_pos ?_]
 · simp
 have := Nat.mul_le_mul_right (Data.size α) (show j + 1 ≤ l.length from hj)
 rw [Nat.succ_mul] at this
 omega
theorem Fr.give {α : Type} [Data α] {w0 : Orig} {w : World} {S : Stab} {rs : List Res} (h : Fr w0 w S rs) (i : Nat) {e : TypeId} {v : Value} {l : List α} (hi : rs[i]? = some (.row e v l)) : Rd (Since w0 w) w v l := by
 obtain ⟨xs, h1, h2⟩ := h.ok _ (List.mem_of_getElem? hi)
 have hS : ∀ k, S k → Since w0 w k := fun k hk => (h.src k hk).elim .inl fun q => .inr ⟨q, h.inb k hk⟩
 refine slice_rd ?_
 rcases h1.2 with ⟨rfl, hn⟩ | ⟨g, cap, cur, rfl, _, hg, hnc, hcm, hcs, htake⟩
 · have : l = [] := List.eq_nil_of_length_eq_zero hn
   subst this
   exact ⟨none, 0, rfl, by simp, by simp [maxLen], .inl rfl⟩
 obtain ⟨hg1, hg2, _⟩ := h.own _ (List.mem_of_getElem? hi) g rfl
 refine ⟨_, cap, rfl, hnc, hcm, .inr ⟨g, 0, cur, e, (0, 0), rfl, .inr ⟨hg1, hg2⟩, hg, fun j hj => ?_⟩⟩
 refine ⟨_, Data.up hS (h2.2 j hj), fun q hq => ?_⟩
 rw [List.getElem?_take, if_pos hq, List.getElem?_drop, ← htake, List.getElem?_take, if_pos ?_]
 · simp
 have := Nat.mul_le_mul_right (Data.size α) (show j + 1 ≤ l.length from hj)
 rw [Nat.succ_mul] at this
 omega
theorem Fr.since {w0 : Orig} {w : World} {S : Stab} {rs : List Res} (h : Fr w0 w S rs) : ∀ k, S k → Since w0 w k := fun k hk => (h.src k hk).elim .inl fun q => .inr ⟨q, h.inb k hk⟩
theorem Rd.all {α : Type} [Data α] {w0 : Orig} {w : World} {S : Stab} {rs : List Res} (h : Fr w0 w S rs) {v : Value} {a : α} (hr : Rd S w v a) : Rd (· < w.heap.size) w v a := hr.up h.inb
def InR : IntKind → Int → Prop
 | .i64, n => -9223372036854775808 ≤ n ∧ n ≤ 9223372036854775807
 | .i32, n => -2147483648 ≤ n ∧ n ≤ 2147483647
 | .u8, n => 0 ≤ n ∧ n ≤ 255
 | .u32, n => 0 ≤ n ∧ n ≤ 4294967295
 | .u64, n => 0 ≤ n ∧ n ≤ 18446744073709551615
 | _, _ => False
theorem InR.wrap {k : IntKind} {n : Int} (h : InR k n) : k.wrap n = n := by
 cases k <;> simp only [InR] at h <;> first | exact h.elim | skip
 all_goals simp only [IntKind.wrap, IntKind.signed, IntKind.bits]
 all_goals simp
 all_goals first | omega | (split <;> omega)
def hdB : Value → Nat
 | .slice (some a) _ _ => a.block
 | .pointer (some a) => a.block
 | _ => 0
def hdO : Value → Nat
 | .slice (some a) _ _ => a.off
 | .pointer (some a) => a.off
 | _ => 0
def LenOk (v : Value) (n : Int) : Prop := ∃ p m c, v = .slice p m c ∧ n = (m : Int)
def IdxOk (v : Value) (i : Int) : Prop := ∃ b o n c, v = .slice (some ⟨b, o, none⟩) n c ∧ 0 ≤ i ∧ i < n
def CellOk (C : World → Prop) (b o : Nat) (u : Value) : Prop := ∀ w, C w → w.cell? ⟨b, o, none⟩ = some u
def RowOk (C : World → Prop) (b o n : Nat) (us : Array Value) : Prop := us.size = n ∧ ∀ w, C w → ∀ j, j < n → w.cell? ⟨b, o + j, none⟩ = us[j]?
def Callable (P : Program) (f : FuncId) : Prop := ∃ fn, P.funcs[f]? = some fn ∧ (fn.name == "runtime.NumGoroutine") = false ∧ fn.body.isNone = false
def CallOk (P : Program) (C : World → Prop) (f : FuncId) (args : Array Value) (v : Value) : Prop := ∀ w, C w → Calls P f args w (fun e w' => e = .returned v ∧ C w')
def StrAt (s : ByteArray) (i : Int) : Int := ((s.data.getD i.toNat 0).toNat : Int)
def EqOk (P : Program) (t : TypeId) (x y : Value) (r : Bool) : Prop := ∀ w, (Op.equal t x y).run P w = .ok r w
def evBin (P : Program) (op : BinOp) (t : TypeId) (x y : Value) (orc : Option Value) : Option (Value × Prop) :=
 match x, y with
 | .int k a, .int k' b =>
   match op, orc with
   | .shr, some (.int _ u) => some (.int k u, 0 ≤ b ∧ a.fdiv (2 ^ (min b.toNat k.bits)) = u)
   | _, _ => if k = k' then
     match op with
     | .add => some (.int k (a + b), InR k (a + b))
     | .sub => some (.int k (a - b), InR k (a - b))
     | .mul => some (.int k (a * b), InR k (a * b))
     | .quo => some (.int k (a / b), 0 ≤ a ∧ 0 < b ∧ InR k a)
     | .rem => some (.int k (a % b), 0 ≤ a ∧ 0 < b)
     | .eql => some (.bool (decide (a = b)), True)
     | .neq => some (.bool (!decide (a = b)), True)
     | .lss => some (.bool (decide (a < b)), True)
     | .leq => some (.bool (decide (a ≤ b)), True)
     | .gtr => some (.bool (decide (b < a)), True)
     | .geq => some (.bool (decide (b ≤ a)), True)
     | _ => none
   else none
 | .string a, .string b =>
   match op with
   | .add => some (.string (a ++ b), a.size + b.size ≤ 9223372036854775807)
   | .eql => some (.bool (a.toList == b.toList), True)
   | .neq => some (.bool (!(a.toList == b.toList)), True)
   | _ => none
 | .bool a, .bool b =>
   match op with
   | .eql => some (.bool (a == b), P.underlying t = some .bool)
   | .neq => some (.bool (!(a == b)), P.underlying t = some .bool)
   | _ => none
 | .agg a, .agg b =>
   match op, orc with
   | .eql, some (.bool r) => some (.bool r, EqOk P t (.agg a) (.agg b) r ∧ P.eqGuardType P.depth t = false)
   | .neq, some (.bool r) => some (.bool (!r), EqOk P t (.agg a) (.agg b) r ∧ P.eqGuardType P.depth t = false)
   | _, _ => none
 | _, _ => none
section
variable {P : Program}
theorem inR_le {k : IntKind} {a b : Int} (h : InR k a) (h0 : 0 ≤ a) (hb : 0 < b) : InR k (a / b) := by
 have h1 : 0 ≤ a / b := Int.ediv_nonneg h0 (by omega)
 have h2 : a / b ≤ a := Int.ediv_le_self b h0
 cases k <;> simp only [InR] at h ⊢ <;> omega
theorem evBin_ok {op : BinOp} {t : TypeId} {x y : Operand} {a b v : Value} {p : Prop} {orc : Option Value} (h : evBin P op t a b orc = some (v, p)) (hp : p) (w : World) :
   (do eqGuard op t x y a b; binOp op t a b : Sem Value).run P w = .ok v w := by
 unfold evBin at h
 split at h
 · rename_i k a k' b
   split at h
   · rename_i u
     simp only [Option.some.injEq, Prod.mk.injEq] at h
     obtain ⟨rfl, rfl⟩ := h
     have hg : (eqGuard .shr t x y (.int k a) (.int k' b)).run P w = .ok () w := by
       unfold eqGuard; split <;> rfl
     rw [Sem.run_bind, hg]
     simp only [Result.andThen, binOp, Op.shift]
     rw [if_neg (by omega), hp.2]
     rfl
   split at h
   · rename_i hk
     subst hk
     have hg : (eqGuard op t x y (.int k a) (.int k b)).run P w = .ok () w := by
       unfold eqGuard; split <;> rfl
     rw [Sem.run_bind, hg]
     simp only [Result.andThen]
     cases op <;> simp only [Option.some.injEq, Prod.mk.injEq, reduceCtorEq] at h
     all_goals (obtain ⟨rfl, rfl⟩ := h)
     all_goals simp only [binOp, ne_eq, not_true_eq_false, if_false, Op.intArith, Op.intDiv, Op.intCmp]
     case add => rw [hp.wrap]; rfl
     case sub => rw [hp.wrap]; rfl
     case mul => rw [hp.wrap]; rfl
     case quo =>
       obtain ⟨h0, h1, h2⟩ := hp
       rw [if_neg (by omega), Int.tdiv_eq_ediv_of_nonneg h0, (inR_le h2 h0 h1).wrap]; rfl
     case rem =>
       obtain ⟨h0, h1⟩ := hp
       rw [if_neg (by omega), Int.tmod_eq_emod_of_nonneg h0]; rfl
     case eql => simp [pure]; rfl
     case neq => simp [pure]; rfl
     all_goals rfl
   cases h
 · rename_i a b
   have hg : (eqGuard op t x y (.string a) (.string b)).run P w = .ok () w := by
     unfold eqGuard; split <;> rfl
   rw [Sem.run_bind, hg]
   simp only [Result.andThen]
   cases op <;> simp only [Option.some.injEq, Prod.mk.injEq, reduceCtorEq] at h
   all_goals (obtain ⟨rfl, rfl⟩ := h)
   all_goals simp only [binOp, Op.stringOp]
   case add =>
     rw [if_neg (by have : IntKind.max .i64 = 9223372036854775807 := by decide
                    omega)]
     rfl
   all_goals rfl
 · rename_i a b
   have hg : (eqGuard op t x y (.bool a) (.bool b)).run P w = .ok () w := by
     unfold eqGuard; split <;> rfl
   rw [Sem.run_bind, hg]
   simp only [Result.andThen]
   cases op <;> simp only [Option.some.injEq, Prod.mk.injEq, reduceCtorEq] at h
   all_goals (obtain ⟨rfl, rfl⟩ := h)
   all_goals
     simp only [binOp, Sem.run_bind]
     rw [show (Op.equal t (.bool a) (.bool b)).run P w = .ok (a == b) w from run_equal_bool w t a b hp]
     rfl
 · rename_i a b
   have hg : P.eqGuardType P.depth t = false → (eqGuard op t x y (.agg a) (.agg b)).run P w = .ok () w := by
     intro he
     cases op <;> simp [eqGuard, program, Sem.run, he, Result.andThen]
   split at h
   · simp only [Option.some.injEq, Prod.mk.injEq] at h
     obtain ⟨rfl, rfl⟩ := h
     rw [Sem.run_bind, hg hp.2]
     simp only [Result.andThen, binOp, Sem.run_bind, hp.1 w]
     rfl
   · simp only [Option.some.injEq, Prod.mk.injEq] at h
     obtain ⟨rfl, rfl⟩ := h
     rw [Sem.run_bind, hg hp.2]
     simp only [Result.andThen, binOp, Sem.run_bind, hp.1 w]
     rfl
   cases h
 cases h
def evOp (P : Program) (C : World → Prop) (g : Operand → Option Value) (op : Op) (orc : Option Value) : Option (Value × Prop) :=
 match op with
 | .move x => (g x).map fun v => (v, True)
 | .assign x => (g x).map fun v => (v, True)
 | .unOp .not _ x => match g x with | some (.bool b) => some (.bool (!b), True) | _ => none
 | .extract x i => match g x with | some (.tuple vs) => (vs[i]?).map fun v => (v, True) | _ => none
 | .nilCheck x => match g x with | some (.pointer (some a)) => some (.pointer (some a), True) | _ => none
 | .binOp o t x y _ => match g x, g y with | some a, some b => evBin P o t a b orc | _, _ => none
 | .convert s d x => match P.underlying s, P.underlying d with
   | some (.int _), some (.int k) => match g x with | some (.int _ n) => some (.int k n, InR k n) | _ => none
   | some (.slice _), some .string => match g x, orc with | some v, some u => some (u, ∀ w, C w → (convert s d v).run P w = .ok u w) | _, _ => none
   | _, _ => none
 | .index t x i => match P.underlying t, g x, g i with | some .string, some (.string s), some (.int _ n) => some (.int .u8 (StrAt s n), 0 ≤ n ∧ n < (s.size : Int)) | _, _, _ => none
 | .indexAddr t x i => match P.underlying t, g x, g i with | some (.slice e), some v, some (.int _ n) => some (.pointer (some ⟨hdB v, hdO v + n.toNat * P.cellsOf e, none⟩), (P.info? e).isSome = true ∧ IdxOk v n) | _, _, _ => none
 | .fieldAddr t x f => match P.underlying t, g x with
   | some (.struct fs), some (.pointer (some ⟨b, o, none⟩)) => match fs[f]? with
     | some fd => some (.pointer (some ⟨b, o + fd.offset, none⟩), 0 < P.cellsOf fd.type)
     | none => none
   | _, _ => none
 | .load t x => match P.underlying t, g x, orc with
   | some (.struct _), some (.pointer (some ⟨b, o, none⟩)), some (.agg us) => some (.agg us, (P.info? t).isSome = true ∧ RowOk C b o (P.cellsOf t) us)
   | some (.struct _), _, _ => none
   | some (.array _ _), _, _ => none
   | some _, some (.pointer (some ⟨b, o, none⟩)), some u => some (u, CellOk C b o u)
   | _, _, _ => none
 | .field t x f => match P.underlying t, g x with
   | some (.struct fs), some (.agg cs) => match fs[f]? with
     | some fd => match P.underlying fd.type with
       | some (.struct _) => some (.agg (cs.extract fd.offset (fd.offset + P.cellsOf fd.type)), (P.info? fd.type).isSome = true)
       | some (.array _ _) => none
       | some _ => (cs[fd.offset]?).map fun v => (v, True)
       | none => none
     | none => none
   | _, _ => none
 | .build t ps => match ps.toList.mapM (fun x => (g x.2).map fun v => (x.1, v)), orc with
   | some vs, some v => some (v, ∀ w, (Instr.build t vs.toArray).run P w = .ok v w)
   | _, _ => none
 | .slice t x lo hi none => match g x, lo.map g, hi.map g, orc with
   | some v, some (some l), some (some h), some u => some (u, ∀ w, (Instr.sliceAt t v (some l) (some h) none).run P w = .ok u w)
   | some v, some (some l), none, some u => some (u, ∀ w, (Instr.sliceAt t v (some l) none none).run P w = .ok u w)
   | some v, none, some (some h), some u => some (u, ∀ w, (Instr.sliceAt t v none (some h) none).run P w = .ok u w)
   | some v, none, none, some u => some (u, ∀ w, (Instr.sliceAt t v none none none).run P w = .ok u w)
   | _, _, _, _ => none
 | .lookup t m k ok => match g m, g k, orc with
   | some vm, some vk, some u => some (u, ∀ w, C w → (Instr.lookup t vm vk ok).run P w = .ok u w)
   | _, _, _ => none
 | .call c => match c.callee, c.args.toList.map g with
   | .builtin .max, vs => match vs.mapM id, orc with | some us, some v => some (v, ∀ ty w, (Builtin.max_ c.argTypes ty us.toArray).run P w = .ok v w) | _, _ => none
   | .builtin .min, vs => match vs.mapM id, orc with | some us, some v => some (v, ∀ ty w, (Builtin.min_ c.argTypes ty us.toArray).run P w = .ok v w) | _, _ => none
   | .builtin .len, [some v] => match (c.argTypes[0]?).bind P.underlying with
     | some .string => match v with | .string s => some (.int .i64 s.size, True) | _ => none
     | some (.slice _) => match orc with | some (.int .i64 n) => some (.int .i64 n, LenOk v n) | _ => none
     | _ => none
   | .value x, vs => match g x, vs.mapM id, orc with | some (.func (.func f) first cap), some us, some v => some (v, Callable P f ∧ CallOk P C f (first ++ us.toArray ++ cap) v) | _, _, _ => none
   | _, _ => none
 | _ => none
theorem run_fieldPlace {fd : Field} {b f : Nat} (w : World) (h0 : 0 < P.cellsOf fd.type) : (fieldPlace ⟨b, f, none⟩ fd).run P w = .ok (⟨b, f + fd.offset, none⟩ : Addr) w := by
 have hi : ∃ i, P.info? fd.type = some i := by
   cases hh : P.info? fd.type with
   | none => simp [Program.cellsOf, hh] at h0
   | some i => exact ⟨i, rfl⟩
 obtain ⟨i, hi⟩ := hi
 have hs : i.size ≠ 0 := by simp [Program.cellsOf, hi] at h0; omega
 have hadd : (⟨b, f, none⟩ : Addr).add fd.offset = ⟨b, f + fd.offset, none⟩ := by unfold Addr.add; split <;> simp_all
 simp [fieldPlace, sizeOf, typeInfo, program, Sem.run, hi, hs, hadd]
theorem run_loadCellsFrom (w : World) (b o : Nat) (us : Array Value) (n : Nat) (hn : us.size = n) (h : ∀ j, j < n → w.cell? ⟨b, o + j, none⟩ = us[j]?) :
   ∀ k i (acc : Array Value), i + k = n → acc = us.extract 0 i → (loadCellsFrom ⟨b, o, none⟩ i k acc).run P w = .ok us w := by
 intro k
 induction k with
 | zero =>
   intro i acc hi hacc
   subst hacc
   have : i = us.size := by omega
   subst this
   simp [loadCellsFrom]
 | succ k ih =>
   intro i acc hi hacc
   have hc := h i (by omega)
   have hadd : (⟨b, o, none⟩ : Addr).add i = ⟨b, o + i, none⟩ := by unfold Addr.add; split <;> simp_all
   have hlt : i < us.size := by omega
   rw [Array.getElem?_eq_getElem hlt] at hc
   simp only [loadCellsFrom, load, Sem.run_bind, hadd]
   rw [show (Sem.load .plain ⟨b, o + i, none⟩ Sem.pure : Sem Value).run P w = .ok us[i] w from by simp [Sem.run, hc]]
   simp only [Result.andThen]
   refine ih (i + 1) _ (by omega) ?_
   subst hacc
   simp
theorem evOp_len {C : World → Prop} {t : TypeId} {b o : Nat} {us : Array Value} {d : TypeDesc} (w : World) (hw : C w) (hu : P.underlying t = some d) (hd : ∃ fs, d = .struct fs) (hi : (P.info? t).isSome = true) (hr : RowOk C b o (P.cellsOf t) us) :
   (Instr.loadAt t (.pointer (some ⟨b, o, none⟩))).run P w = .ok (.agg us) w := by
 obtain ⟨fs, rfl⟩ := hd
 obtain ⟨i, hi⟩ := Option.isSome_iff_exists.1 hi
 have := run_loadCellsFrom (P := P) w b o us (P.cellsOf t) hr.1 (hr.2 w hw) (P.cellsOf t) 0 #[] (by omega) (by simp)
 simp [Instr.loadAt, Instr.sureAddr, loadVar, isAgg, run_underlying hu, run_sizeOf w hi, loadCells, this]
theorem load_one {t : TypeId} {b o : Nat} {d : TypeDesc} {u : Value} (w : World) (hu : P.underlying t = some d) (hd1 : ∀ fs, d = .struct fs → False) (hd2 : ∀ n e, d = .array n e → False) (hc : w.cell? ⟨b, o, none⟩ = some u) :
   (Instr.loadAt t (.pointer (some ⟨b, o, none⟩))).run P w = .ok u w := by
 cases d <;> first | exact (hd1 _ rfl).elim | exact (hd2 _ _ rfl).elim | simp [Instr.loadAt, Instr.sureAddr, loadVar, isAgg, run_underlying hu, load, Sem.run, hc]
theorem quiet_value {C : World → Prop} {v : Value} {w : World} {s : Sem Value} (h : s.run P w = .ok v w) : Oper.quietUpon P C w v ((do pure (.value (← s)) : Sem Next).run P w) := by
 rw [Sem.run_bind, h]
 exact ⟨rfl, rfl⟩
theorem quiet_value' {C : World → Prop} {v : Value} {w : World} {s : Sem Value} (h : s.run P w = .ok v w) : Oper.quietUpon P C w v ((s.run P w).andThen fun a w' => .ok (.value a) w') := by
 rw [h]
 exact ⟨rfl, rfl⟩
theorem args_of {g : Operand → Option Value} {ρ : Operand → Value} (hg : ∀ x u, g x = some u → ρ x = u) : ∀ (l : List Operand) (us : List Value), (l.map g).mapM id = some us → l.map ρ = us
 | [], us, h => by simp at h; simp [h]
 | x :: l, us, h => by
   simp only [List.map_cons, List.mapM_cons, id_eq, Option.bind_eq_bind, Option.bind_eq_some_iff, Option.pure_def, Option.some.injEq] at h
   obtain ⟨u, hu, vs, hvs, rfl⟩ := h
   rw [List.map_cons, hg x u hu, args_of hg l vs hvs]
theorem parts_of {g : Operand → Option Value} {ρ : Operand → Value} (hg : ∀ x u, g x = some u → ρ x = u) : ∀ (l : List (Nat × Operand)) (us : List (Nat × Value)), l.mapM (fun x => (g x.2).map fun v => (x.1, v)) = some us → l.map (fun x => (x.1, ρ x.2)) = us
 | [], us, h => by simp at h; simp [h]
 | x :: l, us, h => by
   simp only [List.mapM_cons, Option.bind_eq_bind, Option.bind_eq_some_iff, Option.pure_def, Option.some.injEq, Option.map_eq_some_iff] at h
   obtain ⟨_, ⟨u, hu, rfl⟩, vs, hvs, rfl⟩ := h
   rw [List.map_cons, hg x.2 u hu, parts_of hg l vs hvs]
theorem args_arr {g : Operand → Option Value} {ρ : Operand → Value} (hg : ∀ x u, g x = some u → ρ x = u) (a : Array Operand) (us : List Value) (h : (a.toList.map g).mapM id = some us) : a.map ρ = us.toArray := by
 have := args_of hg a.toList us h
 rw [← this]
 apply Array.ext'
 rw [Array.toList_map]
theorem evOp_ok {C : World → Prop} {g : Operand → Option Value} {ρ : Operand → Value} {o : Oper} {orc : Option Value} {v : Value} {p : Prop} (hg : ∀ x u, g x = some u → ρ x = u)
   (h : evOp P C g o.op orc = some (v, p)) (hp : p) (w : World) (hw : C w) : Oper.quietUpon P C w v ((execOp ρ o).run P w) := by
 cases hop : o.op <;> rw [hop] at h
 all_goals first | (cases h; done) | skip
 case move x =>
   simp only [evOp] at h
   simp only [execOp, hop]
   obtain ⟨u, hu, e⟩ := Option.map_eq_some_iff.1 h
   cases e
   rw [hg x _ hu]
   exact ⟨rfl, rfl⟩
 case assign x =>
   simp only [evOp] at h
   simp only [execOp, hop]
   obtain ⟨u, hu, e⟩ := Option.map_eq_some_iff.1 h
   cases e
   rw [hg x _ hu]
   exact ⟨rfl, rfl⟩
 case unOp uo t x =>
   cases uo
   all_goals first | (cases h; done) | skip
   simp only [evOp] at h
   split at h
   · rename_i b hb
     cases h
     simp only [execOp, hop, hg x _ hb]
     exact ⟨rfl, rfl⟩
   cases h
 case extract x i =>
   simp only [evOp] at h
   split at h
   · rename_i vs hb
     obtain ⟨u, hu, e⟩ := Option.map_eq_some_iff.1 h
     cases e
     simp only [execOp, hop, hg x _ hb]
     exact quiet_value (by simp [Instr.extract, hu])
   cases h
 case nilCheck x =>
   simp only [evOp] at h
   split at h
   · rename_i a hb
     cases h
     simp only [execOp, hop, hg x _ hb]
     exact ⟨rfl, rfl⟩
   cases h
 case binOp bo t x y t' =>
   simp only [evOp] at h
   split at h
   · rename_i a b ha hb
     simp only [execOp, hop, hg x _ ha, hg y _ hb]
     exact quiet_value (evBin_ok h hp w)
   cases h
 case convert sT dT x =>
   simp only [evOp] at h
   split at h
   · rename_i k1 k h1 h2
     split at h
     · rename_i k2 n h3
       cases h
       simp only [execOp, hop, hg x _ h3]
       refine quiet_value ?_
       have : k.wrap n = n := hp.wrap
       simp [convert, run_underlying h1, run_underlying h2, Conv.intToInt, this]
     cases h
   · split at h
     · rename_i u' h3
       cases h
       simp only [execOp, hop, hg x _ h3]
       exact quiet_value (hp w hw)
     cases h
   cases h
 case index t x i =>
   simp only [evOp] at h
   split at h
   · rename_i s k n h1 h2 h3
     cases h
     simp only [execOp, hop, hg x _ h2, hg i _ h3]
     refine quiet_value ?_
     obtain ⟨h0, h4⟩ := hp
     have hlt : n.toNat < s.size := by omega
     have hat : s[n.toNat]? = some (s[n.toNat]'hlt) := by simp [hlt]
     have hst : StrAt s n = ((s[n.toNat]'hlt).toNat : Int) := by
       unfold StrAt
       congr 2
       rw [Array.getD_eq_getD_getElem?, Array.getElem?_eq_getElem hlt]
       rfl
     simp [Instr.index, asIntOf, run_underlying h1, h0, hat, hst]
   cases h
 case indexAddr t x i =>
   simp only [evOp] at h
   split at h
   · rename_i e v' k n h1 h2 h3
     cases h
     simp only [execOp, hop, hg x _ h2, hg i _ h3]
     refine quiet_value ?_
     obtain ⟨hi, b, f, m, c, rfl, h0, h4⟩ := hp
     obtain ⟨i, hi⟩ := Option.isSome_iff_exists.1 hi
     have hadd : ∀ q, (⟨b, f, none⟩ : Addr).add q = ⟨b, f + q, none⟩ := by intro q; unfold Addr.add; split <;> simp_all
     simp [Instr.indexAt, asIntOf, run_underlying h1, h0, h4, run_sizeOf w hi, hadd, hdB, hdO]
   cases h
 case fieldAddr t x f =>
   simp only [evOp] at h
   split at h
   · rename_i fs b q h1 h2
     split at h
     · rename_i fd hfd
       cases h
       simp only [execOp, hop, hg x _ h2]
       refine quiet_value ?_
       simp [Instr.fieldAt, run_underlying h1, hfd, Instr.sureAddr, run_fieldPlace w hp]
     cases h
   cases h
 case load t x =>
   simp only [evOp] at h
   split at h
   · rename_i fs b q us h1 h2
     cases h
     simp only [execOp, hop, hg x _ h2]
     exact quiet_value (evOp_len w hw h1 ⟨_, rfl⟩ hp.1 hp.2)
   · cases h
   · cases h
   · rename_i d b q u hn1 hn2 h1 h2
     cases h
     simp only [execOp, hop, hg x _ h2]
     exact quiet_value (load_one w h1 hn1 hn2 (hp w hw))
   cases h
 case field t x f =>
   simp only [evOp] at h
   split at h
   · rename_i fs cs h1 h2
     split at h
     · rename_i fd hfd
       split at h
       · rename_i fs' h3
         cases h
         simp only [execOp, hop, hg x _ h2]
         refine quiet_value ?_
         obtain ⟨i, hi⟩ := Option.isSome_iff_exists.1 hp
         simp [Instr.field, run_underlying h1, hfd, asAgg, part, isAgg, run_underlying h3, run_sizeOf w hi]
       · cases h
       · rename_i d hn1 hn2 h3
         obtain ⟨u, hu, e⟩ := Option.map_eq_some_iff.1 h
         cases e
         simp only [execOp, hop, hg x _ h2]
         refine quiet_value ?_
         have hag : (isAgg fd.type).run P w = .ok false w := by
           cases d <;> first | exact (hn1 _ rfl).elim | exact (hn2 _ _ rfl).elim | simp [isAgg, run_underlying h3]
         simp [Instr.field, run_underlying h1, hfd, asAgg, part, hag, hu]
       cases h
     cases h
   cases h
 case build t ps =>
   simp only [evOp] at h
   split at h
   · rename_i vs v' hvs
     cases h
     have e : ps.map (fun x => (x.1, ρ x.2)) = vs.toArray := by
       have := parts_of hg ps.toList vs hvs
       rw [← this]
       apply Array.ext'
       rw [Array.toList_map]
     simp only [execOp, hop]
     refine quiet_value ?_
     have := hp w
     rw [← e] at this
     exact this
   cases h
 case slice t x lo hi mx =>
   cases mx with
   | some m => simp only [evOp] at h; cases h
   | none =>
     simp only [evOp] at h
     simp only [execOp, hop]
     split at h
     · rename_i v' l hh u h1 h2 h3
       cases h
       obtain ⟨lx, rfl, g2⟩ := Option.map_eq_some_iff.1 h2
       obtain ⟨hx, rfl, g3⟩ := Option.map_eq_some_iff.1 h3
       refine quiet_value ?_
       simp only [Option.map_some, Option.map_none, hg _ _ h1, hg _ _ g2, hg _ _ g3]
       exact hp w
     · rename_i v' l u h1 h2 h3
       cases h
       obtain ⟨lx, rfl, g2⟩ := Option.map_eq_some_iff.1 h2
       cases Option.map_eq_none_iff.1 h3
       refine quiet_value ?_
       simp only [Option.map_some, Option.map_none, hg _ _ h1, hg _ _ g2]
       exact hp w
     · rename_i v' hh u h1 h2 h3
       cases h
       obtain ⟨hx, rfl, g3⟩ := Option.map_eq_some_iff.1 h3
       cases Option.map_eq_none_iff.1 h2
       refine quiet_value ?_
       simp only [Option.map_some, Option.map_none, hg _ _ h1, hg _ _ g3]
       exact hp w
     · rename_i v' u h1 h2 h3
       cases h
       cases Option.map_eq_none_iff.1 h2
       cases Option.map_eq_none_iff.1 h3
       refine quiet_value ?_
       simp only [Option.map_some, Option.map_none, hg _ _ h1]
       exact hp w
     cases h
 case lookup t m k ok =>
   simp only [evOp] at h
   split at h
   · rename_i vm vk u h1 h2
     cases h
     simp only [execOp, hop, hg _ _ h1, hg _ _ h2]
     exact quiet_value (hp w hw)
   cases h
 case call c =>
   simp only [evOp] at h
   split at h
   · rename_i vs hc
     split at h
     · rename_i us v' hus
       cases h
       have ha := args_arr hg c.args us hus
       simp only [execOp, hop, resolve, hc, Sem.run_bind, Sem.run_pure, Result.andThen_ok, ha, invoke, builtin]
       exact quiet_value' (hp _ w)
     cases h
   · rename_i vs hc
     split at h
     · rename_i us v' hus
       cases h
       have ha := args_arr hg c.args us hus
       simp only [execOp, hop, resolve, hc, Sem.run_bind, Sem.run_pure, Result.andThen_ok, ha, invoke, builtin]
       exact quiet_value' (hp _ w)
     cases h
   · rename_i v' hc hl
     split at h
     · rename_i hu
       split at h
       · rename_i s
         cases h
         obtain ⟨t, ht0, ht1⟩ := Option.bind_eq_some_iff.1 hu
         have ha := args_arr hg c.args [.string s] (by rw [hl]; rfl)
         simp only [execOp, hop, resolve, hc, Sem.run_bind, Sem.run_pure, Result.andThen_ok, ha, invoke, builtin]
         refine quiet_value' (s := Builtin.len_ c.argTypes o.type #[.string s]) ?_
         simp [Builtin.len_, ht0, run_underlying ht1, goInt]
       cases h
     · rename_i e hu
       split at h
       · rename_i n
         cases h
         obtain ⟨t, ht0, ht1⟩ := Option.bind_eq_some_iff.1 hu
         obtain ⟨q, m, cp, rfl, rfl⟩ := hp
         have ha := args_arr hg c.args [.slice q m cp] (by rw [hl]; rfl)
         simp only [execOp, hop, resolve, hc, Sem.run_bind, Sem.run_pure, Result.andThen_ok, ha, invoke, builtin]
         refine quiet_value' (s := Builtin.len_ c.argTypes o.type #[.slice q m cp]) ?_
         simp [Builtin.len_, ht0, run_underlying ht1, goInt]
       cases h
     cases h
   · rename_i x vs hc
     split at h
     · rename_i f first cap us v' hx hus
       cases h
       obtain ⟨⟨fn, hf, hn, hb⟩, hcall⟩ := hp
       have ha := args_arr hg c.args us hus
       have e : (execOp ρ o).run P w = .ok (.enter f (first ++ us.toArray ++ cap)) w := by
         have hn' : fn.name ≠ "runtime.NumGoroutine" := by simpa using hn
         have hb' : fn.body ≠ none := by intro e; rw [e] at hb; cases hb
         simp [execOp, hop, resolve, hc, ha, hg _ _ hx, Deferred.ofValue, invoke, callFunc, program, Sem.run, hf, hn', hb']
       rw [e]
       exact ⟨rfl, hcall w hw⟩
     cases h
   cases h
end
structure Ent where
 slot : Nat
 ch : List (Nat × Bool)
 val : Value
abbrev Env := List Ent
def litOk (a : Act) (l : Nat × Bool) : Prop := a.tmps[l.1]? = some (.bool l.2)
def chOk (a : Act) (C : List (Nat × Bool)) : Prop := ∀ l ∈ C, litOk a l
def EntOk (a : Act) (e : Ent) : Prop := (chOk a e.ch → a.tmps[e.slot]? = some e.val) ∧ (¬ chOk a e.ch → a.tmps[e.slot]? = some undef)
def EnvOk (n : Nat) (a : Act) (env : Env) : Prop := a.tmps.size = n ∧ a.defers = [] ∧ ∀ e ∈ env, EntOk a e
def look (env : Env) (t : Nat) : Option Ent := env.find? (fun e => e.slot == t)
def getOp (env : Env) (C : List (Nat × Bool)) : Operand → Option Value
 | .tmp t => match look env t with
   | some e => if e.ch.isPrefixOf C then some e.val else none
   | none => none
 | .const v => some v
 | .func f => some (.func (.func f) #[] #[])
 | .global g => some (.pointer (some ⟨g, 0, none⟩))
theorem look_ok {env : Env} {t : Nat} {e : Ent} (h : look env t = some e) : e ∈ env ∧ e.slot = t :=
 ⟨List.mem_of_find?_eq_some h, by have := List.find?_some h; simpa using this⟩
theorem chOk_prefix {a : Act} {C D : List (Nat × Bool)} (h : C.isPrefixOf D = true) (hd : chOk a D) : chOk a C := by
 obtain ⟨t, rfl⟩ := List.isPrefixOf_iff_prefix.1 h
 exact fun l hl => hd l (List.mem_append_left _ hl)
theorem getOp_ok {n : Nat} {a : Act} {env : Env} {C : List (Nat × Bool)} (ha : EnvOk n a env) (hC : chOk a C) (x : Operand) (u : Value) (h : getOp env C x = some u) : a.eval x = u := by
 cases x with
 | tmp t =>
   simp only [getOp] at h
   split at h
   · rename_i e he
     split at h
     · rename_i hp
       cases h
       obtain ⟨h1, rfl⟩ := look_ok he
       have := (ha.2.2 e h1).1 (chOk_prefix hp hC)
       simp only [Act.eval, Array.getD_eq_getD_getElem?, this, Option.getD_some]
     cases h
   cases h
 | const v => cases h; rfl
 | func f => cases h; rfl
 | global g => cases h; rfl
def chainOf (ops : Array Oper) (env : Env) (o : Oper) : Option (List (Nat × Bool)) :=
 match o.guard with
 | none => some []
 | some (i, b) => match (ops[i]?).bind (·.dst) with
   | some j => (look env j).map fun e => e.ch ++ [(j, b)]
   | none => none
def impl (env : Env) : List (Nat × Bool) → Prop → Prop
 | [], p => p
 | (j, b) :: r, p => match look env j with
   | some ⟨_, _, .bool c⟩ => c = b → impl env r p
   | _ => impl env r p
def evPick (env : Env) (C : List (Nat × Bool)) (c x y : Operand) : Option Value :=
 match c, getOp env C c with
 | .tmp t, some (.bool cb) => match getOp env (C ++ [(t, true)]) x, getOp env (C ++ [(t, false)]) y with
   | some (.bool p), some (.bool q) => match x, y with
     | .const (.bool true), _ => some (.bool (cb || q))
     | _, .const (.bool false) => some (.bool (cb && p))
     | _, _ => some (.bool (bif cb then p else q))
   | _, _ => none
 | _, _ => none
def evStep (P : Program) (W : World → Prop) (n : Nat) (ops : Array Oper) (env : Env) (orc : List (Nat × Value)) (o : Oper) : Option (Env × Prop) :=
 match chainOf ops env o, o.dst with
 | some C, some d =>
   if d < n ∧ C.all (fun l => l.1 != d) = true then
     match (match o.op with
       | .pick c x y => (evPick env C c x y).map fun v => (v, True)
       | op => evOp P W (getOp env C) op (orc.lookup d)) with
     | some (v, p) => some (⟨d, C, v⟩ :: env.filter (fun e => e.slot != d && e.ch.all (fun l => l.1 != d)), impl env C p)
     | none => none
   else none
 | _, _ => none
def evRun (P : Program) (W : World → Prop) (n : Nat) (ops : Array Oper) (orc : List (Nat × Value)) : List Oper → Env → Option (Env × Prop)
 | [], env => some (env, True)
 | o :: r, env => match evStep P W n ops env orc o with
   | some (env', p) => match evRun P W n ops orc r env' with
     | some (env'', q) => some (env'', p ∧ q)
     | none => none
   | none => none
theorem litOk_put {a : Act} {l : Nat × Bool} {d : Nat} {v : Value} (h : l.1 ≠ d) : litOk (a.put (some d) v) l ↔ litOk a l := by
 simp only [litOk, Act.put, Array.getElem?_setIfInBounds]
 rw [if_neg (fun e => h e.symm)]
theorem chOk_put {a : Act} {C : List (Nat × Bool)} {d : Nat} {v : Value} (h : C.all (fun l => l.1 != d) = true) : chOk (a.put (some d) v) C ↔ chOk a C := by
 rw [List.all_eq_true] at h
 exact ⟨fun hc l hl => (litOk_put (by simpa using h l hl)).1 (hc l hl), fun hc l hl => (litOk_put (by simpa using h l hl)).2 (hc l hl)⟩
theorem entOk_put {a : Act} {e : Ent} {d : Nat} {v : Value} (h : (e.slot != d && e.ch.all (fun l => l.1 != d)) = true) (he : EntOk a e) : EntOk (a.put (some d) v) e := by
 rw [Bool.and_eq_true] at h
 have hs : (a.put (some d) v).tmps[e.slot]? = a.tmps[e.slot]? := by
   simp only [Act.put, Array.getElem?_setIfInBounds]
   rw [if_neg (fun q => by simp [q] at h)]
 refine ⟨fun hc => ?_, fun hc => ?_⟩
 · rw [hs]; exact he.1 ((chOk_put h.2).1 hc)
 rw [hs]; exact he.2 (fun k => hc ((chOk_put h.2).2 k))
theorem envOk_put {n : Nat} {a : Act} {env : Env} {d : Nat} {C : List (Nat × Bool)} {v : Value} (ha : EnvOk n a env) (hd : d < n) (hC : C.all (fun l => l.1 != d) = true) {u : Value} (hu : (chOk a C → u = v) ∧ (¬ chOk a C → u = undef)) :
   EnvOk n (a.put (some d) u) (⟨d, C, v⟩ :: env.filter (fun e => e.slot != d && e.ch.all (fun l => l.1 != d))) := by
 refine ⟨by simp [Act.put, ha.1], ha.2.1, fun e he => ?_⟩
 rcases List.mem_cons.1 he with rfl | he
 · have hs : (a.put (some d) u).tmps[d]? = some u := by
     simp only [Act.put, Array.getElem?_setIfInBounds, if_true]
     rw [if_pos (by rw [ha.1]; exact hd)]
   refine ⟨fun hc => ?_, fun hc => ?_⟩
   · show (a.put (some d) u).tmps[d]? = some v
     rw [hs, hu.1 ((chOk_put hC).1 hc)]
   show (a.put (some d) u).tmps[d]? = some undef
   rw [hs, hu.2 (fun k => hc ((chOk_put hC).2 k))]
 obtain ⟨h1, h2⟩ := List.mem_filter.1 he
 exact entOk_put h2 (ha.2.2 e h1)
theorem impl_elim {n : Nat} {a : Act} {env : Env} (ha : EnvOk n a env) : ∀ {C : List (Nat × Bool)} {p : Prop}, impl env C p → chOk a C → p
 | [], p, h, _ => h
 | (j, b) :: r, p, h, hc => by
   have hr : chOk a r := fun l hl => hc l (List.mem_cons_of_mem _ hl)
   simp only [impl] at h
   split at h
   · rename_i s e c hl
     obtain ⟨h1, h2⟩ := look_ok hl
     have hj : a.tmps[j]? = some (.bool b) := hc (j, b) List.mem_cons_self
     have he := ha.2.2 _ h1
     simp only at h2
     subst h2
     have hch : chOk a e := Classical.byContradiction fun hn => by
       have := he.2 hn
       simp only at this
       rw [hj] at this
       simp [undef] at this
     have hv := he.1 hch
     simp only at hv
     rw [hj] at hv
     simp at hv
     exact impl_elim ha (h hv.symm) hr
   exact impl_elim ha h hr
theorem wanted_iff {n : Nat} {a : Act} {env : Env} {ops : Array Oper} {o : Oper} {C : List (Nat × Bool)} (ha : EnvOk n a env) (h : chainOf ops env o = some C) : Region.wanted o (yielded ops a.tmps) = true ↔ chOk a C := by
 unfold chainOf at h
 unfold Region.wanted
 split at h
 · rename_i hg
   cases h
   simp [hg, chOk]
 rename_i i b hg
 split at h
 · rename_i j hj
   obtain ⟨e, he, rfl⟩ := Option.map_eq_some_iff.1 h
   obtain ⟨h1, rfl⟩ := look_ok he
   have hen := ha.2.2 e h1
   simp only [hg, beq_iff_eq]
   have hy : yielded ops a.tmps i = some b ↔ a.tmps[e.slot]? = some (.bool b) := by
     unfold yielded
     rw [hj]
     simp only [Option.bind_some]
     constructor
     · intro hh
       split at hh
       · rename_i c hc; cases hh; exact hc
       cases hh
     intro hh; rw [hh]
   rw [hy]
   constructor
   · intro hh l hl
     rcases List.mem_append.1 hl with hl | hl
     · have hch : chOk a e.ch := Classical.byContradiction fun hn => by
         have := hen.2 hn
         rw [hh] at this
         simp [undef] at this
       exact hch l hl
     simp at hl; subst hl; exact hh
   intro hh
   exact hh (e.slot, b) (List.mem_append_right _ (by simp))
 cases h
theorem evPick_ok {P : Program} {W : World → Prop} {n : Nat} {a : Act} {env : Env} {C : List (Nat × Bool)} {o : Oper} {c x y : Operand} {v : Value} (ha : EnvOk n a env) (hC : chOk a C) (ho : o.op = .pick c x y) (h : evPick env C c x y = some v) (w : World) : Oper.quietUpon P W w v ((execOp a.eval o).run P w) := by
 unfold evPick at h
 split at h
 · rename_i t cb hc
   split at h
   · rename_i p q hx hy
     have ec := getOp_ok ha hC _ _ hc
     have key : ∀ r : Bool, (cb = true → r = p) → (cb = false → r = q) → v = .bool r → Oper.quietUpon P W w v ((execOp a.eval o).run P w) := by
       intro r h1 h2 hv
       subst hv
       have hlit : litOk a (t, cb) := by
         simp only [getOp] at hc
         split at hc
         · rename_i e he
           split at hc
           · rename_i hp
             obtain ⟨m1, rfl⟩ := look_ok he
             have := (ha.2.2 e m1).1 (chOk_prefix hp hC)
             have hv := Option.some.inj hc
             unfold litOk
             rw [this, hv]
           cases hc
         cases hc
       simp only [execOp, ho, ec, asBool, Sem.run_bind, Sem.run_pure, Result.andThen_ok]
       cases cb with
       | true =>
         have ex := getOp_ok ha (C := C ++ [(t, true)]) (fun l hl => by rcases List.mem_append.1 hl with hl | hl; exact hC l hl; simp at hl; subst hl; exact hlit) _ _ hx
         rw [h1 rfl]
         simp only [if_true, ex]
         exact ⟨rfl, rfl⟩
       | false =>
         have ey := getOp_ok ha (C := C ++ [(t, false)]) (fun l hl => by rcases List.mem_append.1 hl with hl | hl; exact hC l hl; simp at hl; subst hl; exact hlit) _ _ hy
         rw [h2 rfl]
         simp only [Bool.false_eq_true, if_false, ey]
         exact ⟨rfl, rfl⟩
     split at h
     · cases h
       cases hx
       exact key _ (fun e => by rw [e]; simp) (fun e => by rw [e]; simp) rfl
     · cases h
       cases hy
       exact key _ (fun e => by rw [e]; simp) (fun e => by rw [e]; simp) rfl
     cases h
     exact key _ (fun e => by rw [e]; rfl) (fun e => by rw [e]; rfl) rfl
   cases h
 cases h
theorem evStep_ok {P : Program} {W : World → Prop} {n : Nat} {ops : Array Oper} {a : Act} {env env' : Env} {orc : List (Nat × Value)} {o : Oper} {p : Prop} (ha : EnvOk n a env)
   (h : evStep P W n ops env orc o = some (env', p)) (hp : p) {Q : Act → Prop} (hQ : ∀ a', EnvOk n a' env' → Q a') :
   if Region.wanted o (yielded ops a.tmps) then o.quiet P a W Q else Q (a.put o.dst undef) := by
 unfold evStep at h
 split at h
 · rename_i C d hC hd
   split at h
   · rename_i hdn
     split at h
     · rename_i v p' hv
       cases h
       have hw := wanted_iff ha hC
       by_cases hch : chOk a C
       · rw [if_pos (hw.2 hch)]
         have hp' := impl_elim ha hp hch
         refine ⟨v, fun w hw => ?_, ?_⟩
         · unfold Oper.quietAt
           split at hv
           · rename_i c x y ho
             obtain ⟨u, hu, e⟩ := Option.map_eq_some_iff.1 hv
             cases e
             exact evPick_ok ha hch ho hu w
           exact evOp_ok (fun x u hx => getOp_ok ha hch x u hx) hv hp' w hw
         rw [hd]
         exact hQ _ (envOk_put ha hdn.1 hdn.2 ⟨fun _ => rfl, fun hn => (hn hch).elim⟩)
       rw [if_neg (fun hh => hch (hw.1 hh)), hd]
       exact hQ _ (envOk_put ha hdn.1 hdn.2 ⟨fun hh => (hch hh).elim, fun _ => rfl⟩)
     cases h
   cases h
 cases h
theorem evRun_ok {P : Program} {W : World → Prop} {n : Nat} {ops : Array Oper} {orc : List (Nat × Value)} : ∀ {l : List Oper} {a : Act} {env env' : Env} {p : Prop} (ha : EnvOk n a env)
   (h : evRun P W n ops orc l env = some (env', p)) (hp : p) {Q : Act → Prop} (hQ : ∀ a', EnvOk n a' env' → Q a'), wpQuiet P ops W Q l a
 | [], a, env, env', p, ha, h, hp, Q, hQ => by
   simp only [evRun, Option.some.injEq, Prod.mk.injEq] at h
   obtain ⟨rfl, rfl⟩ := h
   exact hQ a ha
 | o :: r, a, env, env', p, ha, h, hp, Q, hQ => by
   simp only [evRun] at h
   split at h
   · rename_i env1 p1 h1
     split at h
     · rename_i env2 q h2
       cases h
       exact evStep_ok ha h1 hp.1 (fun a' ha' => evRun_ok ha' h2 hp.2 hQ)
     cases h
   cases h
def keepEnv (keep : List (Nat × Value)) : Env := keep.map fun x => ⟨x.1, [], x.2⟩
theorem keep_ok {n : Nat} {a : Act} {env : Env} (keep : List (Nat × Value)) (ha : EnvOk n a env) (h : ∀ x ∈ keep, look env x.1 = some ⟨x.1, [], x.2⟩) : EnvOk n a (keepEnv keep) := by
 refine ⟨ha.1, ha.2.1, fun e he => ?_⟩
 obtain ⟨x, hx, rfl⟩ := List.mem_map.1 he
 exact ha.2.2 _ (look_ok (h x hx)).1
def sub : Code → List Nat → Code
 | c, [] => c
 | .seq x y, k :: p => if k = 0 then sub x p else sub y p
 | .cond _ x y, k :: p => if k = 0 then sub x p else sub y p
 | .block _ b, _ :: p => sub b p
 | .loop b, _ :: p => sub b p
 | .scope b, _ :: p => sub b p
 | .rangeFunc _ _ x y, k :: p => if k = 0 then sub x p else sub y p
 | _, _ :: _ => .skip
def isSeq : Code → Bool | .seq _ _ => true | _ => false
def isLoop : Code → Bool | .loop _ => true | _ => false
def isRet : Code → Bool | .ret => true | _ => false
def isSkip : Code → Bool | .skip => true | _ => false
def condOf : Code → Option Operand | .cond c _ _ => some c | _ => none
def blockOf : Code → Option Nat | .block i _ => some i | _ => none
def exitOf : Code → Option Nat | .exit i => some i | _ => none
def drawOf : Code → Option Bool | .region _ _ d => some d | _ => none
def opsOf : Code → Array Oper | .region _ o _ => o | _ => #[]
theorem sub_nil (c : Code) : sub c [] = c := by cases c <;> rfl
theorem sub_seq0 (x y : Code) : sub (.seq x y) [0] = x := by simp only [sub]; cases x <;> rfl
theorem sub_seq1 (x y : Code) : sub (.seq x y) [1] = y := by simp only [sub]; cases y <;> rfl
theorem sub_cond0 (c : Operand) (x y : Code) : sub (.cond c x y) [0] = x := by simp only [sub]; cases x <;> rfl
theorem sub_cond1 (c : Operand) (x y : Code) : sub (.cond c x y) [1] = y := by simp only [sub]; cases y <;> rfl
theorem sub_block0 (i : Nat) (x : Code) : sub (.block i x) [0] = x := by simp only [sub]
theorem sub_loop0 (x : Code) : sub (.loop x) [0] = x := by simp only [sub]
theorem sub_snoc (k : Nat) : ∀ (p : List Nat) (B : Code), sub B (p ++ [k]) = sub (sub B p) [k]
 | [], B => by cases B <;> rfl
 | j :: p, B => by
   cases B with
   | seq x y => simp only [List.cons_append, sub]; split <;> exact sub_snoc k p _
   | cond c x y => simp only [List.cons_append, sub]; split <;> exact sub_snoc k p _
   | block i b => exact sub_snoc k p b
   | loop b => exact sub_snoc k p b
   | scope b => exact sub_snoc k p b
   | rangeFunc f ps x y => simp only [List.cons_append, sub]; split <;> exact sub_snoc k p _
   | _ => rfl
abbrev Post := Exit → Act → World → Prop
theorem least_of {p : Nat → Prop} : ∀ n, p n → ∃ m, p m ∧ ∀ k, p k → m ≤ k := by
 intro n
 induction n using Nat.strongRecOn with
 | _ n ih =>
   intro hn
   by_cases h : ∃ k, k < n ∧ p k
   · obtain ⟨k, hk, hpk⟩ := h; exact ih k hk hpk
   exact ⟨n, hn, fun k hk => Nat.le_of_not_lt fun hlt => h ⟨k, hlt, hk⟩⟩
section
variable {P : Program} {B : Code} {p : List Nat} {Q : Post} {a : Act} {w : World}
theorem go_seq (k : ∀ K : Act → World → Prop, (∀ a w, (sub B (p ++ [1])).wp P Q a w → K a w) → (sub B (p ++ [0])).wp P (Exit.then K Q) a w) (h : isSeq (sub B p) = true := by kernel_rfl) : (sub B p).wp P Q a w := by
 cases hc : sub B p <;> rw [hc] at h <;> first | (cases h; done) | skip
 rename_i x y
 refine wp_seq_k fun K hK => ?_
 have := k K (fun a w h => hK a w (by rw [sub_snoc, hc, sub_seq1] at h; exact h))
 rw [sub_snoc, hc, sub_seq0] at this
 exact this
theorem go_cond {n : Nat} {env : Env} (ha : EnvOk n a env) (c : Operand) (b : Bool)
   (ht : b = true → (sub B (p ++ [0])).wp P Q a w) (hf : b = false → (sub B (p ++ [1])).wp P Q a w) (h : condOf (sub B p) = some c := by kernel_rfl) (hb : getOp env [] c = some (.bool b) := by kernel_rfl) : (sub B p).wp P Q a w := by
 cases hc : sub B p <;> rw [hc] at h <;> first | (cases h; done) | skip
 rename_i c' x y
 simp only [condOf, Option.some.injEq] at h
 subst h
 refine wp_cond_split (getOp_ok ha (fun _ hl => by simp at hl) _ _ hb) (fun e => ?_) (fun e => ?_)
 · have := ht e; rw [sub_snoc, hc, sub_cond0] at this; exact this
 have := hf e; rw [sub_snoc, hc, sub_cond1] at this; exact this
theorem go_block (i : Nat) (k : (sub B (p ++ [0])).wp P (Exit.inBlock i Q) a w) (h : blockOf (sub B p) = some i := by kernel_rfl) : (sub B p).wp P Q a w := by
 cases hc : sub B p <;> rw [hc] at h <;> first | (cases h; done) | skip
 rename_i j b
 simp only [blockOf, Option.some.injEq] at h
 subst h
 rw [sub_snoc, hc, sub_block0] at k
 exact wp_block k
theorem go_exit (i : Nat) (k : Q (.exit i) a w) (h : exitOf (sub B p) = some i := by kernel_rfl) : (sub B p).wp P Q a w := by
 cases hc : sub B p <;> rw [hc] at h <;> first | (cases h; done) | skip
 simp only [exitOf, Option.some.injEq] at h
 subst h
 exact wp_exit k
theorem go_ret_ (k : Q .ret a w) (h : isRet (sub B p) = true := by kernel_rfl) : (sub B p).wp P Q a w := by
 cases hc : sub B p <;> rw [hc] at h <;> first | (cases h; done) | skip
 exact wp_ret k
theorem go_skip (k : Q .normal a w) (h : isSkip (sub B p) = true := by kernel_rfl) : (sub B p).wp P Q a w := by
 cases hc : sub B p <;> rw [hc] at h <;> first | (cases h; done) | skip
 exact wp_skip k
theorem go_loop_ (X : Type) (I : X → Act → World → Prop) (μ : X → Nat) (x0 : X) (h0 : I x0 a w)
   (round : ∀ x a w, I x a w → (sub B (p ++ [0])).wp P (Exit.then (fun a' w' => ∃ x', I x' a' w' ∧ μ x' < μ x) Q) a w) (h : isLoop (sub B p) = true := by kernel_rfl) : (sub B p).wp P Q a w := by
 cases hc : sub B p <;> rw [hc] at h <;> first | (cases h; done) | skip
 rename_i b
 rw [sub_snoc, hc, sub_loop0] at round
 classical
 have hL : ∀ a w, (∃ x, I x a w) → ∃ m, (∃ x, I x a w ∧ μ x = m) ∧ ∀ k, (∃ x, I x a w ∧ μ x = k) → m ≤ k := fun a w ⟨x, hx⟩ => least_of (p := fun m => ∃ x, I x a w ∧ μ x = m) (μ x) ⟨x, hx, rfl⟩
 let m : Act → World → Nat := fun a w => if h : ∃ x, I x a w then Classical.choose (hL a w h) else 0
 have hm : ∀ a w, (∃ x, I x a w) → (∃ x, I x a w ∧ μ x = m a w) ∧ ∀ k, (∃ x, I x a w ∧ μ x = k) → m a w ≤ k := by
   intro a w h
   have := Classical.choose_spec (hL a w h)
   simp only [m, dif_pos h]
   exact this
 refine wp_loop (fun a w => ∃ x, I x a w) m ⟨x0, h0⟩ fun a w hI => ?_
 obtain ⟨⟨x, hx, hmx⟩, _⟩ := hm a w hI
 refine wp_mono (round x a w hx) fun e a' w' q => ?_
 cases e with
 | normal =>
   obtain ⟨x', hx', hlt⟩ := q
   refine ⟨⟨x', hx'⟩, ?_⟩
   have := (hm a' w' ⟨x', hx'⟩).2 (μ x') ⟨x', hx', rfl⟩
   omega
 | _ => exact q
abbrev On (w : World) : World → Prop := fun w' => Below w.heap.size w w'
theorem On.self (w : World) : On w w := Below.refl _ _
theorem region_draw {n : Nat} {env env' : Env} {pr : Prop} (orc : List (Nat × Value)) (keep : List (Nat × Value)) (hm : P.follows .mixedOrders = true) (hd : drawOf (sub B p) = some true) (hB : Region.lexB .any (opsOf (sub B p)) = true) (ha : EnvOk n a env)
   (h : evRun P (On w) n (opsOf (sub B p)) orc (opsOf (sub B p)).toList env = some (env', pr)) (hk : ∀ x ∈ keep, look env' x.1 = some ⟨x.1, [], x.2⟩) (hp : pr)
   (k : ∀ a' w', EnvOk n a' (keepEnv keep) → Below w.heap.size w w' → Q .normal a' w') : (sub B p).wp P Q a w := by
 cases hc : sub B p <;> rw [hc] at hd <;> first | (cases hd; done) | skip
 rename_i id ops d
 simp only [drawOf, Option.some.injEq] at hd
 subst hd
 rw [hc] at hB h
 exact wp_region_quiet (C := On w) hm hB ⟨rfl, rfl, rfl, Nat.le_refl _, fun _ _ => rfl⟩ (evRun_ok ha h hp fun a' ha' w' hw' => k a' w' (keep_ok keep ha' hk) hw')
theorem region_list (k : wpList P (opsOf (sub B p)) Q ((opsOf (sub B p)).toList.drop 0) a w) (hd : drawOf (sub B p) = some false := by kernel_rfl) : (sub B p).wp P Q a w := by
 cases hc : sub B p <;> rw [hc] at hd <;> first | (cases hd; done) | skip
 rename_i id ops d
 simp only [drawOf, Option.some.injEq] at hd
 subst hd
 rw [hc] at k
 exact wp_region_list k
theorem wpList_quiet {ops : Array Oper} {C : World → Prop} {K : Act → Prop} {rest : List Oper} : ∀ (l : List Oper) (a : Act) (w : World), C w → wpQuiet P ops C K l a → (∀ a' w', C w' → K a' → wpList P ops Q rest a' w') → wpList P ops Q (l ++ rest) a w
 | [], a, w, hw, h, k => k a w hw h
 | o :: l, a, w, hw, h, k => by
   simp only [wpQuiet] at h
   simp only [List.cons_append, wpList]
   split
   · rename_i hwant
     rw [if_pos hwant] at h
     exact .inl (Oper.wp_of_quiet hw (fun a' w' hw' hK => wpList_quiet l a' w' hw' hK k) h)
   rename_i hwant
   rw [if_neg hwant] at h
   exact wpList_quiet l _ w hw h k
theorem list_q {ops : Array Oper} {n i m : Nat} {env env' : Env} {pr : Prop} (orc : List (Nat × Value)) (keep : List (Nat × Value)) (ha : EnvOk n a env)
   (h : evRun P (On w) n ops orc ((ops.toList.drop i).take m) env = some (env', pr)) (hk : ∀ x ∈ keep, look env' x.1 = some ⟨x.1, [], x.2⟩) (hp : pr)
   (k : ∀ a' w', EnvOk n a' (keepEnv keep) → Below w.heap.size w w' → wpList P ops Q (ops.toList.drop (i + m)) a' w') : wpList P ops Q (ops.toList.drop i) a w := by
 have := wpList_quiet (P := P) (Q := Q) (rest := ops.toList.drop (i + m)) (K := fun a' => EnvOk n a' (keepEnv keep)) ((ops.toList.drop i).take m) a w (On.self w) (evRun_ok ha h hp fun a' ha' => keep_ok keep ha' hk) (fun a' w' hw' ha' => k a' w' ha' hw')
 rw [← List.drop_drop, List.take_append_drop] at this
 exact this
theorem list_end {ops : Array Oper} {i : Nat} (k : Q .normal a w) (h : decide (ops.size ≤ i) = true := by kernel_rfl) : wpList P ops Q (ops.toList.drop i) a w := by
 rw [List.drop_of_length_le (by simpa using of_decide_eq_true h)]
 exact k
def opAt (ops : Array Oper) (i : Nat) : Option (Op × Option Tmp × Option (Nat × Bool)) := (ops.toList[i]?).map fun o => (o.op, o.dst, o.guard)
theorem op_at {ops : Array Oper} {i : Nat} {op : Op} {dst : Option Tmp} {R : Act → World → Prop} (h : opAt ops i = some (op, dst, none))
   (k : ∀ o : Oper, o.op = op → o.dst = dst → o.wp P a w R Q) : wpOp P ops Q i R a w := by
 obtain ⟨o, ho, he⟩ := Option.map_eq_some_iff.1 h
 simp only [Prod.mk.injEq] at he
 obtain ⟨h1, h2, h3⟩ := he
 have ho' : ops[i]? = some o := by simpa using ho
 unfold wpOp
 simp only [ho', Region.wanted, h3, if_true]
 exact .inl (k o h1 h2)
theorem list_at {ops : Array Oper} (i : Nat) (h : wpOp P ops Q i (wpList P ops Q (ops.toList.drop (i + 1))) a w) (hi : decide (i < ops.size) = true := by kernel_rfl) : wpList P ops Q (ops.toList.drop i) a w := by
 have hi' : i < ops.toList.length := by rw [Array.length_toList]; exact of_decide_eq_true hi
 rw [List.drop_eq_getElem_cons hi']
 have ho : ops[i]? = some ops.toList[i] := by simp [List.getElem?_eq_getElem hi']
 unfold wpOp at h
 simp only [ho] at h
 simp only [wpList]
 exact h
theorem env_set {n d : Nat} {v : Value} (keep : List (Nat × Value)) {env : Env} (ha : EnvOk n a env) (hd : d < n) (hk : ∀ x ∈ keep, x.1 ≠ d ∧ look env x.1 = some ⟨x.1, [], x.2⟩) : EnvOk n (a.put (some d) v) (keepEnv ((d, v) :: keep)) := by
 refine ⟨by simp [Act.put, ha.1], ha.2.1, fun e he => ?_⟩
 obtain ⟨x, hx, rfl⟩ := List.mem_map.1 he
 rcases List.mem_cons.1 hx with rfl | hx
 · have hs : (a.put (some d) v).tmps[d]? = some v := by
     simp only [Act.put, Array.getElem?_setIfInBounds, if_true]
     rw [if_pos (by rw [ha.1]; exact hd)]
   exact ⟨fun _ => hs, fun hn => (hn (fun l hl => by simp at hl)).elim⟩
 obtain ⟨h1, h2⟩ := hk x hx
 have := ha.2.2 _ (look_ok h2).1
 exact entOk_put (by simpa using h1) this
theorem list_call {ops : Array Oper} {n i d : Nat} {env : Env} {x : Operand} {args : Array Operand} {ats : Array TypeId} {f : FuncId} {us first cap : List Value} {R : Value → World → Prop} {N : Act → World → Prop} (keep : List (Nat × Value)) (ha : EnvOk n a env)
   (h : opAt ops i = some (.call { callee := .value x, args := args, argTypes := ats }, some d, none)) (hd : d < n) (hx : getOp env [] x = some (.func (.func f) first.toArray cap.toArray)) (hargs : (args.toList.map (getOp env [])).mapM id = some us) (hk : ∀ x ∈ keep, x.1 ≠ d ∧ look env x.1 = some ⟨x.1, [], x.2⟩)
   (hf : Callable P f) (hc : Calls P f (first ++ us ++ cap).toArray w fun e w' => ∃ v, e = .returned v ∧ R v w')
   (k : ∀ v a' w', R v w' → EnvOk n a' (keepEnv ((d, v) :: keep)) → N a' w') : wpOp P ops Q i N a w := by
 refine op_at h fun o ho hdst => ?_
 have hnil : chOk a [] := fun l hl => by simp at hl
 obtain ⟨fn, hfn, hn, hb⟩ := hf
 have hn' : fn.name ≠ "runtime.NumGoroutine" := by simpa using hn
 have hb' : fn.body ≠ none := by intro e; rw [e] at hb; cases hb
 have hargs' := args_arr (ρ := a.eval) (fun x u hx => getOp_ok ha hnil x u hx) args us hargs
 have e : (execOp a.eval o).run P w = .ok (.enter f (first ++ us ++ cap).toArray) w := by
   simp [execOp, ho, resolve, hargs', getOp_ok ha hnil _ _ hx, Deferred.ofValue, invoke, callFunc, program, Sem.run, hfn, hn', hb']
 unfold Oper.wp
 rw [e]
 refine hc.mono fun e w' ⟨v, he, hR⟩ => ?_
 subst he
 refine k v _ w' hR ?_
 rw [hdst]
 exact env_set keep ha hd hk
theorem ret_one {fn : Func} {R : Ending → World → Prop} {n : Nat} {env : Env} (t : Nat) (v : Value) (ha : EnvOk n a env) (k : R (.returned v) w) (hr : fn.results = #[.tmp t] := by kernel_rfl) (hv : getOp env [] (.tmp t) = some v := by kernel_rfl) : bodyPost P fn R .ret a w := by
 have hnil : chOk a [] := fun l hl => by simp at hl
 refine bodyPost_ret (v := v) ?_ ha.2.1 k
 rw [results_tmp hr]
 have := getOp_ok ha hnil _ _ hv
 simp only [Act.eval] at this
 rw [this]
theorem ret_two {fn : Func} {R : Ending → World → Prop} {n : Nat} {env : Env} (t1 t2 : Nat) (v1 v2 : Value) (ha : EnvOk n a env) (k : R (.returned (.tuple #[v1, v2])) w) (hr : fn.results = #[.tmp t1, .tmp t2] := by kernel_rfl) (hv1 : getOp env [] (.tmp t1) = some v1 := by kernel_rfl) (hv2 : getOp env [] (.tmp t2) = some v2 := by kernel_rfl) : bodyPost P fn R .ret a w := by
 have hnil : chOk a [] := fun l hl => by simp at hl
 refine bodyPost_ret (v := .tuple #[v1, v2]) ?_ ha.2.1 k
 rw [results_tmp2 hr]
 have h1 := getOp_ok ha hnil _ _ hv1
 have h2 := getOp_ok ha hnil _ _ hv2
 simp only [Act.eval] at h1 h2
 rw [h1, h2]
theorem enter {f : FuncId} (fn : Func) (n : Nat) {args : List Value} {R : Ending → World → Prop} (hf : P.funcs[f]? = some fn)
   (k : ∀ a, EnvOk n a (keepEnv ((List.range args.length).zip args)) → (sub (fn.body.getD .skip) []).wp P (bodyPost P fn R) a w) (hb : fn.body.isSome = true := by kernel_rfl) (hn : fn.ntmps = n := by kernel_rfl) (hl : decide (args.length ≤ n) = true := by kernel_rfl) : Calls P f args.toArray w R := by
 obtain ⟨B, hb⟩ := Option.isSome_iff_exists.1 hb
 rw [hb] at k
 have hl := of_decide_eq_true hl
 refine calls_of_wp hf hb ?_
 rw [← sub_nil B]
 refine k _ ⟨?_, rfl, fun e he => ?_⟩
 · simp; omega
 obtain ⟨x, hx, rfl⟩ := List.mem_map.1 he
 obtain ⟨j, hj, rfl⟩ := List.getElem_of_mem hx
 have hj' : j < args.length := by simp at hj; exact hj
 refine ⟨fun _ => ?_, fun hn => (hn (fun l hl => by simp at hl)).elim⟩
 simp only [List.getElem_zip, List.getElem_range]
 rw [Array.getElem?_append_left (by simpa using hj')]
 simp [hj']
end
def RunOk (P : Program) (W : World → Prop) (n : Nat) (ops : Array Oper) (orc : List (Nat × Value)) (l : List Oper) (env : Env) (keep : List (Nat × Value)) (pr : Prop) : Prop :=
 ∃ env', evRun P W n ops orc l env = some (env', pr) ∧ ∀ x ∈ keep, look env' x.1 = some ⟨x.1, [], x.2⟩
theorem looks_of {env : Env} : ∀ {keep : List (Nat × Value)}, (keep.map fun x => look env x.1) = (keep.map fun x => some ⟨x.1, [], x.2⟩) → ∀ x ∈ keep, look env x.1 = some ⟨x.1, [], x.2⟩
 | [], _, x, hx => by simp at hx
 | y :: r, h, x, hx => by
   simp only [List.map_cons, List.cons.injEq] at h
   rcases List.mem_cons.1 hx with rfl | hx
   · exact h.1
   exact looks_of h.2 x hx
abbrev RunEq (P : Program) (W : World → Prop) (n : Nat) (ops : Array Oper) (orc : List (Nat × Value)) (l : List Oper) (env : Env) (keep : List (Nat × Value)) (pr : Prop) : Prop :=
 (evRun P W n ops orc l env).map (fun r => ((keep.map fun x => look r.1 x.1), r.2)) = some ((keep.map fun x => some ⟨x.1, [], x.2⟩), pr)
theorem runOk_of {P : Program} {W : World → Prop} {n : Nat} {ops : Array Oper} {orc : List (Nat × Value)} {l : List Oper} {env : Env} {keep : List (Nat × Value)} {pr : Prop}
   (h : RunEq P W n ops orc l env keep pr) : RunOk P W n ops orc l env keep pr := by
 obtain ⟨⟨env', p⟩, h1, h2⟩ := Option.map_eq_some_iff.1 h
 simp only [Prod.mk.injEq] at h2
 obtain ⟨h2, rfl⟩ := h2
 exact ⟨env', h1, looks_of h2⟩
theorem callable_of {P : Program} {f : FuncId} (h : (P.funcs[f]?).map (fun fn => ((fn.name == "runtime.NumGoroutine") || fn.body.isNone)) = some false := by kernel_rfl) : Callable P f := by
 obtain ⟨fn, h1, h2⟩ := Option.map_eq_some_iff.1 h
 simp only [Bool.or_eq_false_iff] at h2
 exact ⟨fn, h1, h2.1, h2.2⟩
abbrev Ans (v : Value) (w : World) : Ending → World → Prop := fun e w' => e = .returned v ∧ Below w.heap.size w w'
theorem callOk_of {P : Program} {w : World} {f : FuncId} {args : Array Value} {v : Value} (h : ∀ w', Below w.heap.size w w' → Calls P f args w' (Ans v w')) : CallOk P (On w) f args v :=
 fun w' hw' => (h w' hw').mono fun e w'' ⟨he, hb⟩ => ⟨he, hw'.trans (hb.mono hw'.size)⟩
theorem str_T {a b : ByteArray} (h : (a.toList == b.toList) = true) : a = b := by
 have := beq_iff_eq.1 h
 rw [ByteArray.toList_eq, ByteArray.toList_eq] at this
 cases a; cases b
 congr 1
 exact Array.ext' this
theorem nT {b : Bool} (h : (!b) = true) : b = false := by simpa using h
theorem nF {b : Bool} (h : (!b) = false) : b = true := by simpa using h
theorem aT {a b : Bool} (h : (a && b) = true) : a = true ∧ b = true := by simpa using h
theorem aF {a b : Bool} (h : (a && b) = false) : a = false ∨ b = false := by cases a <;> simp_all
theorem oT {a b : Bool} (h : (a || b) = true) : a = true ∨ b = true := by simpa using h
theorem oF {a b : Bool} (h : (a || b) = false) : a = false ∧ b = false := by simpa using h
section
variable {P : Program} {B : Code} {p : List Nat} {Q : Post} {a : Act} {w : World}
theorem q_draw {n : Nat} {env : Env} {w0 : Orig} {S : Stab} {rs : List Res} (orc : List (Nat × Value)) (keep : List (Nat × Value)) (pr : Prop) (ha : EnvOk n a env) (H : Fr w0 w S rs) (hp : pr)
   (k : ∀ a' w', EnvOk n a' (keepEnv keep) → Fr w0 w' S rs → Below w.heap.size w w' → Q .normal a' w') (hd : drawOf (sub B p) = some true := by kernel_rfl) (hm : P.follows .mixedOrders = true := by kernel_rfl) (hB : Region.lexB .any (opsOf (sub B p)) = true := by kernel_rfl)
   (h : RunEq P (On w) n (opsOf (sub B p)) orc (opsOf (sub B p)).toList env keep pr := by delta RunEq; kernel_rfl) : (sub B p).wp P Q a w :=
 let ⟨_, h1, h2⟩ := runOk_of h
 region_draw orc keep hm hd hB ha h1 h2 hp fun a' w' h1 h2 => k a' w' h1 (H.on h2) h2
theorem q_list0 {ops : Array Oper} {n : Nat} {env : Env} {w0 : Orig} {S : Stab} {rs : List Res} (i m : Nat) (orc : List (Nat × Value)) (keep : List (Nat × Value)) (pr : Prop) (ha : EnvOk n a env) (H : Fr w0 w S rs) (hp : pr)
   (h : RunOk P (On w) n ops orc ((ops.toList.drop i).take m) env keep pr)
   (k : ∀ a' w', EnvOk n a' (keepEnv keep) → Fr w0 w' S rs → Below w.heap.size w w' → wpList P ops Q (ops.toList.drop (i + m)) a' w') : wpList P ops Q (ops.toList.drop i) a w :=
 let ⟨_, h1, h2⟩ := h
 list_q orc keep ha h1 h2 hp fun a' w' h1 h2 => k a' w' h1 (H.on h2) h2
theorem q_list {ops : Array Oper} {n : Nat} {env : Env} {w0 : Orig} {S : Stab} {rs : List Res} (i m : Nat) (orc : List (Nat × Value)) (keep : List (Nat × Value)) (pr : Prop) (ha : EnvOk n a env) (H : Fr w0 w S rs) (hp : pr)
   (k : ∀ a' w', EnvOk n a' (keepEnv keep) → Fr w0 w' S rs → Below w.heap.size w w' → wpList P ops Q (ops.toList.drop (i + m)) a' w')
   (h : RunEq P (On w) n ops orc ((ops.toList.drop i).take m) env keep pr := by delta RunEq; kernel_rfl) : wpList P ops Q (ops.toList.drop i) a w :=
 q_list0 i m orc keep pr ha H hp (runOk_of h) k
theorem q_reg {n : Nat} {env : Env} {w0 : Orig} {S : Stab} {rs : List Res} (orc : List (Nat × Value)) (keep : List (Nat × Value)) (pr : Prop) (ha : EnvOk n a env) (H : Fr w0 w S rs) (hp : pr)
   (k : ∀ a' w', EnvOk n a' (keepEnv keep) → Fr w0 w' S rs → Below w.heap.size w w' → Q .normal a' w') (hd : drawOf (sub B p) = some false := by kernel_rfl)
   (h : RunEq P (On w) n (opsOf (sub B p)) orc (opsOf (sub B p)).toList env keep pr := by delta RunEq; kernel_rfl) : (sub B p).wp P Q a w := by
 refine region_list ?_ hd
 refine q_list0 0 (opsOf (sub B p)).toList.length orc keep pr ha H hp ?_ fun a' w' h1 h2 h3 => ?_
 · rw [List.drop_zero, List.take_length]; exact runOk_of h
 exact list_end (k a' w' h1 h2 h3) (by simp)
abbrev KeepEq (n d : Nat) (env : Env) (keep : List (Nat × Value)) : Prop := (decide (d < n), keep.map fun x => (x.1 != d, look env x.1)) = (true, keep.map fun x => (true, some ⟨x.1, [], x.2⟩))
theorem env_put {n d : Nat} {v : Value} {o : Oper} (keep : List (Nat × Value)) {env : Env} (ha : EnvOk n a env) (hdst : o.dst = some d) (hk : KeepEq n d env keep) : EnvOk n (a.put o.dst v) (keepEnv ((d, v) :: keep)) := by
 rw [hdst]
 obtain ⟨hd, hk⟩ := Prod.mk.inj hk
 refine env_set keep ha (of_decide_eq_true hd) fun y hy => ?_
 have := List.map_inj_left.1 hk y hy
 simp only [Prod.mk.injEq, bne_iff_ne, ne_eq] at this
 exact this
theorem env_sub {n : Nat} {env : Env} (keep : List (Nat × Value)) (ha : EnvOk n a env) (h : (keep.map fun x => look env x.1) = (keep.map fun x => some ⟨x.1, [], x.2⟩) := by kernel_rfl) : EnvOk n a (keepEnv keep) :=
 keep_ok keep ha (looks_of h)
end
section
variable {P : Program}
theorem Fr.drop {w0 : Orig} {w : World} {S : Stab} {rs : List Res} (h : Fr w0 w S rs) (i : Nat) : Fr w0 w S (rs.eraseIdx i) where
 below := h.below
 src := h.src
 inb := h.inb
 ok r hr := h.ok r (List.mem_of_mem_eraseIdx hr)
 own r hr := h.own r (List.mem_of_mem_eraseIdx hr)
 nodup := List.Nodup.sublist ((List.eraseIdx_sublist rs i).filterMap _) h.nodup
theorem Fr.perm {w0 : Orig} {w : World} {S : Stab} {rs rs' : List Res} (h : Fr w0 w S rs) (hp : rs.Perm rs') : Fr w0 w S rs' where
 below := h.below
 src := h.src
 inb := h.inb
 ok r hr := h.ok r (hp.mem_iff.2 hr)
 own r hr := h.own r (hp.mem_iff.2 hr)
 nodup := (hp.filterMap _).nodup_iff.1 h.nodup
theorem Fr.swap {w0 : Orig} {w : World} {S : Stab} {a b : Res} {rs : List Res} (h : Fr w0 w S (a :: b :: rs)) : Fr w0 w S (b :: a :: rs) := h.perm (List.Perm.swap b a rs)
theorem Fr.same {w0 : Orig} {w : World} {S : Stab} {rs rs' : List Res} (h : Fr w0 w S rs) (e : rs = rs') : Fr w0 w S rs' := e ▸ h
variable {B : Code} {p : List Nat} {Q : Post} {a : Act} {w : World}
theorem q_lit {ops : Array Oper} {N : Act → World → Prop} {n : Nat} {env : Env} {w0 : Orig} {S : Stab} {rs : List Res} (i d : Nat) (t len : Nat) (parts : Array (Nat × Operand)) (e : TypeId) (vals : List (Nat × Value)) (cs : List Value) (keep : List (Nat × Value)) (ha : EnvOk n a env) (H : Fr w0 w S rs)
   (k : ∀ b a' w', Fr w0 w' S (.box b e cs :: rs) → EnvOk n a' (keepEnv ((d, .slice (some ⟨b, 0, none⟩) len len) :: keep)) → Below w.heap.size w w' → w.heap.size ≤ b → N a' w')
   (h : opAt ops i = some (.buildSlice t len parts, some d, none) := by kernel_rfl) (hv : parts.toList.mapM (fun x => (getOp env [] x.2).map fun v => (x.1, v)) = some vals := by kernel_rfl)
   (hrun : ∀ w : World, (Instr.buildSlice t len vals.toArray).run P w = .ok (.slice (some ⟨w.heap.size, 0, none⟩) len len) (w.alloc (.cells cs.toArray e)) := by intro w; kernel_rfl)
   (hk : KeepEq n d env keep := by delta KeepEq; kernel_rfl) : wpOp P ops Q i N a w := by
 refine op_at h fun o ho hdst => ?_
 have e1 : parts.map (fun x => (x.1, a.eval x.2)) = vals.toArray := by
   have := parts_of (ρ := a.eval) (fun x u hx => getOp_ok ha (fun l hl => by simp at hl) x u hx) parts.toList vals hv
   rw [← this]
   apply Array.ext'
   rw [Array.toList_map]
 have e2 : (execOp a.eval o).run P w = .ok (.value (.slice (some ⟨w.heap.size, 0, none⟩) len len)) (w.alloc (.cells cs.toArray e)) := by
   have := hrun w
   rw [← e1] at this
   simp only [execOp, ho, Sem.run_bind]
   rw [show (Array.map (fun x => match x with | (i, x) => (i, a.eval x)) parts) = parts.map (fun x => (x.1, a.eval x.2)) from rfl, this]
   rfl
 unfold Oper.wp
 rw [e2, Oper.upon_value]
 exact k w.heap.size _ _ (H.newBox cs e) (env_put keep ha hdst hk) (below_new _ _) (Nat.le_refl _)
theorem q_push {ops : Array Oper} {N : Act → World → Prop} {n : Nat} {env : Env} {t e : TypeId} {α : Type} [Data α] {bytes : Nat} {w0 : Orig} {S : Stab} {rs : List Res} (i d : Nat) (x y : Operand) (j q b m c : Nat) (v : Value) (l : List α) (news : List α) (cs : List Value) (keep : List (Nat × Value)) (ha : EnvOk n a env) (H : Fr w0 w S rs)
   (E : Elem P t e (Data.size α) bytes)
   (hj : rs[j]? = some (.row e v l)) (hq : rs[q]? = some (.box b e cs)) (hrd : RowRd S w cs news) (hm : m = news.length)
   (hlen : l.length + news.length ≤ 2147483647) (hb : bytes ≤ 1000)
   (k : ∀ v' a' w', Fr w0 w' S (rs.set j (.row e v' (l ++ news))) → EnvOk n a' (keepEnv ((d, v') :: keep)) → w.grownBy w' v.ownBlock → N a' w')
   (h : opAt ops i = some (.call { callee := .builtin .append, args := #[x, y], argTypes := #[t, t] }, some d, none) := by kernel_rfl) (hx : getOp env [] x = some v := by kernel_rfl) (hy : getOp env [] y = some (.slice (some ⟨b, 0, none⟩) m c) := by kernel_rfl)
   (hk : KeepEq n d env keep := by delta KeepEq; kernel_rfl) : wpOp P ops Q i N a w := by
 subst hm
 refine op_at h fun o ho hdst => ?_
 have hnil : chOk a [] := fun l hl => by simp at hl
 have hbox : w.heap[b]? = some (.cells cs.toArray e (0, 0)) := H.ok _ (List.mem_of_getElem? hq)
 have hnew : ∀ r u, cs[r]? = some u → w.cell? ((⟨b, 0, none⟩ : Addr).add r) = some u := by
   intro r u hu
   have hadd : (⟨b, 0, none⟩ : Addr).add r = ⟨b, r, none⟩ := by unfold Addr.add; split <;> simp_all
   rw [hadd, cell_of_row _ _ _ _ _ _ hbox]
   simpa using hu
 obtain ⟨v', w', hr, hf, hG⟩ := H.push (P := P) (ty := o.type) E j hj ⟨b, 0, none⟩ c news cs hrd hnew (by simp only [maxLen]; omega) (by have := Nat.mul_le_mul hlen hb; omega)
 unfold Oper.wp execOp
 simp only [ho, resolve, invoke, builtin, Sem.run_bind, Sem.run_pure, Result.andThen_ok, List.map_toArray, List.map_cons, List.map_nil, getOp_ok ha hnil _ _ hx, getOp_ok ha hnil _ _ hy, hr]
 exact k v' _ w' hf (env_put keep ha hdst hk) hG
end
end Go.Proofs.Ytahonnlgkmimlaa
namespace Go.Proofs.Ytahonnlgkmimlaa
open Go.RowKit
class Flat (α : Type) extends Data α where
 enc : α → List Value
 fix : ∀ {S w cs a}, toData.rd S w cs a → cs = enc a
instance : Flat Int := { (inferInstance : Data Int) with enc := fun n => [.int .i64 n], fix := fun h => h }
instance : Flat Bool := { (inferInstance : Data Bool) with enc := fun n => [.bool n], fix := fun h => h }
instance : Flat ByteArray := { (inferInstance : Data ByteArray) with enc := fun n => [.string n], fix := fun h => h }
instance {α β : Type} [Flat α] [Flat β] : Flat (α × β) :=
 { (inferInstance : Data (α × β)) with
   enc := fun x => Flat.enc x.1 ++ Flat.enc x.2
   fix := by rintro S w cs a ⟨c1, c2, rfl, h1, h2⟩; rw [Flat.fix h1, Flat.fix h2] }
theorem Fr.get {α : Type} [Data α] {w0 : Orig} {w : World} {S : Stab} {rs : List Res} (h : Fr w0 w S rs) (j : Nat) {v : Value} {a : α} (hj : rs[j]? = some (.ro v a)) : Rd (· < w.heap.size) w v a :=
 Rd.up h.inb (h.ok _ (List.mem_of_getElem? hj))
theorem len_ok {α : Type} [Data α] {S : Stab} {w : World} {v : Value} {l : List α} (h : Rd S w v l) : LenOk v ((l.length : Nat) : Int) := by
 obtain ⟨p, c, rfl, _⟩ := rd_slice h
 exact ⟨p, l.length, c, rfl, rfl⟩
theorem idx_ok {α : Type} [Data α] {S : Stab} {w : World} {v : Value} {l : List α} (h : Rd S w v l) {i : Int} (h0 : 0 ≤ i) (h1 : i < (l.length : Int)) : IdxOk v i := by
 obtain ⟨g, off, c, cs, rfl, _⟩ := slice_at (rd_slice h) i.toNat (by omega)
 exact ⟨g, off, l.length, c, rfl, h0, h1⟩
theorem cells_at {α : Type} [Data α] {w : World} {v : Value} {l : List α} (h : Rd (· < w.heap.size) w v l) {i : Int} (h0 : 0 ≤ i) (h1 : i < (l.length : Int)) (d : α) :
   ∃ cs, Data.rd (· < w.heap.size) w cs (l.getD i.toNat d) ∧ ∀ j, j < Data.size α → ∀ w', On w w' → w'.cell? ⟨hdB v, hdO v + i.toNat * Data.size α + j, none⟩ = cs[j]? := by
 obtain ⟨p, c, rfl, _, _, h3⟩ := rd_slice h
 rcases h3 with rfl | ⟨g, off, cur, t, fz, rfl, hg, hw, hc⟩
 · simp at h1; omega
 have hi : i.toNat < l.length := by omega
 obtain ⟨cs, hr, hj⟩ := hc i.toNat hi
 refine ⟨cs, ?_, fun j hj' w' hw' => ?_⟩
 · rw [List.getD_eq_getElem?_getD, List.getElem?_eq_getElem hi]; exact hr
 show w'.cell? ⟨g, off + i.toNat * Data.size α + j, none⟩ = _
 rw [cell_of_row w' g _ cur t fz ((hw'.block g hg).trans hw)]
 exact hj j hj'
theorem cell_flat {α : Type} [Flat α] {w : World} {v : Value} {l : List α} (h : Rd (· < w.heap.size) w v l) {i : Int} (h0 : 0 ≤ i) (h1 : i < (l.length : Int)) (d : α) (j : Nat) {u : Value}
   (hj : decide (j < Data.size α) = true := by kernel_rfl) (hu : (Flat.enc (l.getD i.toNat d))[j]? = some u := by kernel_rfl) : CellOk (On w) (hdB v) (hdO v + i.toNat * Data.size α + j) u := by
 obtain ⟨cs, hr, hc⟩ := cells_at h h0 h1 d
 intro w' hw'
 rw [hc j (of_decide_eq_true hj) w' hw', Flat.fix hr, hu]
theorem row_flat {α : Type} [Flat α] {w : World} {v : Value} {l : List α} (h : Rd (· < w.heap.size) w v l) {i : Int} (h0 : 0 ≤ i) (h1 : i < (l.length : Int)) (d : α) {n : Nat} {us : Array Value}
   (hn : Data.size α = n := by kernel_rfl) (hu : (Flat.enc (l.getD i.toNat d)).toArray = us := by kernel_rfl) : RowOk (On w) (hdB v) (hdO v + i.toNat * Data.size α) n us := by
 obtain ⟨cs, hr, hc⟩ := cells_at h h0 h1 d
 subst hn; subst hu
 have hcs := Flat.fix hr
 refine ⟨by simp only [List.size_toArray]; rw [← hcs]; exact Data.len hr, fun w' hw' j hj => ?_⟩
 rw [hc j hj w' hw', hcs]
 simp
theorem Fr.arg {α : Type} [Data α] {w0 : Orig} {w : World} {S : Stab} {rs : List Res} (h : Fr w0 w S rs) {v : Value} {a : α} (ha : Rd (· < w0.w.heap.size) w0.w v a) : Rd (· < w.heap.size) w v a :=
 (ha.keep (Keeps.below h.below)).up fun _ hk => Nat.lt_of_lt_of_le hk h.below.size
abbrev Giv (o : Orig) (R : Stab → Value → World → Prop) : Ending → World → Prop := fun e w' => ∃ v, e = .returned v ∧ R (Since o w') v w' ∧ Below o.w.heap.size o.w w'
section
variable {P : Program} {Q : Post} {a : Act} {w : World}
theorem q_call {ops : Array Oper} {N : Act → World → Prop} {n : Nat} {env : Env} {w0 : Orig} {S : Stab} {rs : List Res} (i d : Nat) (f : FuncId) (args : Array Operand) (ats : Array TypeId) (us : List Value) (R : Stab → Value → World → Prop) (keep : List (Nat × Value)) (ha : EnvOk n a env) (H : Fr w0 w S rs)
   (hc : Calls P f us.toArray w (Giv H.at R))
   (k : ∀ v a' w' S, R S v w' → Fr w0 w' S rs → EnvOk n a' (keepEnv ((d, v) :: keep)) → Below w.heap.size w w' → N a' w')
   (h : opAt ops i = some (.call { callee := .value (.func f), args := args, argTypes := ats }, some d, none) := by kernel_rfl) (hargs : (args.toList.map (getOp env [])).mapM id = some us := by kernel_rfl) (hf : Callable P f := by exact callable_of)
   (hk : KeepEq n d env keep := by delta KeepEq; kernel_rfl) : wpOp P ops Q i N a w := by
 obtain ⟨hd, hk⟩ := Prod.mk.inj hk
 refine list_call (first := []) (cap := []) (R := fun v w' => R (Since H.at w') v w' ∧ Below w.heap.size w w') keep ha h (of_decide_eq_true hd) rfl hargs (fun y hy => ?_) hf (by simpa using hc) fun v a' w' hR ha' => ?_
 · have := List.map_inj_left.1 hk y hy
   simp only [Prod.mk.injEq, bne_iff_ne, ne_eq] at this
   exact this
 exact k v a' w' _ hR.1 (H.call hR.2) ha' hR.2
end
end Go.Proofs.Ytahonnlgkmimlaa
namespace Go.Proofs.Ytahonnlgkmimlaa
open Go.ChangeShapes Go.WideShapes Go.ChangeAt Go.RowKit
theorem Try.own : ownKnob Try.prog.godebug = none := by kernel_rfl
theorem Try.laidOut : laidOutB Try.prog = true := by kernel_rfl
theorem post_of_below {H : Type} {enc : TypeId × Value → H} {P : Program} {f : Func} {s : ChangeSpec} {apart fresh handsOn : Bool} {W W' : World} {args : Array Value} {v : Value} {ds gs : List (DataW H)} {before pa pv : List MemPlace}
   (hW : DataW.Whole enc P f.params.toList s.vars apart W args.toList ds gs before)
   (hres : ∀ (b : Nat) (sp : Nat → Bool) (hd : Bool), DataW.TrodAll enc P W' b sp hd f.resultTypes.toList (v.resultList f.resultTypes.size) (s.fn H (ds ++ gs)).results [])
   (hargs : DataW.TrodAll enc P W' 0 (fun b => decide (b < W.heap.size)) true f.params.toList args.toList (s.fn H (ds ++ gs)).args pa)
   (hvars : DataW.TrodVars enc P W' (fun b => decide (b < W.heap.size)) s.vars (s.fn H (ds ++ gs)).vars pv)
   (hps : before = pa ++ pv) (hb : Below W.heap.size W W') : s.post enc P f apart fresh handsOn false W args v W' := by
 refine ⟨ds, gs, before, [], pa, pv, hW, hres _ _ _, hargs, hvars, World.keptBut_mono (fun p hp => ⟨hp, ?_⟩) (hb.frame (· ∈ before)), fun h => by cases h⟩
 rw [hps, List.mem_append] at hp
 exact Or.inr hp
theorem wf_u8 {n : Int} (h : (Lit.int .u8 n).wf = true) : 0 ≤ n ∧ n ≤ 255 := by
 simpa [Lit.wf, IntKind.min, IntKind.max, IntKind.signed, IntKind.bits] using h
theorem wf_i64 {n : Int} (h : (Lit.int .i64 n).wf = true) : -9223372036854775808 ≤ n ∧ n ≤ 9223372036854775807 := by
 simpa [Lit.wf, IntKind.min, IntKind.max, IntKind.signed, IntKind.bits] using h
theorem max_ok {P : Program} {ats : Array TypeId} {k : IntKind} {a b : Int} (ty : TypeId) (w : World) : (Builtin.max_ ats ty [.int k a, .int k b].toArray).run P w = .ok (.int k (max a b)) w := by
 have e : (if b > a then b else a) = max a b := by split <;> omega
 simp [Builtin.max_, Builtin.max2, e]
theorem min_ok {P : Program} {ats : Array TypeId} {k : IntKind} {a b : Int} (ty : TypeId) (w : World) : (Builtin.min_ ats ty [.int k a, .int k b].toArray).run P w = .ok (.int k (min a b)) w := by
 have e : (if b < a then b else a) = min a b := by split <;> omega
 simp [Builtin.min_, Builtin.min2, e]
theorem shr_one {a : Int} {n : Nat} (h : 1 ≤ n) : 0 ≤ (1 : Int) ∧ a.fdiv (2 ^ (min (1 : Int).toNat n)) = a / 2 := by
 refine ⟨by decide, ?_⟩
 rw [show min (1 : Int).toNat n = 1 by omega]
 exact Int.fdiv_eq_ediv_of_nonneg a (by decide)
theorem box_at {w : World} {o : Orig} {S : Stab} {rs : List Res} (H : Fr o w S rs) (j : Nat) {b : Nat} {t : TypeId} {vs : List Value} (hj : rs[j]? = some (.box b t vs)) :
   ∀ w', On w w' → w'.heap[b]? = some (.cells vs.toArray t (0, 0)) := by
 intro w' hw'
 have h : w.heap[b]? = some (.cells vs.toArray t (0, 0)) := H.ok _ (List.mem_of_getElem? hj)
 rw [hw'.block b (H.own _ (List.mem_of_getElem? hj) b rfl).2.1]
 exact h
theorem box_cell {w : World} {o : Orig} {S : Stab} {rs : List Res} (H : Fr o w S rs) (j : Nat) {b : Nat} {t : TypeId} {vs : List Value} (hj : rs[j]? = some (.box b t vs)) (i : Nat) {u : Value} (hu : vs[i]? = some u := by kernel_rfl) : CellOk (On w) b i u := by
 intro w' hw'
 rw [cell_of_row w' b i _ t _ (box_at H j hj w' hw')]
 simpa using hu
theorem box_row {w : World} {o : Orig} {S : Stab} {rs : List Res} (H : Fr o w S rs) (j : Nat) {b : Nat} {t : TypeId} {vs : List Value} (hj : rs[j]? = some (.box b t vs)) (i n : Nat) {us : Array Value}
   (hn : us.size = n := by kernel_rfl) (hu : ((vs.drop i).take n).toArray = us := by kernel_rfl) : RowOk (On w) b i n us := by
 refine ⟨hn, fun w' hw' k hk => ?_⟩
 rw [cell_of_row w' b (i + k) _ t _ (box_at H j hj w' hw'), ← hu]
 simp [List.getElem?_take, hk]
section
variable {P : Program} {Q : Post} {a : Act} {w : World}
theorem q_alloc {ops : Array Oper} {N : Act → World → Prop} {n : Nat} {env : Env} {w0 : Orig} {S : Stab} {rs : List Res} (i d t : Nat) (cs : List Value) (keep : List (Nat × Value)) (ha : EnvOk n a env) (H : Fr w0 w S rs)
   (k : ∀ b a' w', Fr w0 w' S (.box b t cs :: rs) → EnvOk n a' (keepEnv ((d, .pointer (some ⟨b, 0, none⟩)) :: keep)) → Below w.heap.size w w' → w.heap.size ≤ b → N a' w')
   (h : opAt ops i = some (.alloc t, some d, none) := by kernel_rfl)
   (hrun : ∀ w : World, (Instr.alloc t true (.tuple #[])).run P w = .ok (.pointer (some ⟨w.heap.size, 0, none⟩)) (w.alloc (.cells cs.toArray t)) := by intro w; kernel_rfl)
   (hk : KeepEq n d env keep := by delta KeepEq; kernel_rfl) : wpOp P ops Q i N a w := by
 refine op_at h fun o ho hdst => ?_
 have e2 : (execOp a.eval o).run P w = .ok (.value (.pointer (some ⟨w.heap.size, 0, none⟩))) (w.alloc (.cells cs.toArray t)) := by
   simp only [execOp, ho, Sem.run_bind, hrun w]
   rfl
 unfold Oper.wp
 rw [e2, Oper.upon_value]
 exact k w.heap.size _ _ (H.newBox cs t) (env_put keep ha hdst hk) (below_new _ _) (Nat.le_refl _)
theorem q_box {ops : Array Oper} {N : Act → World → Prop} {n : Nat} {env : Env} {w0 : Orig} {S : Stab} {rs : List Res} (i d t : Nat) (x : Operand) (u : Value) (cs : List Value) (keep : List (Nat × Value)) (ha : EnvOk n a env) (H : Fr w0 w S rs)
   (k : ∀ b a' w', Fr w0 w' S (.box b t cs :: rs) → EnvOk n a' (keepEnv ((d, .pointer (some ⟨b, 0, none⟩)) :: keep)) → Below w.heap.size w w' → w.heap.size ≤ b → N a' w')
   (h : opAt ops i = some (.box t x, some d, none) := by kernel_rfl) (hx : getOp env [] x = some u := by kernel_rfl)
   (hrun : ∀ w : World, (Instr.box t u).run P w = .ok (.pointer (some ⟨w.heap.size, 0, none⟩)) (w.alloc (.cells cs.toArray t)) := by intro w; kernel_rfl)
   (hk : KeepEq n d env keep := by delta KeepEq; kernel_rfl) : wpOp P ops Q i N a w := by
 refine op_at h fun o ho hdst => ?_
 have e2 : (execOp a.eval o).run P w = .ok (.value (.pointer (some ⟨w.heap.size, 0, none⟩))) (w.alloc (.cells cs.toArray t)) := by
   simp only [execOp, ho, Sem.run_bind, getOp_ok ha (fun l hl => by simp at hl) _ _ hx, hrun w]
   rfl
 unfold Oper.wp
 rw [e2, Oper.upon_value]
 exact k w.heap.size _ _ (H.newBox cs t) (env_put keep ha hdst hk) (below_new _ _) (Nat.le_refl _)
theorem run_storeAt_box (w : World) (t e : TypeId) (b o : Nat) (vs us : List Value) (u : Value) (hb : w.heap[b]? = some (.cells vs.toArray e (0, 0))) (hc : u.cells.toList = us) (ho : o + us.length ≤ vs.length)
   (hsz : (P.info? t).map (·.size) = some us.length) (h1 : ∀ v ∈ us, v.oneCell' = true) :
   (Instr.storeAt t (.pointer (some ⟨b, o, none⟩)) u).run P w = .ok () (w.setRow b (vs.take o ++ us ++ vs.drop (o + us.length)).toArray) := by
 obtain ⟨i, hi, hs⟩ := Option.map_eq_some_iff.1 hsz
 have hcs : u.cells.size = us.length := by rw [← hc, Array.length_toList]
 have hcl : P.cellsOf t = us.length := by simp [Program.cellsOf, hi, hs]
 have := run_storeCells_at (P := P) b o e us 0 vs.toArray w hb (by simpa using ho) h1
 simp only [Nat.add_zero] at this
 simp only [Instr.storeAt, Instr.sureAddr, storeVar, Sem.run_bind, Sem.run_pure, Result.andThen_ok, run_sizeOf w hi, hs, hcs, hcl, ne_eq, not_true_eq_false, if_false, hc]
 exact this
theorem q_store {ops : Array Oper} {N : Act → World → Prop} {n : Nat} {env : Env} {w0 : Orig} {S : Stab} {rs : List Res} (i t : Nat) (x y : Operand) (j b o : Nat) (e : TypeId) (vs us vs' : List Value) (u : Value) (keep : List (Nat × Value)) (ha : EnvOk n a env) (H : Fr w0 w S rs)
   (hj : rs[j]? = some (.box b e vs)) (hc : u.cells.toList = us) (ho : o + us.length ≤ vs.length) (hv : vs.take o ++ us ++ vs.drop (o + us.length) = vs') (h1 : ∀ v ∈ us, v.oneCell' = true)
   (k : ∀ a' w', Fr w0 w' S (rs.set j (.box b e vs')) → EnvOk n a' (keepEnv keep) → w.grownBy w' (some b) → N a' w')
   (h : opAt ops i = some (.store t x y, none, none) := by kernel_rfl) (hx : getOp env [] x = some (.pointer (some ⟨b, o, none⟩)) := by kernel_rfl) (hy : getOp env [] y = some u := by kernel_rfl)
   (hsz : (P.info? t).map (·.size) = some us.length := by kernel_rfl)
   (hk : (keep.map fun x => look env x.1) = (keep.map fun x => some ⟨x.1, [], x.2⟩) := by kernel_rfl) : wpOp P ops Q i N a w := by
 refine op_at h fun op hop hdst => ?_
 have hb : w.heap[b]? = some (.cells vs.toArray e (0, 0)) := H.ok _ (List.mem_of_getElem? hj)
 have e2 : (execOp a.eval op).run P w = .ok .skip (w.setRow b vs'.toArray) := by
   simp only [execOp, hop, Sem.run_bind, getOp_ok ha (fun l hl => by simp at hl) _ _ hx, getOp_ok ha (fun l hl => by simp at hl) _ _ hy, run_storeAt_box w t e b o vs us u hb hc ho hsz h1, hv]
   rfl
 unfold Oper.wp
 rw [e2, Oper.upon_skip, hdst]
 have hG : w.grownBy (w.setRow b vs'.toArray) (some b) := by
   refine ⟨rfl, rfl, rfl, by simp [World.setRow], fun k hk hne => ?_⟩
   simp only [World.setRow, Array.getElem?_modify]
   rw [if_neg (fun e => hne (by rw [← e]))]
 exact k _ _ (H.set j hj _ (setRow_heap w b vs.toArray _ e _ hb) hG (fun b' hb' => .inl hb')) (keep_ok keep ha (looks_of hk)) hG
end
def But (w : World) (m : Option Nat) (w' : World) : Prop := w.heap.size ≤ w'.heap.size ∧ ∀ k, k < w.heap.size → some k ≠ m → w'.heap[k]? = w.heap[k]?
theorem But.refl (w : World) (m : Option Nat) : But w m w := ⟨Nat.le_refl _, fun _ _ _ => rfl⟩
theorem But.drew (w : World) (m : Option Nat) : But w m { w with drawn := w.drawn + 1 } := ⟨Nat.le_refl _, fun _ _ _ => rfl⟩
theorem But.grown {w w1 w2 : World} {m row : Option Nat} (h : But w m w1) (hg : w1.grownBy w2 row) (hr : ∀ b, row = some b → some b = m ∨ w.heap.size ≤ b) : But w m w2 := by
 refine ⟨Nat.le_trans h.1 hg.size, fun k hk hm => ?_⟩
 rw [hg.block k (Nat.lt_of_lt_of_le hk h.1) (fun e => by
   rcases hr k e.symm with h1 | h1
   · exact hm h1
   omega)]
 exact h.2 k hk hm
theorem But.below {w w1 w2 : World} {m : Option Nat} (h : But w m w1) (hb : Below w1.heap.size w1 w2) : But w m w2 :=
 ⟨Nat.le_trans h.1 hb.size, fun k hk hm => (hb.block k (Nat.lt_of_lt_of_le hk h.1)).trans (h.2 k hk hm)⟩
def Calm (Q : Exit → Act → World → Prop) : Exit → Act → World → Prop
 | .panic _, _, _ => False
 | .normal, a, w => Q .normal a w
 | e, a, w => Q e a w
theorem calm_wp {P : Program} {c : Code} {Q : Exit → Act → World → Prop} {a : Act} {w : World} (h : c.wp P (Calm Q) a w) : c.wp P Q a w :=
 Code.wp_mono (fun e a w q => by cases e <;> first | exact q | exact (q : False).elim) h
section
variable {P : Program} {ops : Array Oper} {Q : Exit → Act → World → Prop} {D : World → Prop}
def Mix (P : Program) (ops : Array Oper) (Q : Exit → Act → World → Prop) (D : World → Prop) (hd : List Nat) : Nat → Array Bool → Act → World → Prop
 | 0, listed, a, w => Region.ready .any ops listed = [] ∧ Q .normal a w
 | n + 1, listed, a, w => (Region.ready .any ops listed = [] → Q .normal a w) ∧
   ∀ i ∈ Region.ready .any ops listed, wpOp P ops Q i (fun a' w' => (i ∈ hd → D w') ∧ Mix P ops Q D hd n (listed.setIfInBounds i true) a' w') a w
theorem Mix.any {hd : List Nat} : ∀ (n : Nat) (listed : Array Bool) (a : Act) (w : World), Mix P ops Q D hd n listed a w → wpAny P .any ops Q n listed a w
 | 0, _, _, _, h => h
 | n + 1, _, _, _, h => ⟨h.1, fun i hi => wpOp_mono (fun a' w' q => Mix.any n _ a' w' q.2) (h.2 i hi)⟩
def tailB (ops : Array Oper) (hd : List Nat) : Bool := (List.range ops.size).all fun j => hd.contains j || hd.all fun i => match ops[j]? with
 | some o => o.after.any fun e => Region.binds .any e && e.on == i
 | none => true
theorem tailB_spec {hd : List Nat} (h : tailB ops hd = true) {i j : Nat} {oj : Oper} (hj : ops[j]? = some oj) (hn : j ∉ hd) (hi : i ∈ hd) : ∃ e ∈ oj.after, Region.binds .any e = true ∧ e.on = i := by
 have hlt : j < ops.size := (Array.getElem?_eq_some_iff.1 hj).1
 have h1 := List.all_eq_true.1 h j (List.mem_range.2 hlt)
 simp only [Bool.or_eq_true, List.contains_iff_mem] at h1
 have h2 := List.all_eq_true.1 (h1.resolve_left hn) i hi
 simp only [hj] at h2
 obtain ⟨e, he, hb⟩ := Array.any_eq_true'.1 h2
 simp only [Bool.and_eq_true, beq_iff_eq] at hb
 exact ⟨e, he, hb.1, hb.2⟩
theorem mix_first {hd : List Nat} {i : Nat} {oi : Oper} {v : Value} (hi : ops[i]? = some oi) (hin : i ∈ hd) (htl : tailB ops hd = true) (hsel : Region.noSelect ops = true) (hQ : ∀ c a w, Q (.panic c) (a.put oi.dst v) w → Q (.panic c) a w) :
   ∀ (n : Nat) (listed : Array Bool) (a : Act) (w : World),
     (∀ j oj, ops[j]? = some oj → j ≠ i → listed.getD j true = false → (∀ e ∈ oj.after, Region.binds .any e = true → e.on ≠ i) → oi.apart ops oj = true) →
     i ∈ Region.ready .any ops listed → YieldsIf P ops D oi v a → D w → Mix P ops Q D hd n (listed.setIfInBounds i true) (a.put oi.dst v) w → Mix P ops Q D hd (n + 1) listed a w := by
 have hS := Region.noSelect_spec hsel
 intro n
 induction n with
 | zero =>
   intro listed a w _ hr hy hD H
   refine ⟨fun e => (by rw [e] at hr; cases hr), fun j hj => ?_⟩
   by_cases hji : j = i
   · subst hji; exact hy.wpOp hi hD ⟨fun _ => hD, H⟩
   have := ready_mono hj hji
   rw [H.1] at this; cases this
 | succ n ih =>
   intro listed a w hfree hr hy hD H
   refine ⟨fun e => (by rw [e] at hr; cases hr), fun j hj => ?_⟩
   by_cases hji : j = i
   · subst hji; exact hy.wpOp hi hD ⟨fun _ => hD, H⟩
   obtain ⟨hjun, oj, hoj, hall⟩ := mem_ready.1 hj
   have hiun := (mem_ready.1 hr).1
   have hnot : ∀ e ∈ oj.after, Region.binds .any e = true → e.on ≠ i := by
     intro e he hb q
     have h1 := hall e he hb
     rw [q] at h1
     rcases Nat.lt_or_ge i listed.size with h' | h'
     · simp [h'] at hiun h1; rw [hiun] at h1; cases h1
     simp [Array.getElem?_eq_none h'] at h1
   have hjd : j ∈ hd := by
     by_cases c : j ∈ hd
     · exact c
     obtain ⟨e, he, hb, hon⟩ := tailB_spec htl hoj c hin
     exact absurd hon (hnot e he hb)
   have step := wpOp_putIf hoj (hfree j oj hoj hji hjun hnot) (fun cs b => hS i oi cs b hi) (fun cs b => hS j oj cs b hoj) hQ hy (H.2 j (ready_mono hj hji))
   refine wpOp_mono (fun a' w' q => ⟨fun _ => q.2.1 hjd, ih (listed.setIfInBounds j true) a' w' (fun k ok hk hki hun hno => ?_) (ready_mono hr (Ne.symm hji)) q.1 (q.2.1 hjd) ?_⟩) step
   · refine hfree k ok hk hki ?_ hno
     by_cases hjk : j = k
     · subst hjk; exact hjun
     rw [getD_set_ne true hjk] at hun; exact hun
   rw [Array.setIfInBounds_comm _ _ hji]; exact q.2.2
def stillB : Op → Bool
 | .move _ | .assign _ | .nilCheck _ | .unOp .. | .extract .. | .binOp .. | .convert .. | .index .. | .indexAddr .. | .fieldAddr .. | .load .. | .field .. | .build .. | .slice .. | .pick .. => true
 | .call c => match c.callee with
   | .builtin .len => true
   | .builtin .max => true
   | .builtin .min => true
   | _ => false
 | _ => false
theorem yields_of_quiet {o : Oper} {v : Value} {a : Act} (hs : stillB o.op = true) (h : YieldsIn P ops D o v a) : YieldsIf P ops D o v a := by
 rcases h with ⟨hw, hv⟩ | ⟨hw, hv⟩
 · refine .inl ⟨hw, fun w hD => ?_⟩
   have hq := hv w hD
   unfold Oper.quietAt at hq
   have key' : ∀ r : Result Value, (execOp a.eval o).run P w = r.andThen (fun u w' => .ok (.value u) w') → (execOp a.eval o).run P w = .ok (.value v) w := by
     intro r e
     rw [e] at hq ⊢
     cases r with
     | ok u w' =>
       obtain ⟨h1, h2⟩ := hq
       simp only [Result.andThen]
       rw [h1, h2]
     | halt x w' => exact hq.elim
   have key : ∀ s : Sem Value, execOp a.eval o = (do pure (.value (← s)) : Sem Next) → (execOp a.eval o).run P w = .ok (.value v) w := by
     intro s e
     refine key' (s.run P w) ?_
     rw [e, Sem.run_bind]
     rfl
   cases ho : o.op with
   | move x => exact key (pure (a.eval x)) (by simp only [execOp, ho]; rfl)
   | assign x => exact key (pure (a.eval x)) (by simp only [execOp, ho]; rfl)
   | nilCheck x =>
     simp only [execOp, ho] at hq ⊢
     have hpan : Oper.quietUpon P D w v ((runtimePanic .nilDeref : Sem Next).run P w) → False := fun h => h
     have hok : ∀ (u : Value) (w1 : World), Oper.quietUpon P D w v ((pure (.value u) : Sem Next).run P w1) → (pure (.value u) : Sem Next).run P w1 = .ok (.value v) w := fun u w1 h => by
       rw [Sem.run_pure] at h ⊢
       obtain ⟨h1, h2⟩ := h
       rw [h1, h2]
     have hthen : ∀ {α : Type} (r : Result α) (f : α → World → Result Next), (∀ a w', Oper.quietUpon P D w v (f a w') → f a w' = .ok (.value v) w) → Oper.quietUpon P D w v (r.andThen f) → r.andThen f = .ok (.value v) w := by
       intro α r f h1 h2
       cases r with
       | ok a w' => exact h1 a w' h2
       | halt _ _ => exact h2.elim
     generalize a.eval x = y at hq ⊢
     cases y with
     | pointer p => cases p with
       | none => exact (hpan hq).elim
       | some q => exact hok _ _ hq
     | nilIface => exact (hpan hq).elim
     | nilFunc => exact (hpan hq).elim
     | func f first cap => cases f with
       | method name =>
         dsimp only at hq ⊢
         split at hq
         · exact (hpan hq).elim
         · rw [Sem.run_bind] at hq ⊢
           refine hthen _ _ (fun p w1 hq => ?_) hq
           rw [Sem.run_bind] at hq ⊢
           refine hthen _ _ (fun p w1 hq => ?_) hq
           by_cases hc : (p != some false) = true
           · rw [if_pos hc, Sem.run_bind] at hq ⊢
             exact hthen _ _ (fun p w1 hq => hok _ _ hq) hq
           rw [if_neg hc] at hq ⊢
           exact hok _ _ hq
         exact hok _ _ hq
       | _ => exact hok _ _ hq
     | _ => exact hok _ _ hq
   | pick c x y =>
     refine key' (((asBool (a.eval c)).run P w).andThen fun b w' => .ok (if b then a.eval x else a.eval y) w') ?_
     simp only [execOp, ho, Sem.run_bind, Sem.run_pure]
     cases (asBool (a.eval c)).run P w <;> rfl
   | call c =>
     rw [ho] at hs
     simp only [stillB] at hs
     split at hs
     · rename_i hc
       exact key' ((Builtin.len_ c.argTypes o.type (c.args.map a.eval)).run P w) (by simp only [execOp, ho, resolve, hc, Sem.run_bind, Sem.run_pure, Result.andThen_ok, invoke, builtin])
     · rename_i hc
       exact key' ((Builtin.max_ c.argTypes o.type (c.args.map a.eval)).run P w) (by simp only [execOp, ho, resolve, hc, Sem.run_bind, Sem.run_pure, Result.andThen_ok, invoke, builtin])
     · rename_i hc
       exact key' ((Builtin.min_ c.argTypes o.type (c.args.map a.eval)).run P w) (by simp only [execOp, ho, resolve, hc, Sem.run_bind, Sem.run_pure, Result.andThen_ok, invoke, builtin])
     cases hs
   | _ => first | (rw [ho] at hs; cases hs; done) | exact key _ (by simp only [execOp, ho]; rfl)
 exact .inr ⟨hw, hv⟩
def takeB (ops : Array Oper) (hd : List Nat) : List Nat → Array Bool → Bool
 | [], _ => true
 | i :: r, listed => hd.contains i && (match ops[i]? with | some o => stillB o.op | none => false) && Region.free .any ops listed i && (Region.ready .any ops listed).contains i && takeB ops hd r (listed.setIfInBounds i true)
def marks (listed : Array Bool) : List Nat → Array Bool
 | [] => listed
 | i :: r => marks (listed.setIfInBounds i true) r
theorem mix_take {hd : List Nat} {n : Nat} {w : World} (htl : tailB ops hd = true) (hsel : Region.noSelect ops = true) (hQ : ∀ c a a' w, Q (.panic c) a w → Q (.panic c) a' w) (hD : D w) : ∀ (is : List Nat) (listed : Array Bool) (a : Act),
   takeB ops hd is listed = true → wpQuiet P ops D (fun a' => Mix P ops Q D hd n (marks listed is) a' w) (is.filterMap fun i => ops[i]?) a → Mix P ops Q D hd (n + is.length) listed a w
 | [], listed, a, _, h => h
 | i :: r, listed, a, hB, h => by
   simp only [takeB, Bool.and_eq_true] at hB
   obtain ⟨⟨⟨⟨h1, h2⟩, h3⟩, h4⟩, h5⟩ := hB
   cases ho : ops[i]? with
   | none => rw [ho] at h2; cases h2
   | some o =>
     rw [ho] at h2
     simp only at h2
     rw [List.filterMap_cons_some ho] at h
     have hq : qOp P ops D i (wpQuiet P ops D (fun a' => Mix P ops Q D hd n (marks listed (i :: r)) a' w) (r.filterMap fun i => ops[i]?)) a := by
       unfold qOp; simp only [ho]; exact h
     obtain ⟨v, hy, hK⟩ := yieldsIn_of_qOp ho hq
     have ih := mix_take htl hsel hQ hD r (listed.setIfInBounds i true) _ h5 hK
     rw [List.length_cons, ← Nat.add_assoc]
     exact mix_first ho (List.contains_iff_mem.1 h1) htl hsel (fun c a w q => hQ c _ _ w q) _ listed a w (fun j oj hj hne hun hno => Region.free_spec ho h3 j oj hj hne hun hno) (List.contains_iff_mem.1 h4) (yields_of_quiet h2 hy) hD ih
theorem mix_one {hd : List Nat} {n : Nat} {listed : Array Bool} {a : Act} {w : World} (i : Nat) (hr : Region.ready .any ops listed = [i])
   (h : wpOp P ops Q i (fun a' w' => (i ∈ hd → D w') ∧ Mix P ops Q D hd n (listed.setIfInBounds i true) a' w') a w) : Mix P ops Q D hd (n + 1) listed a w := by
 refine ⟨fun e => (by rw [hr] at e; cases e), fun j hj => ?_⟩
 rw [hr] at hj
 obtain rfl : j = i := by simpa using hj
 exact h
end
section
variable {P : Program} {B : Code} {p : List Nat} {Q : Exit → Act → World → Prop} {a : Act} {w : World}
theorem region_mix (D : World → Prop) (hd : List Nat) (n : Nat) (k : Mix P (opsOf (sub B p)) (Calm Q) D hd n (Array.replicate n false) a { w with drawn := w.drawn + 1 }) (hn : (opsOf (sub B p)).size = n := by kernel_rfl) (hdr : drawOf (sub B p) = some true := by kernel_rfl) (hm : P.follows .mixedOrders = true := by kernel_rfl) : (sub B p).wp P Q a w := by
 cases hc : sub B p <;> rw [hc] at hdr <;> first | (cases hdr; done) | skip
 rename_i id ops d
 simp only [drawOf, Option.some.injEq] at hdr
 subst hdr
 rw [hc] at k hn
 subst hn
 exact calm_wp (wp_region_any hm (Mix.any _ _ _ _ k))
abbrev MixEq (P : Program) (D : World → Prop) (m : Nat) (ops : Array Oper) (hd is : List Nat) (listed listed' : Array Bool) (orc : List (Nat × Value)) (env : Env) (keep : List (Nat × Value)) (pr : Prop) : Prop :=
 ((takeB ops hd is listed, tailB ops hd, Region.noSelect ops, marks listed is), (evRun P D m ops orc (is.filterMap fun i => ops[i]?) env).map (fun r => ((keep.map fun x => look r.1 x.1), r.2))) = ((true, true, true, listed'), some ((keep.map fun x => some ⟨x.1, [], x.2⟩), pr))
theorem m_take {ops : Array Oper} {D : World → Prop} {hd : List Nat} {n m : Nat} {listed : Array Bool} {env : Env} (is : List Nat) (listed' : Array Bool) (orc : List (Nat × Value)) (keep : List (Nat × Value)) (pr : Prop) (ha : EnvOk m a env) (hD : D w) (hp : pr)
   (k : ∀ a', EnvOk m a' (keepEnv keep) → Mix P ops (Calm Q) D hd n listed' a' w) (h : MixEq P D m ops hd is listed listed' orc env keep pr := by delta MixEq; kernel_rfl) : Mix P ops (Calm Q) D hd (n + is.length) listed a w := by
 obtain ⟨h1, h2⟩ := Prod.mk.inj h
 obtain ⟨h3, h4⟩ := Prod.mk.inj h1
 obtain ⟨h5, h6⟩ := Prod.mk.inj h4
 obtain ⟨h7, h8⟩ := Prod.mk.inj h6
 obtain ⟨env', e1, e2⟩ := runOk_of h2
 have hev : evRun P D m ops orc (is.filterMap fun i => ops[i]?) env = some (env', pr) := e1
 refine mix_take h5 h7 (fun c a a' w q => q) hD is listed a h3 (evRun_ok ha hev hp fun a' ha' => ?_)
 rw [h8]
 exact k a' (keep_ok keep ha' e2)
theorem m_one {ops : Array Oper} {D : World → Prop} {hd : List Nat} {n : Nat} {listed : Array Bool} (i : Nat) (h : wpOp P ops (Calm Q) i (fun a' w' => (i ∈ hd → D w') ∧ Mix P ops (Calm Q) D hd n (listed.setIfInBounds i true) a' w') a w)
   (hr : Region.ready .any ops listed = [i] := by kernel_rfl) : Mix P ops (Calm Q) D hd (n + 1) listed a w := mix_one i hr h
end
abbrev Old (o : Orig) (S : Stab) : Stab := fun k => k < o.w.heap.size ∨ S k
theorem Fr.old {o : Orig} {w : World} {S : Stab} {rs : List Res} (H : Fr o w S rs) {k : Nat} (h : Old o S k) : k < w.heap.size := by
 rcases h with h | h
 · exact Nat.lt_of_lt_of_le h H.below.size
 exact H.inb k h
theorem Fr.getT {α : Type} [Data α] {o : Orig} {w : World} {S : Stab} {rs : List Res} (h : Fr o w S rs) (j : Nat) {v : Value} {a : α} (hj : rs[j]? = some (.ro v a)) : Rd (Old o S) w v a :=
 Rd.up (fun _ hk => .inr hk) (h.ok _ (List.mem_of_getElem? hj))
theorem Fr.argT {α : Type} [Data α] {o : Orig} {w : World} {S : Stab} {rs : List Res} (h : Fr o w S rs) {v : Value} {a : α} (ha : Rd (· < o.w.heap.size) o.w v a) : Rd (Old o S) w v a :=
 (ha.keep (Keeps.below h.below)).up fun _ hk => .inl hk
theorem Fr.keeps {o : Orig} {w : World} {S : Stab} {rs : List Res} (H : Fr o w S rs) (m : Option Nat) (hm : m = none ∨ ∃ r ∈ rs, r.block = m) : ∀ w', But w m w' → Keeps (Old o S) w w' := by
 intro w' hw' k hk
 refine hw'.2 k (H.old hk) fun e => ?_
 rcases hm with rfl | ⟨r, hr, hb⟩
 · cases e
 obtain ⟨h1, h2, h3⟩ := H.own r hr k (hb.trans e.symm)
 rcases hk with hk | hk
 · omega
 exact h3 hk
theorem Fr.apart {o : Orig} {w : World} {S : Stab} {rs : List Res} (H : Fr o w S rs) (i j : Nat) (hij : i ≠ j) {ri rj : Res} (hi : rs[i]? = some ri) (hj : rs[j]? = some rj) {b : Nat} (hb : ri.block = some b) : rj.block ≠ some b := by
 intro hb'
 obtain ⟨hil, hie⟩ := List.getElem?_eq_some_iff.1 hi
 obtain ⟨hjl, hje⟩ := List.getElem?_eq_some_iff.1 hj
 have hn := H.nodup
 rw [List.Nodup, List.pairwise_filterMap, List.pairwise_iff_getElem] at hn
 rcases Nat.lt_or_gt_of_ne hij with hlt | hgt
 · exact hn i j hil hjl hlt b (by rw [hie]; exact hb) b (by rw [hje]; exact hb') rfl
 exact hn j i hjl hil hgt b (by rw [hje]; exact hb') b (by rw [hie]; exact hb) rfl
theorem cells_atC {α : Type} [Data α] {T : Stab} {C : World → Prop} {w : World} {v : Value} {l : List α} (hC : ∀ w', C w' → Keeps T w w') (h : Rd T w v l) {i : Int} (h0 : 0 ≤ i) (h1 : i < (l.length : Int)) (d : α) :
   ∃ cs, Data.rd T w cs (l.getD i.toNat d) ∧ ∀ j, j < Data.size α → ∀ w', C w' → w'.cell? ⟨hdB v, hdO v + i.toNat * Data.size α + j, none⟩ = cs[j]? := by
 obtain ⟨p, c, rfl, _, _, h3⟩ := rd_slice h
 rcases h3 with rfl | ⟨g, off, cur, t, fz, rfl, hg, hw, hc⟩
 · simp at h1; omega
 have hi : i.toNat < l.length := by omega
 obtain ⟨cs, hr, hj⟩ := hc i.toNat hi
 refine ⟨cs, ?_, fun j hj' w' hw' => ?_⟩
 · rw [List.getD_eq_getElem?_getD, List.getElem?_eq_getElem hi]; exact hr
 show w'.cell? ⟨g, off + i.toNat * Data.size α + j, none⟩ = _
 rw [cell_of_row w' g _ cur t fz ((hC w' hw' g hg).trans hw)]
 exact hj j hj'
theorem cell_flatC {α : Type} [Flat α] {T : Stab} {C : World → Prop} {w : World} {v : Value} {l : List α} (hC : ∀ w', C w' → Keeps T w w') (h : Rd T w v l) {i : Int} (h0 : 0 ≤ i) (h1 : i < (l.length : Int)) (d : α) (j : Nat) {u : Value}
   (hj : decide (j < Data.size α) = true := by kernel_rfl) (hu : (Flat.enc (l.getD i.toNat d))[j]? = some u := by kernel_rfl) : CellOk C (hdB v) (hdO v + i.toNat * Data.size α + j) u := by
 obtain ⟨cs, hr, hc⟩ := cells_atC hC h h0 h1 d
 intro w' hw'
 rw [hc j (of_decide_eq_true hj) w' hw', Flat.fix hr, hu]
theorem cell_sliceC {α : Type} [Data α] {T : Stab} {C : World → Prop} {w : World} {v : Value} {l : List (List α)} (hC : ∀ w', C w' → Keeps T w w') (h : Rd T w v l) (i : Int) :
   ∃ u, (0 ≤ i → i < (l.length : Int) → CellOk C (hdB v) (hdO v + i.toNat * 1) u) ∧ (0 ≤ i → i < (l.length : Int) → Rd T w u (l.getD i.toNat [])) := by
 by_cases hb : 0 ≤ i ∧ i < (l.length : Int)
 · obtain ⟨cs, ⟨u, rfl, hu⟩, hc⟩ := cells_atC hC h hb.1 hb.2 []
   refine ⟨u, fun _ _ w' hw' => ?_, fun _ _ => slice_rd hu⟩
   exact hc 0 (show 0 < 1 by decide) w' hw'
 exact ⟨undef, fun a b => (hb ⟨a, b⟩).elim, fun a b => (hb ⟨a, b⟩).elim⟩
theorem box_atC {o : Orig} {w : World} {S : Stab} {rs : List Res} (H : Fr o w S rs) (m : Option Nat) (j : Nat) {b : Nat} {t : TypeId} {vs : List Value} (hj : rs[j]? = some (.box b t vs)) (hm : m ≠ some b) :
   ∀ w', But w m w' → w'.heap[b]? = some (.cells vs.toArray t (0, 0)) := by
 intro w' hw'
 have h : w.heap[b]? = some (.cells vs.toArray t (0, 0)) := H.ok _ (List.mem_of_getElem? hj)
 rw [hw'.2 b (H.own _ (List.mem_of_getElem? hj) b rfl).2.1 (fun e => hm e.symm)]
 exact h
theorem box_cellC {C : World → Prop} {b : Nat} {t : TypeId} {vs : List Value} (hb : ∀ w', C w' → w'.heap[b]? = some (.cells vs.toArray t (0, 0))) (i : Nat) {u : Value} (hu : vs[i]? = some u := by kernel_rfl) : CellOk C b i u := by
 intro w' hw'
 rw [cell_of_row w' b i _ t _ (hb w' hw')]
 simpa using hu
theorem box_rowC {C : World → Prop} {b : Nat} {t : TypeId} {vs : List Value} (hb : ∀ w', C w' → w'.heap[b]? = some (.cells vs.toArray t (0, 0))) (i n : Nat) {us : Array Value}
   (hn : us.size = n := by kernel_rfl) (hu : ((vs.drop i).take n).toArray = us := by kernel_rfl) : RowOk C b i n us := by
 refine ⟨hn, fun w' hw' k hk => ?_⟩
 rw [cell_of_row w' b (i + k) _ t _ (hb w' hw'), ← hu]
 simp [List.getElem?_take, hk]
theorem Fr.drawn {o : Orig} {w : World} {S : Stab} {rs : List Res} (H : Fr o w S rs) : Fr o { w with drawn := w.drawn + 1 } S rs := H.on ⟨rfl, rfl, rfl, Nat.le_refl _, fun _ _ => rfl⟩
section
variable {P : Program} {Q : Exit → Act → World → Prop} {a : Act} {w : World}
theorem m_end {ops : Array Oper} {D : World → Prop} {hd : List Nat} {listed : Array Bool} (h : Q .normal a w) (hr : Region.ready .any ops listed = [] := by kernel_rfl) : Mix P ops (Calm Q) D hd 0 listed a w := ⟨hr, h⟩
theorem q_one {ops : Array Oper} {N : Act → World → Prop} {Q : Exit → Act → World → Prop} {n : Nat} {env : Env} {w0 : Orig} {S : Stab} {rs : List Res} (i : Nat) (orc : List (Nat × Value)) (keep : List (Nat × Value)) (pr : Prop) (ha : EnvOk n a env) (H : Fr w0 w S rs) (hp : pr)
   (k : ∀ a' w', Fr w0 w' S rs → EnvOk n a' (keepEnv keep) → Below w.heap.size w w' → N a' w')
   (h : RunEq P (On w) n ops orc ([i].filterMap fun i => ops[i]?) env keep pr := by delta RunEq; kernel_rfl) : wpOp P ops Q i N a w := by
 obtain ⟨env', e1, e2⟩ := runOk_of h
 have hq := evRun_ok ha e1 hp (Q := fun a' => EnvOk n a' env') (fun a' h => h)
 have hq' : qOp P ops (On w) i (fun a' => EnvOk n a' env') a := by
   unfold qOp
   cases ho : ops[i]? with
   | none => simp only [List.filterMap_cons, ho, List.filterMap_nil, wpQuiet] at hq; exact hq
   | some o =>
     simp only [List.filterMap_cons, ho, List.filterMap_nil, wpQuiet] at hq
     exact hq
 exact wpOp_of_qOp (C := On w) ⟨rfl, rfl, rfl, Nat.le_refl _, fun _ _ => rfl⟩ (fun a' w' hw' h => k a' w' (H.on hw') (keep_ok keep h e2) hw') hq'
end
section
variable {P : Program} {Q : Post} {a : Act} {w : World}
theorem ret_cell {fn : Func} {R : Ending → World → Prop} {n : Nat} {env : Env} {o : Orig} {S : Stab} {rs : List Res} (t ty j b : Nat) (e : TypeId) (vs : List Value) (us : Array Value) (ha : EnvOk n a env) (H : Fr o w S rs) (hj : rs[j]? = some (.box b e vs)) (k : R (.returned (.agg us)) w)
   (hu : vs.toArray = us := by kernel_rfl) (hr : fn.results = #[.cell t ty] := by kernel_rfl) (hv : getOp env [] (.tmp t) = some (.pointer (some ⟨b, 0, none⟩)) := by kernel_rfl) (ht : ∃ fs, P.underlying ty = some (.struct fs)) (hsz : P.cellsOf ty = vs.length := by kernel_rfl) (hi : (P.info? ty).isSome = true := by kernel_rfl) : bodyPost P fn R .ret a w := by
 have hnil : chOk a [] := fun l hl => by simp at hl
 refine bodyPost_ret (v := .agg us) ?_ ha.2.1 k
 have h1 := getOp_ok ha hnil _ _ hv
 simp only [Act.eval, Array.getD_eq_getD_getElem?] at h1
 obtain ⟨fs, ht⟩ := ht
 have hb := box_row H j hj 0 (P.cellsOf ty) (us := us) (by rw [← hu, hsz]; simp) (by rw [List.drop_zero, hsz, List.take_length]; exact hu)
 have hl := evOp_len (P := P) (C := On w) (us := us) w ⟨rfl, rfl, rfl, Nat.le_refl _, fun _ _ => rfl⟩ ht ⟨fs, rfl⟩ hi hb
 have hl' : (loadVar ty ⟨b, 0, none⟩).run P w = .ok (.agg us) w := by simpa [Instr.loadAt, Instr.sureAddr] using hl
 simp [results, hr, h1, asAddr, hl']
end
theorem reslice {P : Program} {α : Type} [Data α] {S : Stab} {w : World} {v : Value} {l0 : List α} (h : Rd S w v l0) (lo hi : Nat) (h1 : lo ≤ hi) (h2 : hi ≤ l0.length) (t : TypeId) (ht : P.underlying t = some (.slice (P.elem t))) (hs : P.cellsOf (P.elem t) = Data.size α) (hi0 : (P.info? (P.elem t)).isSome = true) :
   ∃ u, (∀ (k k' : IntKind) (w' : World), (Instr.sliceAt t v (some (.int k lo)) (some (.int k' hi)) none).run P w' = .ok u w') ∧ (hi = l0.length → ∀ (k : IntKind) (w' : World), (Instr.sliceAt t v (some (.int k lo)) none none).run P w' = .ok u w') ∧ Rd S w u ((l0.drop lo).take (hi - lo)) := by
 obtain ⟨p, c, rfl, hc, hm, h3⟩ := rd_slice h
 obtain ⟨inf, hinf⟩ := Option.isSome_iff_exists.1 hi0
 have hsz : inf.size = Data.size α := by rw [← hs]; simp [Program.cellsOf, hinf]
 have hlen : ((l0.drop lo).take (hi - lo)).length = hi - lo := by rw [List.length_take, List.length_drop]; omega
 refine ⟨sliced p lo hi c (Data.size α), fun k k' w' => ?_, fun he k w' => ?_, slice_rd ?_⟩
 · rw [run_sliceAt_slice w' t _ _ _ _ ht, run_slice_lh w' t p l0.length c ht k k' lo hi (by omega) (by omega) (by omega), run_sizeOf w' hinf, hs]
   rfl
 · rw [run_sliceAt_slice w' t _ _ _ _ ht, run_slice_l w' t p l0.length c ht k lo (by omega) (by omega), run_sizeOf w' hinf, hs, he]
   rfl
 refine ⟨_, c - lo, by rw [hlen]; rfl, by rw [hlen]; omega, by omega, ?_⟩
 by_cases he : hi = lo
 · left; exact List.eq_nil_of_length_eq_zero (by rw [hlen]; omega)
 right
 rcases h3 with rfl | ⟨g, off, cur, ty, fz, rfl, hg, hw, hcell⟩
 · simp at h2; omega
 refine ⟨g, off + lo * Data.size α, cur, ty, fz, ?_, hg, hw, fun i hi' => ?_⟩
 · rw [if_neg (by omega)]
   simp [Addr.add]
 rw [hlen] at hi'
 obtain ⟨cs, hr, hj⟩ := hcell (lo + i) (by omega)
 refine ⟨cs, ?_, fun j hj' => ?_⟩
 · rw [List.getElem_take, List.getElem_drop]; exact hr
 have := hj j hj'
 rw [Nat.add_mul] at this
 rw [show off + lo * Data.size α + i * Data.size α + j = off + (lo * Data.size α + i * Data.size α) + j by omega]
 exact this
theorem two_rd {α β : Type} [Data α] [Data β] {S : Stab} {w : World} {v : Value} {x : List α × List β} (h : Rd S w v x) : ∃ a b, v = .agg #[a, b] ∧ Rd S w a x.1 ∧ Rd S w b x.2 := by
 obtain ⟨cs, ⟨c1, c2, rfl, ⟨a, rfl, ha⟩, ⟨b, rfl, hb⟩⟩, rfl⟩ := h
 exact ⟨a, b, rfl, slice_rd ha, slice_rd hb⟩
theorem rd_two {α β : Type} [Data α] [Data β] {S : Stab} {w : World} {a b : Value} {x : List α × List β} (ha : Rd S w a x.1) (hb : Rd S w b x.2) : Rd S w (.agg #[a, b]) x :=
 ⟨[a, b], ⟨[a], [b], rfl, ⟨a, rfl, rd_slice ha⟩, ⟨b, rfl, rd_slice hb⟩⟩, rfl⟩
theorem rd_one {α : Type} [Data α] {S : Stab} {w : World} {v : Value} {l : List α} (h : Rd S w v l) : v.oneCell' = true := by
 obtain ⟨cs, ⟨u, rfl, p, c, rfl, _⟩, rfl⟩ := h
 rfl
theorem one_cells {v : Value} (h : v.oneCell' = true) : v.cells.toList = [v] := by
 cases v <;> first | rfl | (simp [Value.oneCell'] at h; done)
theorem rd_form {α : Type} [Data α] {S : Stab} {w : World} {v : Value} {l : List α} (h : Rd S w v l) : ∃ p n c, v = .slice p n c := by
 obtain ⟨cs, ⟨u, rfl, p, c, rfl, _⟩, rfl⟩ := h
 exact ⟨_, _, _, rfl⟩
theorem rd_nil {α : Type} [Data α] {S : Stab} {w : World} : Rd S w (.slice none 0 0) ([] : List α) :=
 slice_rd ⟨none, 0, rfl, by simp, by simp [maxLen], .inl rfl⟩
theorem Fr.lit {α : Type} [Data α] {w0 : Orig} {w : World} {S : Stab} {rs : List Res} (h : Fr w0 w S rs) (j : Nat) {b : Nat} {e : TypeId} {cs : List Value} (hj : rs[j]? = some (.box b e cs)) {l : List α} (hrd : RowRd S w cs l) {n : Nat} (hn : l.length = n) (hm : n ≤ maxLen) : Rd (· < w.heap.size) w (.slice (some ⟨b, 0, none⟩) n n) l := by
 subst hn
 have hb : w.heap[b]? = some (.cells cs.toArray e (0, 0)) := h.ok _ (List.mem_of_getElem? hj)
 refine slice_rd ⟨_, _, rfl, Nat.le_refl _, hm, .inr ⟨b, 0, cs.toArray, e, (0, 0), rfl, (Array.getElem?_eq_some_iff.1 hb).1, hb, fun i hi => ?_⟩⟩
 refine ⟨_, Data.up h.inb (hrd.2 i hi), fun q hq => ?_⟩
 rw [List.getElem?_take, if_pos hq, List.getElem?_drop]
 simp
section
variable {P : Program} {Q : Post} {a : Act} {w : World}
end
end Go.Proofs.Ytahonnlgkmimlaa
namespace Go.Proofs.Ytahonnlgkmimlaa
open Go.ChangeShapes Go.WideShapes Go.ChangeAt Go.RowKit
def Opens (P : Program) (t : TypeId) {α : Type} [Data α] (ok : α → Prop) : Prop :=
 ∀ {H : Type} {enc : TypeId × Value → H} {w : World} {base : Nat} {sp : Nat → Bool} {hd : Bool} {fuel : Nat} {cs : List Value} {x : DataW H × List MemPlace},
   DataW.trod enc P w base sp hd fuel t cs = some x → ∃ a : α, Data.rd (· < w.heap.size) w cs a ∧ ok a
def In64 (n : Int) : Prop := -9223372036854775808 ≤ n ∧ n ≤ 9223372036854775807
theorem opens_int {P : Program} {t : TypeId} (ht : P.underlying t = some (.int .i64)) : Opens P t In64 := by
 intro H enc w base sp hd fuel cs x h
 obtain ⟨n, rfl, _, hw⟩ := DataW.trod_int ht h
 exact ⟨n, rfl, wf_i64 hw⟩
theorem opens_pair {P : Program} {t : TypeId} {f0 f1 : Field} {α β : Type} [Data α] [Data β] {ok0 : α → Prop} {ok1 : β → Prop} (ht : P.underlying t = some (.struct #[f0, f1])) (h0 : Opens P f0.type ok0) (h1 : Opens P f1.type ok1)
   (o0 : f0.offset = 0) (o1 : f1.offset = Data.size α) (c0 : P.cellsOf f0.type = Data.size α) (c1 : P.cellsOf f1.type = Data.size β) (ct : P.cellsOf t = Data.size α + Data.size β) : Opens P t (α := α × β) fun x => ok0 x.1 ∧ ok1 x.2 := by
 intro H enc w base sp hd fuel cs x h
 obtain ⟨xs, n, _, _, hcs, hxs, hf⟩ := DataW.trod_struct ht h
 match xs, hxs with
 | [y0, y1], _ =>
   have g0 := hf 0 f0 rfl
   have g1 := hf 1 f1 rfl
   rw [o0, c0, List.drop_zero] at g0
   rw [o1, c1] at g1
   obtain ⟨a, ra, ka⟩ := h0 (x := y0) g0
   obtain ⟨b, rb, kb⟩ := h1 (x := y1) g1
   refine ⟨(a, b), ⟨_, _, ?_, ra, rb⟩, ka, kb⟩
   have e1 : (cs.drop (Data.size α)).take (Data.size β) = cs.drop (Data.size α) := List.take_of_length_le (by rw [List.length_drop, hcs, ct]; omega)
   rw [e1, List.take_append_drop]
theorem opens_slice {P : Program} {t e : TypeId} {α : Type} [Data α] {ok : α → Prop} (ht : P.underlying t = some (.slice e)) (h : Opens P e ok) (hc : P.cellsOf e = Data.size α) (hp : 0 < Data.size α) : Opens P t (α := List α) fun l => ∀ a ∈ l, ok a := by
 intro H enc w base sp hd fuel cs x hx
 rcases Go.Deep.open_slice ht hx with ⟨rfl, _⟩ | ⟨a, len, cap, m, n, D, Pl, rfl, hb, hl, hm, hmm, rfl, hel⟩
 · exact ⟨[], ⟨_, rfl, none, 0, rfl, by simp, by simp [maxLen], .inl rfl⟩, by simp⟩
 have hlm : len ≤ m := by rw [hmm]; split <;> omega
 have each : ∀ i : Fin len, ∃ y : α, ∃ cs' : List Value, (∀ j, j < Data.size α → w.cell? ((a.add (i.val * Data.size α)).add j) = cs'[j]?) ∧ cs'.length = Data.size α ∧ Data.rd (· < w.heap.size) w cs' y ∧ ok y := by
   intro i
   obtain ⟨cs', h1, h2⟩ := hel i.val (by omega)
   rw [hc] at h1
   obtain ⟨_, hlen, hcell⟩ := World.cells?_some h1
   obtain ⟨y, ry, ky⟩ := h h2
   exact ⟨y, cs', hcell, hlen, ry, ky⟩
 refine ⟨List.ofFn fun i => Classical.choose (each i), ⟨_, rfl, some a, cap, by rw [List.length_ofFn], by rw [List.length_ofFn]; exact hl, hm, ?_⟩, fun y hy => ?_⟩
 · by_cases h0 : len = 0
   · left; subst h0; rfl
   right
   obtain ⟨cs0, k1, k2, _⟩ := Classical.choose_spec (each ⟨0, by omega⟩)
   have k0 := k1 0 hp
   rw [Go.Deep.add_add, List.getElem?_eq_getElem (by omega)] at k0
   have e0 : a.add (0 * Data.size α + 0) = a := by simp [Addr.add]
   simp only [e0] at k0
   obtain ⟨g, off, spot⟩ := a
   unfold World.cell? at k0
   simp only at k0
   split at k0
   · rename_i cur ty fz hheap
     split at k0
     · cases k0
     rename_i hs
     have hsp : spot = none := by cases spot <;> simp_all
     subst hsp
     refine ⟨g, off, cur, ty, fz, rfl, (Array.getElem?_eq_some_iff.1 hheap).1, hheap, fun i hi => ?_⟩
     rw [List.length_ofFn] at hi
     obtain ⟨cs', k1, k2, k3, _⟩ := Classical.choose_spec (each ⟨i, hi⟩)
     refine ⟨cs', by rw [List.getElem_ofFn]; exact k3, fun j hj => ?_⟩
     rw [← k1 j hj, Go.Deep.add_add]
     have hadd : (⟨g, off, none⟩ : Addr).add (i * Data.size α + j) = ⟨g, off + (i * Data.size α + j), none⟩ := by unfold Addr.add; split <;> simp_all
     rw [hadd, cell_of_row w g _ cur ty fz hheap, Nat.add_assoc]
   cases k0
 obtain ⟨i, rfl⟩ := List.mem_ofFn.1 hy
 obtain ⟨cs', _, _, _, k4⟩ := Classical.choose_spec (each i)
 exact k4
theorem arg_struct {P : Program} {t : TypeId} {fs : Array Field} {α : Type} [Data α] {ok : α → Prop} (ho : Opens P t ok) (ht : P.underlying t = some (.struct fs)) {H : Type} {enc : TypeId × Value → H} {W : World} {b0 : Nat} {sp : Nat → Bool} {hd : Bool} {v : Value} {d : DataW H} {ps : List MemPlace}
   (hval : Value.okWide P W .any b0 t v) (h : DataW.Trod enc P W 0 sp hd t v d ps) : ∃ (cs : List Value) (a : α), v = .agg cs.toArray ∧ Data.rd (· < W.heap.size) W cs a ∧ ok a := by
 obtain ⟨cs, rfl, _⟩ := okWide_struct ht hval
 obtain ⟨fuel, hx⟩ := h
 obtain ⟨a, ha, hk⟩ := ho hx
 exact ⟨cs.toList, a, rfl, ha, hk⟩
end Go.Proofs.Ytahonnlgkmimlaa
namespace Go.Proofs.Ytahonnlgkmimlaa
open Go.ChangeShapes Go.WideShapes Go.ChangeAt Go.RowKit
theorem arg_u8 {P : Program} {t : TypeId} (ht : P.underlying t = some (.int .u8)) {H : Type} {enc : TypeId × Value → H} {W : World} {b0 : Nat} {sp : Nat → Bool} {hd : Bool} {v : Value} {d : DataW H} {ps : List MemPlace}
   (hval : Value.okWide P W .any b0 t v) (h : DataW.Trod enc P W 0 sp hd t v d ps) : ∃ n : Int, v = .int .u8 n ∧ 0 ≤ n ∧ n ≤ 255 := by
 obtain ⟨n, rfl⟩ := okWide_int ht hval
 obtain ⟨fuel, hx⟩ := h
 obtain ⟨m, h1, _, hw⟩ := DataW.trod_int ht hx
 simp [Value.cells] at h1
 subst h1
 exact ⟨n, rfl, wf_u8 hw⟩
section
variable {H : Type} {enc : TypeId × Value → H} {P : Program} {w : World} {base : Nat} {spare : Nat → Bool} {held : Bool}
end
def stripK (K : List (Nat × Bool)) (env : Env) : List (Nat × Bool) → Option (List (Nat × Bool)) × Prop
 | [] => (some [], True)
 | (j, b) :: r => match K.lookup j with
   | some b' => match look env j with
     | some ⟨_, [], .bool c⟩ => match b' == b with
       | true => ((stripK K env r).1, c = b ∧ (stripK K env r).2)
       | false => (none, c = b')
     | _ => (none, False)
   | none => ((stripK K env r).1.map ((j, b) :: ·), (stripK K env r).2)
theorem lit_of {n : Nat} {a : Act} {env : Env} (ha : EnvOk n a env) {j s : Nat} {c : Bool} (h : look env j = some ⟨s, [], .bool c⟩) : litOk a (j, c) := by
 obtain ⟨h1, h2⟩ := look_ok h
 simp only at h2; subst h2
 exact (ha.2.2 _ h1).1 (fun l hl => by simp at hl)
theorem stripK_ok {K : List (Nat × Bool)} {n : Nat} {a : Act} {env : Env} (ha : EnvOk n a env) : ∀ (C : List (Nat × Bool)), (stripK K env C).2 →
   (∀ C', (stripK K env C).1 = some C' → (chOk a C ↔ chOk a C')) ∧ ((stripK K env C).1 = none → ¬ chOk a C)
 | [], _ => ⟨fun C' h => by simp only [stripK, Option.some.injEq] at h; subst h; exact Iff.rfl, fun h => by simp [stripK] at h⟩
 | (j, b) :: r, h => by
   have hcons : ∀ D, chOk a ((j, b) :: D) ↔ litOk a (j, b) ∧ chOk a D := fun D =>
     ⟨fun q => ⟨q _ List.mem_cons_self, fun l hl => q l (List.mem_cons_of_mem _ hl)⟩, fun q l hl => by
       rcases List.mem_cons.1 hl with rfl | hl
       · exact q.1
       exact q.2 l hl⟩
   cases hl : K.lookup j with
   | none =>
     simp only [stripK, hl] at h ⊢
     obtain ⟨i1, i2⟩ := stripK_ok ha r h
     constructor
     · intro C' hC
       obtain ⟨D, hD, rfl⟩ := Option.map_eq_some_iff.1 hC
       rw [hcons, hcons, i1 D hD]
     intro hC hch
     exact i2 (Option.map_eq_none_iff.1 hC) ((hcons _).1 hch).2
   | some b' =>
     rcases hlk : look env j with _ | ⟨s, _ | ⟨l0, lr⟩, v⟩
     · simp [stripK, hl, hlk] at h
     · cases v with
       | bool c =>
         have hlit := lit_of ha hlk
         simp only [stripK, hl, hlk] at h ⊢
         cases hb : b' == b with
         | true =>
           simp only [hb] at h ⊢
           obtain ⟨rfl, h2⟩ := h
           obtain ⟨i1, i2⟩ := stripK_ok ha r h2
           exact ⟨fun C' hC => by rw [hcons, ← i1 C' hC]; exact ⟨fun q => q.2, fun q => ⟨hlit, q⟩⟩, fun hC hch => i2 hC ((hcons _).1 hch).2⟩
         | false =>
           simp only [hb] at h ⊢
           subst h
           refine ⟨fun C' hC => (by cases hC), fun _ hch => ?_⟩
           have := ((hcons _).1 hch).1
           unfold litOk at this hlit
           rw [hlit] at this
           simp at this
           rw [this] at hb
           simp at hb
       | _ => simp [stripK, hl, hlk] at h
     simp [stripK, hl, hlk] at h
def evPickK (K : List (Nat × Bool)) (env : Env) (C : List (Nat × Bool)) (c x y : Operand) : Option (Value × Prop) :=
 match c with
 | .tmp t => match K.lookup t with
   | some b => match look env t with
     | some ⟨_, [], .bool cb⟩ => (getOp env C (bif b then x else y)).map fun v => (v, cb = b)
     | _ => none
   | none => (evPick env C c x y).map fun v => (v, True)
 | _ => none
def evStepK (K : List (Nat × Bool)) (P : Program) (W : World → Prop) (n : Nat) (ops : Array Oper) (env : Env) (orc : List (Nat × Value)) (o : Oper) : Option (Env × Prop) :=
 match chainOf ops env o, o.dst with
 | some C, some d =>
   if d < n then
     match stripK K env C with
     | (none, q) => if C.all (fun l => l.1 != d) = true then some (⟨d, C, undef⟩ :: env.filter (fun e => e.slot != d && e.ch.all (fun l => l.1 != d)), q) else none
     | (some C', q) => if C'.all (fun l => l.1 != d) = true then
       match (match o.op with
         | .pick c x y => evPickK K env C' c x y
         | op => evOp P W (getOp env C') op (orc.lookup d)) with
       | some (v, p) => some (⟨d, C', v⟩ :: env.filter (fun e => e.slot != d && e.ch.all (fun l => l.1 != d)), q ∧ impl env C' p)
       | none => none
       else none
   else none
 | _, _ => none
def evRunK (K : List (Nat × Bool)) (P : Program) (W : World → Prop) (n : Nat) (ops : Array Oper) (orc : List (Nat × Value)) : List Oper → Env → Option (Env × Prop)
 | [], env => some (env, True)
 | o :: r, env => match evStepK K P W n ops env orc o with
   | some (env', p) => match evRunK K P W n ops orc r env' with
     | some (env'', q) => some (env'', p ∧ q)
     | none => none
   | none => none
theorem evPickK_ok {K : List (Nat × Bool)} {P : Program} {W : World → Prop} {n : Nat} {a : Act} {env : Env} {C : List (Nat × Bool)} {o : Oper} {c x y : Operand} {v : Value} {p : Prop} (ha : EnvOk n a env) (hC : chOk a C) (ho : o.op = .pick c x y) (h : evPickK K env C c x y = some (v, p)) (hp : p) (w : World) : Oper.quietUpon P W w v ((execOp a.eval o).run P w) := by
 cases c with
 | tmp t =>
   simp only [evPickK] at h
   split at h
   · rename_i b hb
     split at h
     · rename_i s cb hlk
       obtain ⟨u, hu, e⟩ := Option.map_eq_some_iff.1 h
       simp only [Prod.mk.injEq] at e
       obtain ⟨rfl, rfl⟩ := e
       subst hp
       have hlit := lit_of ha hlk
       have ec : a.eval (.tmp t) = .bool cb := by
         unfold litOk at hlit
         simp only [Act.eval, Array.getD_eq_getD_getElem?, hlit, Option.getD_some]
       have ev := getOp_ok ha hC _ _ hu
       simp only [execOp, ho, ec, asBool, Sem.run_bind, Sem.run_pure, Result.andThen_ok]
       cases cb with
       | true => simp only [cond_true] at ev; simp only [if_true, ev]; exact ⟨rfl, rfl⟩
       | false => simp only [cond_false] at ev; simp only [Bool.false_eq_true, if_false, ev]; exact ⟨rfl, rfl⟩
     cases h
   obtain ⟨u, hu, e⟩ := Option.map_eq_some_iff.1 h
   simp only [Prod.mk.injEq] at e
   obtain ⟨rfl, rfl⟩ := e
   exact evPick_ok ha hC ho hu w
 | _ => simp [evPickK] at h
theorem evStepK_ok {K : List (Nat × Bool)} {P : Program} {W : World → Prop} {n : Nat} {ops : Array Oper} {a : Act} {env env' : Env} {orc : List (Nat × Value)} {o : Oper} {p : Prop} (ha : EnvOk n a env)
   (h : evStepK K P W n ops env orc o = some (env', p)) (hp : p) {Q : Act → Prop} (hQ : ∀ a', EnvOk n a' env' → Q a') :
   if Region.wanted o (yielded ops a.tmps) then o.quiet P a W Q else Q (a.put o.dst undef) := by
 unfold evStepK at h
 split at h
 · rename_i C d hC hd
   have hw := wanted_iff ha hC
   split at h
   · rename_i hdn
     split at h
     · rename_i q hs
       split at h
       · rename_i hall
         cases h
         have hst := stripK_ok (K := K) ha C (by rw [hs]; exact hp)
         have hn := hst.2 (by rw [hs])
         rw [if_neg (fun hh => hn (hw.1 hh)), hd]
         exact hQ _ (envOk_put ha hdn hall ⟨fun _ => rfl, fun _ => rfl⟩)
       cases h
     rename_i C' q hs
     split at h
     · rename_i hall
       split at h
       · rename_i v p' hv
         cases h
         have hst := (stripK_ok (K := K) ha C (by rw [hs]; exact hp.1)).1 C' (by rw [hs])
         by_cases hch : chOk a C'
         · rw [if_pos (hw.2 (hst.2 hch))]
           have hp' := impl_elim ha hp.2 hch
           refine ⟨v, fun w hw => ?_, ?_⟩
           · unfold Oper.quietAt
             split at hv
             · rename_i c x y ho
               exact evPickK_ok ha hch ho hv hp' w
             exact evOp_ok (fun x u hx => getOp_ok ha hch x u hx) hv hp' w hw
           rw [hd]
           exact hQ _ (envOk_put ha hdn hall ⟨fun _ => rfl, fun hn => (hn hch).elim⟩)
         rw [if_neg (fun hh => hch (hst.1 (hw.1 hh))), hd]
         exact hQ _ (envOk_put ha hdn hall ⟨fun hh => (hch hh).elim, fun _ => rfl⟩)
       cases h
     cases h
   cases h
 cases h
theorem evRunK_ok {K : List (Nat × Bool)} {P : Program} {W : World → Prop} {n : Nat} {ops : Array Oper} {orc : List (Nat × Value)} : ∀ {l : List Oper} {a : Act} {env env' : Env} {p : Prop} (ha : EnvOk n a env)
   (h : evRunK K P W n ops orc l env = some (env', p)) (hp : p) {Q : Act → Prop} (hQ : ∀ a', EnvOk n a' env' → Q a'), wpQuiet P ops W Q l a
 | [], a, env, env', p, ha, h, hp, Q, hQ => by
   simp only [evRunK, Option.some.injEq, Prod.mk.injEq] at h
   obtain ⟨rfl, rfl⟩ := h
   exact hQ a ha
 | o :: r, a, env, env', p, ha, h, hp, Q, hQ => by
   simp only [evRunK] at h
   split at h
   · rename_i env1 p1 h1
     split at h
     · rename_i env2 q h2
       cases h
       exact evStepK_ok ha h1 hp.1 (fun a' ha' => evRunK_ok ha' h2 hp.2 hQ)
     cases h
   cases h
abbrev RunEqK (K : List (Nat × Bool)) (P : Program) (W : World → Prop) (n : Nat) (ops : Array Oper) (orc : List (Nat × Value)) (l : List Oper) (env : Env) (keep : List (Nat × Value)) (pr : Prop) : Prop :=
 (evRunK K P W n ops orc l env).map (fun r => ((keep.map fun x => look r.1 x.1), r.2)) = some ((keep.map fun x => some ⟨x.1, [], x.2⟩), pr)
theorem runOkK_of {K : List (Nat × Bool)} {P : Program} {W : World → Prop} {n : Nat} {ops : Array Oper} {orc : List (Nat × Value)} {l : List Oper} {env : Env} {keep : List (Nat × Value)} {pr : Prop}
   (h : RunEqK K P W n ops orc l env keep pr) : ∃ env', evRunK K P W n ops orc l env = some (env', pr) ∧ ∀ x ∈ keep, look env' x.1 = some ⟨x.1, [], x.2⟩ := by
 obtain ⟨⟨env', p⟩, h1, h2⟩ := Option.map_eq_some_iff.1 h
 simp only [Prod.mk.injEq] at h2
 obtain ⟨h2, rfl⟩ := h2
 exact ⟨env', h1, looks_of h2⟩
section
variable {P : Program} {Q : Exit → Act → World → Prop} {a : Act} {w : World}
theorem q_listK {ops : Array Oper} {n : Nat} {env : Env} {w0 : Orig} {S : Stab} {rs : List Res} (K : List (Nat × Bool)) (i m : Nat) (orc : List (Nat × Value)) (keep : List (Nat × Value)) (pr : Prop) (ha : EnvOk n a env) (H : Fr w0 w S rs) (hp : pr)
   (k : ∀ a' w', EnvOk n a' (keepEnv keep) → Fr w0 w' S rs → Below w.heap.size w w' → wpList P ops Q (ops.toList.drop (i + m)) a' w')
   (h : RunEqK K P (On w) n ops orc ((ops.toList.drop i).take m) env keep pr := by delta RunEqK; kernel_rfl) : wpList P ops Q (ops.toList.drop i) a w := by
 obtain ⟨env', h1, hk⟩ := runOkK_of h
 have := wpList_quiet (P := P) (Q := Q) (rest := ops.toList.drop (i + m)) (K := fun a' => EnvOk n a' (keepEnv keep)) ((ops.toList.drop i).take m) a w (On.self w) (evRunK_ok ha h1 hp fun a' ha' => keep_ok keep ha' hk) (fun a' w' hw' ha' => k a' w' ha' (H.on hw') hw')
 rw [← List.drop_drop, List.take_append_drop] at this
 exact this
abbrev MixEqK (K : List (Nat × Bool)) (P : Program) (D : World → Prop) (m : Nat) (ops : Array Oper) (hd is : List Nat) (listed listed' : Array Bool) (orc : List (Nat × Value)) (env : Env) (keep : List (Nat × Value)) (pr : Prop) : Prop :=
 ((takeB ops hd is listed, tailB ops hd, Region.noSelect ops, marks listed is), (evRunK K P D m ops orc (is.filterMap fun i => ops[i]?) env).map (fun r => ((keep.map fun x => look r.1 x.1), r.2))) = ((true, true, true, listed'), some ((keep.map fun x => some ⟨x.1, [], x.2⟩), pr))
abbrev RunEqE (K : List (Nat × Bool)) (P : Program) (W : World → Prop) (n : Nat) (ops : Array Oper) (orc : List (Nat × Value)) (l : List Oper) (env keep : Env) (pr : Prop) : Prop :=
 (evRunK K P W n ops orc l env).map (fun r => ((keep.map fun x => look r.1 x.slot), r.2)) = some (keep.map some, pr)
abbrev MixEqE (K : List (Nat × Bool)) (P : Program) (D : World → Prop) (m : Nat) (ops : Array Oper) (hd is : List Nat) (listed listed' : Array Bool) (orc : List (Nat × Value)) (env keep : Env) (pr : Prop) : Prop :=
 ((takeB ops hd is listed, tailB ops hd, Region.noSelect ops, marks listed is), (evRunK K P D m ops orc (is.filterMap fun i => ops[i]?) env).map (fun r => ((keep.map fun x => look r.1 x.slot), r.2))) = ((true, true, true, listed'), some (keep.map some, pr))
def evGuard (K : List (Nat × Bool)) (env : Env) (ops : Array Oper) (i : Nat) : Option (Option (List (Nat × Bool)) × Prop) :=
 match ops[i]? with
 | some o => match chainOf ops env o with
   | some C => some (stripK K env C)
   | none => none
 | none => none
def bare (ops : Array Oper) : Array Oper := (ops.toList.map fun o => { o with guard := none }).toArray
theorem op_on {ops : Array Oper} {N : Act → World → Prop} {n : Nat} {env : Env} {i : Nat} (K : List (Nat × Bool)) (pr : Prop) (ha : EnvOk n a env) (hp : pr) (h : wpOp P (bare ops) Q i N a w) (hg : evGuard K env ops i = some (some [], pr) := by kernel_rfl) : wpOp P ops Q i N a w := by
 unfold evGuard at hg
 split at hg
 · rename_i o ho
   split at hg
   · rename_i C hC
     have hs := Option.some.inj hg
     have hst := (stripK_ok (K := K) ha C (by rw [hs]; exact hp)).1 [] (by rw [hs])
     have hw := (wanted_iff ha hC).2 (hst.2 (fun l hl => by simp at hl))
     have ho' : (bare ops)[i]? = some { o with guard := none } := by
       have : ops.toList[i]? = some o := by simpa using ho
       simp [bare, this]
     unfold wpOp at h ⊢
     rw [ho'] at h
     rw [ho]
     simp only at h ⊢
     rw [if_pos hw]
     first | exact h | (split at h; exact h; rename_i hh; exact (hh rfl).elim) | simpa [Region.wanted] using h
   cases hg
 cases hg
theorem m_many {ops : Array Oper} {D : World → Prop} {hd : List Nat} {n : Nat} {listed : Array Bool} (is : List Nat) (h : ∀ i ∈ is, wpOp P ops (Calm Q) i (fun a' w' => (i ∈ hd → D w') ∧ Mix P ops (Calm Q) D hd n (listed.setIfInBounds i true) a' w') a w)
   (hr : Region.ready .any ops listed = is := by kernel_rfl) (hne : is.isEmpty = false := by rfl) : Mix P ops (Calm Q) D hd (n + 1) listed a w := by
 subst hr
 exact ⟨fun e => (by rw [e] at hne; cases hne), h⟩
theorem mix_gen {ops : Array Oper} {D : World → Prop} {hd : List Nat} {n : Nat} {listed : Array Bool} (k : ∀ M : Nat → Array Bool → Act → World → Prop, (∀ n l a w, M n l a w ↔ Mix P ops (Calm Q) D hd n l a w) → M n listed a w) : Mix P ops (Calm Q) D hd n listed a w :=
 k (fun n l a w => Mix P ops (Calm Q) D hd n l a w) (fun _ _ _ _ => Iff.rfl)
theorem Fr.sink {w0 : Orig} {w : World} {S : Stab} {rs : List Res} (h : Fr w0 w S rs) (k p : Nat) : Fr w0 w S ((rs.drop k).take p ++ (rs.take k ++ (rs.drop k).drop p)) := by
 refine h.perm ?_
 have e : rs = rs.take k ++ ((rs.drop k).take p ++ (rs.drop k).drop p) := by rw [List.take_append_drop, List.take_append_drop]
 conv => lhs; rw [e]
 exact List.perm_append_comm_assoc _ _ _
end
def arrV (n : Int) (f : Int → Value) : List Value := (List.range n.toNat).map fun j : Nat => f (j : Int)
theorem arr_len (n : Int) (f : Int → Value) : (arrV n f).length = n.toNat := by simp [arrV]
theorem arr_get {n i : Int} {f : Int → Value} (h0 : 0 ≤ i) (h1 : i < n) : (arrV n f)[i.toNat]? = some (f i) := by
 unfold arrV
 rw [List.getElem?_map, List.getElem?_range (by omega)]
 simp only [Option.map_some]
 congr 2
 omega
theorem arr_set {n i : Int} {f f' : Int → Value} {u : Value} (h0 : 0 ≤ i) (h1 : i < n) (hu : f' i = u) (hf : ∀ j, j ≠ i → f' j = f j) :
   (arrV n f).take (0 + i.toNat * 1) ++ [u] ++ (arrV n f).drop (0 + i.toNat * 1 + [u].length) = arrV n f' := by
 apply List.ext_getElem?
 intro k
 rw [show 0 + i.toNat * 1 = i.toNat by omega]
 have hlen := arr_len n f
 have hg : ∀ (g : Int → Value) (q : Nat), (arrV n g)[q]? = if q < n.toNat then some (g (q : Int)) else none := by
   intro g q
   unfold arrV
   rw [List.getElem?_map]
   by_cases hq : q < n.toNat
   · rw [List.getElem?_range hq, if_pos hq]; rfl
   rw [List.getElem?_eq_none (by simp; omega), if_neg hq]; rfl
 rw [hg f']
 by_cases hk : k < i.toNat
 · rw [List.append_assoc, List.getElem?_append_left (by rw [List.length_take]; omega), List.getElem?_take, if_pos hk, hg, if_pos (by omega), if_pos (by omega), hf _ (by omega)]
 by_cases he : k = i.toNat
 · subst he
   rw [List.append_assoc, List.getElem?_append_right (by rw [List.length_take]; omega), List.length_take]
   rw [show i.toNat - min i.toNat (arrV n f).length = 0 by omega]
   rw [if_pos (by omega)]
   simp only [List.singleton_append, List.getElem?_cons_zero]
   rw [← hu]; congr 2; omega
 rw [List.getElem?_append_right (by simp only [List.length_append, List.length_take, List.length_cons, List.length_nil]; omega), List.getElem?_drop]
 simp only [List.length_append, List.length_take, List.length_cons, List.length_nil]
 rw [show i.toNat + (0 + 1) + (k - (min i.toNat (arrV n f).length + (0 + 1))) = k by omega, hg]
 by_cases hkn : k < n.toNat
 · rw [if_pos hkn, if_pos hkn, hf _ (by omega)]
 rw [if_neg hkn, if_neg hkn]
theorem arr_room {n i : Int} {f : Int → Value} {u : Value} (h0 : 0 ≤ i) (h1 : i < n) : 0 + i.toNat * 1 + [u].length ≤ (arrV n f).length := by
 rw [arr_len]; simp only [List.length_cons, List.length_nil]; omega
theorem arr_cell {o : Orig} {w : World} {S : Stab} {rs : List Res} (H : Fr o w S rs) (j : Nat) {b : Nat} {t : TypeId} {n i : Int} {f : Int → Value} (hj : rs[j]? = some (.box b t (arrV n f))) (h0 : 0 ≤ i) (h1 : i < n) : CellOk (On w) b (0 + i.toNat * 1) (f i) :=
 box_cell H j hj _ (by rw [show 0 + i.toNat * 1 = i.toNat by omega]; exact arr_get h0 h1)
theorem arr_cellC {C : World → Prop} {b : Nat} {t : TypeId} {n i : Int} {f : Int → Value} (hb : ∀ w', C w' → w'.heap[b]? = some (.cells (arrV n f).toArray t (0, 0))) (h0 : 0 ≤ i) (h1 : i < n) : CellOk C b (0 + i.toNat * 1) (f i) :=
 box_cellC hb _ (by rw [show 0 + i.toNat * 1 = i.toNat by omega]; exact arr_get h0 h1)
theorem arr_idx {b : Nat} {n i : Int} {c : Nat} (h0 : 0 ≤ i) (h1 : i < n) : IdxOk (.slice (some ⟨b, 0, none⟩) n.toNat c) i := ⟨b, 0, _, c, rfl, h0, by omega⟩
theorem arr_len_ok {b : Nat} {n : Int} {c : Nat} (h0 : 0 ≤ n) : LenOk (.slice (some ⟨b, 0, none⟩) n.toNat c) n := ⟨_, _, _, rfl, by omega⟩
theorem made_arr {z : Value} {zv : Value} (hz : z.cells = #[zv]) (n : Nat) : madeCells z.cells n = (arrV (n : Int) fun _ => zv).toArray := by
 rw [hz]
 unfold madeCells arrV
 apply Array.ext'
 simp only [Array.toList_map, Array.toList_range, Int.toNat_natCast]
 refine List.map_congr_left fun j _ => ?_
 simp [Nat.mod_one]
theorem Fr.getS {α : Type} [Data α] {o : Orig} {w : World} {S : Stab} {rs : List Res} (h : Fr o w S rs) (j : Nat) {v : Value} {a : α} (hj : rs[j]? = some (.ro v a)) : Rd S w v a := h.ok _ (List.mem_of_getElem? hj)
theorem Fr.keepsS {o : Orig} {w : World} {S : Stab} {rs : List Res} (H : Fr o w S rs) : ∀ w', On w w' → Keeps S w w' := fun w' hw' k hk => hw'.block k (H.inb k hk)
theorem rd_on {α : Type} [Data α] {w w' : World} {v : Value} {a : α} (h : Rd (· < w.heap.size) w v a) (hG : Below w.heap.size w w') : Rd (· < w'.heap.size) w' v a := (h.keep (Keeps.below hG)).up fun _ hk => Nat.lt_of_lt_of_le hk hG.size
theorem ret_none {P : Program} {fn : Func} {R : Ending → World → Prop} {n : Nat} {env : Env} {a : Act} {w : World} (ha : EnvOk n a env) (k : R (.returned (.tuple #[])) w) (hr : fn.results = #[] := by kernel_rfl) : bodyPost P fn R .ret a w := by
 refine bodyPost_ret (v := .tuple #[]) ?_ ha.2.1 k
 simp [results, hr]
theorem ret_noneN {P : Program} {fn : Func} {R : Ending → World → Prop} {n : Nat} {env : Env} {a : Act} {w : World} (ha : EnvOk n a env) (k : R (.returned (.tuple #[])) w) (hr : fn.results = #[] := by kernel_rfl) : bodyPost P fn R .normal a w := by
 have := ret_none (P := P) ha k hr
 exact this
def Rv (v : Value) : Option (DataW Value × List MemPlace) := some (.held v, [])
def mapD (l : List (Int × Value)) : DataW Value := l.foldl (fun D q => D.put (.int .i64 q.1) (.held q.2)) (.map [])
def MapI (P : Program) (k : TypeId) (l : List (Int × Value)) (x : Obj) : Prop :=
 ∃ es clock, x = .map es clock ∧ WideElems.Fit P k Rv es clock ∧ es.size ≤ l.length ∧ mapD l = .map ((es.toList.map (WideElems.rg P k Rv)).foldr DataW.insert [])
theorem mapI_owns {P : Program} {k : TypeId} {l : List (Int × Value)} {x : Obj} {w : World} {b : Nat} (hb : w.heap[b]? = some x) (h : MapI P k l x) : w.ownsMap P k Rv b l.length (mapD l) := by
 obtain ⟨es, clock, rfl, F, hs, hD⟩ := h
 exact ⟨es, clock, hb, F, hs, hD⟩
theorem owns_mapI {P : Program} {k : TypeId} {l : List (Int × Value)} {w : World} {b : Nat} (h : w.ownsMap P k Rv b l.length (mapD l)) : ∃ x, w.heap[b]? = some x ∧ MapI P k l x := by
 obtain ⟨es, clock, hb, F, hs, hD⟩ := h
 exact ⟨_, hb, es, clock, rfl, F, hs, hD⟩
abbrev mapR (P : Program) (k : TypeId) {α : Type} [Data α] (b : Nat) (ins : List (Int × Value × α)) : Res := .obj b (MapI P k (ins.map fun q => (q.1, q.2.1))) (ins.map fun q => q.2)
theorem Fr.newObj {α : Type} [Data α] {w0 : Orig} {w : World} {S : Stab} {rs : List Res} (h : Fr w0 w S rs) (x : Obj) (I : Obj → Prop) (hI : I x) : Fr w0 (w.alloc x) S (.obj (α := α) w.heap.size I [] :: rs) :=
 (h.alloc _).put _ ⟨⟨x, heap_alloc_new w _, hI⟩, fun q hq => by simp at hq⟩ (fun b hb => by
   cases hb
   have hf := h.fresh
   exact ⟨hf.1, by simp, hf.2.1, hf.2.2⟩)
def wfI (x : Int) : Prop := -9223372036854775808 ≤ x ∧ x ≤ 9223372036854775807
theorem wf_of {x : Int} (h : wfI x) : (Lit.int .i64 x).wf = true := by
 have := h.1; have := h.2
 simp only [Lit.wf, IntKind.min, IntKind.max, IntKind.signed, IntKind.bits]
 simp
 omega
theorem key_of {P : Program} {k : TypeId} {x : Int} (hk : P.underlying k = some (.int .i64)) (h : wfI x) : keyOf P k (.int .i64 x) = some (.int .i64 x) := by
 have := wf_of h
 simp [keyOf, hk, mapKey, this]
theorem mapD_snoc (l : List (Int × Value)) (q : Int × Value) : mapD (l ++ [q]) = (mapD l).put (.int .i64 q.1) (.held q.2) := by simp [mapD]
section
variable {P : Program} {B : Code} {p : List Nat} {Q : Post} {a : Act} {w : World}
theorem q_makeA {ops : Array Oper} {N : Act → World → Prop} {n : Nat} {env : Env} {w0 : Orig} {S : Stab} {rs : List Res} (i d t : Nat) (x : Operand) (e : TypeId) (m : Int) (zv : Value) (keep : List (Nat × Value)) (ha : EnvOk n a env) (H : Fr w0 w S rs)
   (hu : P.underlying t = some (.slice e)) (hi : ∃ inf z, P.info? e = some inf ∧ inf.zero = some z ∧ z.cells = #[zv] ∧ inf.size = 1 ∧ inf.bytes ≤ 1000) (h0 : 0 ≤ m) (h1 : m ≤ 100000000)
   (k : ∀ b a' w', Fr w0 w' S (.box b e (arrV m fun _ => zv) :: rs) → EnvOk n a' (keepEnv ((d, .slice (some ⟨b, 0, none⟩) m.toNat m.toNat) :: keep)) → Below w.heap.size w w' → w.heap.size ≤ b → N a' w')
   (h : opAt ops i = some (.makeSlice t x x, some d, none) := by kernel_rfl) (hx : getOp env [] x = some (.int .i64 m) := by kernel_rfl)
   (hk : KeepEq n d env keep := by delta KeepEq; kernel_rfl) : wpOp P ops Q i N a w := by
 refine op_at h fun o ho hdst => ?_
 obtain ⟨inf, z, h2, h3, h4, h5, h6⟩ := hi
 have hr := run_make (P := P) w t e inf z hu h2 h3 .i64 .i64 m m h0 (Int.le_refl _) (by
   have h7 : (inf.bytes : Int) ≤ 1000 := by omega
   have h8 : (inf.bytes : Int) * m ≤ 1000 * m := Int.mul_le_mul_of_nonneg_right h7 h0
   omega) (by omega)
 rw [h5, Nat.mul_one, made_arr h4, Int.toNat_of_nonneg h0] at hr
 have e2 : (execOp a.eval o).run P w = .ok (.value (.slice (some ⟨w.heap.size, 0, none⟩) m.toNat m.toNat)) (w.alloc (.cells (arrV m fun _ => zv).toArray e)) := by
   simp only [execOp, ho, Sem.run_bind, getOp_ok ha (fun l hl => by simp at hl) _ _ hx, hr]
   rfl
 unfold Oper.wp
 rw [e2, Oper.upon_value]
 exact k w.heap.size _ _ (H.newBox _ e) (env_put keep ha hdst hk) (below_new _ _) (Nat.le_refl _)
theorem q_makeMap {ops : Array Oper} {N : Act → World → Prop} {n : Nat} {env : Env} {w0 : Orig} {S : Stab} {rs : List Res} (α : Type) [Data α] (kt : TypeId) (i d t : Nat) (keep : List (Nat × Value)) (ha : EnvOk n a env) (H : Fr w0 w S rs)
   (k : ∀ b a' w', Fr w0 w' S (mapR P kt (α := α) b [] :: rs) → EnvOk n a' (keepEnv ((d, .map (some b)) :: keep)) → Below w.heap.size w w' → w.heap.size ≤ b → N a' w')
   (h : opAt ops i = some (.makeMap t none, some d, none) := by kernel_rfl)
   (hk : KeepEq n d env keep := by delta KeepEq; kernel_rfl) : wpOp P ops Q i N a w := by
 refine op_at h fun o ho hdst => ?_
 have e2 : (execOp a.eval o).run P w = .ok (.value (.map (some w.heap.size))) (w.alloc (.map #[] 0)) := by
   simp only [execOp, ho, Sem.run_bind, Option.map_none, run_makeMap]
   rfl
 unfold Oper.wp
 rw [e2, Oper.upon_value]
 have hM : MapI P kt [] (.map #[] 0) := by
   obtain ⟨es, clock, hb, F, hs, hD⟩ := World.ownsMap_made (H := Value) w P kt Rv
   rw [heap_alloc_new w] at hb
   cases hb
   exact ⟨_, _, rfl, F, hs, hD⟩
 exact k w.heap.size _ _ (H.newObj _ _ hM) (env_put keep ha hdst hk) (below_new _ _) (Nat.le_refl _)
theorem q_mapUpdate {ops : Array Oper} {N : Act → World → Prop} {n : Nat} {env : Env} {w0 : Orig} {S : Stab} {rs : List Res} {α : Type} [Data α] {kt et : TypeId} (i t : Nat) (m x y : Operand) (j b : Nat) (ins : List (Int × Value × α)) (kx : Int) (u : Value) (r : α) (keep : List (Nat × Value)) (ha : EnvOk n a env) (H : Fr w0 w S rs)
   (hj : rs[j]? = some (mapR P kt b ins)) (hr : Rd S w u r) (hkx : wfI kx) (hlen : ins.length ≤ 2147483647)
   (hu : P.underlying t = some (.map kt et)) (hkt : P.underlying kt = some (.int .i64))
   (k : ∀ a' w', Fr w0 w' S (rs.set j (mapR P kt b (ins ++ [(kx, u, r)]))) → EnvOk n a' (keepEnv keep) → w.grownBy w' (some b) → N a' w')
   (h : opAt ops i = some (.mapUpdate t m x y, none, none) := by kernel_rfl) (hm : getOp env [] m = some (.map (some b)) := by kernel_rfl) (hx : getOp env [] x = some (.int .i64 kx) := by kernel_rfl) (hy : getOp env [] y = some u := by kernel_rfl)
   (hk : (keep.map fun x => look env x.1) = (keep.map fun x => some ⟨x.1, [], x.2⟩) := by kernel_rfl) : wpOp P ops Q i N a w := by
 refine op_at h fun op hop hdst => ?_
 obtain ⟨⟨ob, hb, hI⟩, hvals⟩ := H.ok _ (List.mem_of_getElem? hj)
 have hown := mapI_owns hb hI
 have hlt := hown.lt
 obtain ⟨w', hrun, hown', hG⟩ := hown.update (Maps.int_keyed hkt) hu (by rw [List.length_map]; simp only [maxLen]; omega) (key_of hkt hkx) (val := u) (d := .held u) (ps := []) rfl
 have e2 : (execOp a.eval op).run P w = .ok .skip w' := by
   simp only [execOp, hop, Sem.run_bind, getOp_ok ha (fun l hl => by simp at hl) _ _ hm, getOp_ok ha (fun l hl => by simp at hl) _ _ hx, getOp_ok ha (fun l hl => by simp at hl) _ _ hy, hrun]
   rfl
 unfold Oper.wp
 rw [e2, Oper.upon_skip, hdst]
 have hS : Keeps S w w' := fun q hq => hG.block q (H.inb q hq) (fun e => (H.own _ (List.mem_of_getElem? hj) q e.symm).2.2 hq)
 refine k _ _ (H.set j hj _ ⟨?_, fun q hq => ?_⟩ hG (fun b' hb' => .inl hb')) (keep_ok keep ha (looks_of hk)) hG
 · have : w'.ownsMap P kt Rv b ((ins ++ [(kx, u, r)]).map fun q => (q.1, q.2.1)).length (mapD ((ins ++ [(kx, u, r)]).map fun q => (q.1, q.2.1))) := by
     rw [List.map_append]
     simp only [List.map_cons, List.map_nil]
     rw [mapD_snoc, List.length_append]
     exact hown'
   exact owns_mapI this
 rw [List.map_append] at hq
 rcases List.mem_append.1 hq with hq | hq
 · exact (hvals q hq).keep hS
 simp at hq; subst hq; exact hr.keep hS
end
def lastAt {α : Type} (ins : List (Int × α)) (k : Int) : Option α := ins.foldl (fun r q => if q.1 = k then some q.2 else r) none
theorem lastAt_mem {α : Type} {ins : List (Int × α)} {k : Int} {x : α} (h : lastAt ins k = some x) : (k, x) ∈ ins := by
 have key : ∀ (ins : List (Int × α)) (r : Option α), ins.foldl (fun r q => if q.1 = k then some q.2 else r) r = some x → r = some x ∨ (k, x) ∈ ins := by
   intro ins
   induction ins with
   | nil => intro r h; exact .inl h
   | cons q ins ih =>
     intro r h
     rcases ih _ h with h | h
     · dsimp only at h
       split at h
       · rename_i e; cases h; right; rw [← e]; simp
       exact .inl h
     exact .inr (List.mem_cons_of_mem _ h)
 rcases key ins none h with h | h
 · cases h
 exact h
theorem lastAt_some {α : Type} {ins : List (Int × α)} {k : Int} {x : α} (h : (k, x) ∈ ins) : ∃ y, lastAt ins k = some y := by
 have key : ∀ (ins : List (Int × α)) (r : Option α), (r.isSome ∨ ∃ x, (k, x) ∈ ins) → (ins.foldl (fun r q => if q.1 = k then some q.2 else r) r).isSome := by
   intro ins
   induction ins with
   | nil => rintro r (h | ⟨x, h⟩); exact h; simp at h
   | cons q ins ih =>
     intro r h
     refine ih _ ?_
     rcases h with h | ⟨x, h⟩
     · left; dsimp only; split
       · rfl
       exact h
     rcases List.mem_cons.1 h with e | h
     · left; dsimp only; rw [if_pos (by rw [← e])]; rfl
     exact .inr ⟨x, h⟩
 exact Option.isSome_iff_exists.1 (key ins none (.inr ⟨x, h⟩))
theorem mapD_at {l : List (Int × Value)} {k : Int} (z : DataW Value) : (mapD l).atKey (.int .i64 k) z = match lastAt l k with | some v => .held v | none => z := by
 have key : ∀ (l : List (Int × Value)) (D : DataW Value) (r : Option Value), Maps.IsMap D → (D.atKey (.int .i64 k) z = match r with | some v => .held v | none => z) →
     (l.foldl (fun D q => D.put (.int .i64 q.1) (.held q.2)) D).atKey (.int .i64 k) z = match l.foldl (fun r q => if q.1 = k then some q.2 else r) r with | some v => .held v | none => z := by
   intro l
   induction l with
   | nil => intro D r _ h; exact h
   | cons q l ih =>
     intro D r hD h
     refine ih _ _ (by obtain ⟨es, rfl⟩ := hD; exact ⟨_, rfl⟩) ?_
     dsimp only
     by_cases e : q.1 = k
     · rw [if_pos e, e, Maps.atKey_put_same hD (by simp [WideAt.IsKeyLit])]
     rw [if_neg e, Maps.atKey_put_other (by simpa using fun h => e h.symm)]; exact h
 exact key l _ none Maps.isMap_empty rfl
theorem mapD_has {l : List (Int × Value)} {k : Int} : Maps.has (mapD l) (.int .i64 k) = true ↔ ∃ v, (k, v) ∈ l := by
 have key : ∀ (l : List (Int × Value)) (D : DataW Value), Maps.IsMap D →
     (Maps.has (l.foldl (fun D q => D.put (.int .i64 q.1) (.held q.2)) D) (.int .i64 k) = true ↔ Maps.has D (.int .i64 k) = true ∨ ∃ v, (k, v) ∈ l) := by
   intro l
   induction l with
   | nil => intro D _; simp
   | cons q l ih =>
     intro D hD
     rw [List.foldl_cons, ih _ (by obtain ⟨es, rfl⟩ := hD; exact ⟨_, rfl⟩)]
     by_cases e : q.1 = k
     · rw [e, Maps.has_put_same hD (by simp [WideAt.IsKeyLit])]
       exact ⟨fun _ => .inr ⟨q.2, by rw [← e]; simp⟩, fun _ => .inl rfl⟩
     rw [Maps.has_put_other (by simpa using fun h => e h.symm)]
     constructor
     · rintro (h | ⟨v, h⟩)
       · exact .inl h
       exact .inr ⟨v, List.mem_cons_of_mem _ h⟩
     rintro (h | ⟨v, h⟩)
     · exact .inl h
     rcases List.mem_cons.1 h with h | h
     · exact absurd (by rw [← h]) e
     exact .inr ⟨v, h⟩
 rw [mapD, key l _ Maps.isMap_empty]
 simp [Maps.has]
theorem map_look {P : Program} {α : Type} [Data α] {o : Orig} {w : World} {S : Stab} {rs : List Res} {kt et t : TypeId} (H : Fr o w S rs) (j : Nat) {b : Nat} {ins : List (Int × Value × α)} (hj : rs[j]? = some (mapR P kt b ins)) {kx : Int} {u : Value} {r : α} (hl : lastAt ins kx = some (u, r)) (hkx : wfI kx)
   (hu : P.underlying t = some (.map kt et)) (hkt : P.underlying kt = some (.int .i64)) {z : Value} (hz : ∀ w, (zeroValue et).run P w = .ok z w) :
   (∀ w', On w w' → (Instr.lookup t (.map (some b)) (.int .i64 kx) false).run P w' = .ok u w') ∧ Rd S w u r := by
 obtain ⟨⟨ob, hb, hI⟩, hvals⟩ := H.ok _ (List.mem_of_getElem? hj)
 refine ⟨fun w' hw' => ?_, hvals (u, r) (List.mem_map.2 ⟨_, lastAt_mem hl, rfl⟩)⟩
 have hb' : w'.heap[b]? = some ob := (hw'.block b (H.own _ (List.mem_of_getElem? hj) b rfl).2.1).trans hb
 obtain ⟨v, ps, hrun, hv⟩ := (mapI_owns hb' hI).lookup (Maps.int_keyed hkt) hu (hz w') (zd := .held z) (zp := []) rfl (key_of hkt hkx)
 rw [mapD_at] at hv
 have hl2 : lastAt (ins.map fun q => (q.1, q.2.1)) kx = some u := by
   have key : ∀ (ins : List (Int × Value × α)) (r0 : Option (Value × α)), (ins.map fun q => (q.1, q.2.1)).foldl (fun r q => if q.1 = kx then some q.2 else r) (r0.map (·.1)) = (ins.foldl (fun r q => if q.1 = kx then some q.2 else r) r0).map (·.1) := by
     intro ins
     induction ins with
     | nil => intro r0; rfl
     | cons q ins ih =>
       intro r0
       rw [List.map_cons, List.foldl_cons, List.foldl_cons, ← ih]
       congr 1
       split <;> rfl
   have := key ins none
   unfold lastAt at hl ⊢
   rw [hl] at this
   exact this
 rw [hl2] at hv
 simp only [Rv, Option.some.injEq, Prod.mk.injEq, DataW.held.injEq] at hv
 rw [hrun, hv.1]
theorem Fr.freeze {α : Type} [Data α] {w0 : Orig} {w : World} {S : Stab} {rs : List Res} (h : Fr w0 w S rs) (j : Nat) {e : TypeId} {v : Value} {l : List α} (hj : rs[j]? = some (.row e v l)) : ∃ S', (∀ k, S k → S' k) ∧ Fr w0 w S' (rs.set j (.ro v l)) := by
 obtain ⟨xs, h1, h2⟩ := h.ok _ (List.mem_of_getElem? hj)
 have hjl : j < rs.length := (List.getElem?_eq_some_iff.1 hj).1
 have hje : rs[j] = .row e v l := (List.getElem?_eq_some_iff.1 hj).2
 refine ⟨fun k => S k ∨ v.ownBlock = some k, fun k => .inl, ?_⟩
 have hown : ∀ k, v.ownBlock = some k → w0.w.heap.size ≤ k ∧ k < w.heap.size ∧ ¬ S k := fun k hk => h.own _ (List.mem_of_getElem? hj) k hk
 have hoth : ∀ q, q ≠ j → ∀ (hq : q < rs.length) b, rs[q].block = some b → v.ownBlock ≠ some b := fun q hne hq b hb e => by
   refine h.apart j q (fun e => hne e.symm) hj (List.getElem?_eq_getElem hq) (b := b) ?_ hb
   exact e
 refine ⟨h.below, fun k hk => ?_, fun k hk => ?_, fun r hr => ?_, fun r hr b hb => ?_, ?_⟩
 · rcases hk with hk | hk
   · exact h.src k hk
   exact .inr (hown k hk).1
 · rcases hk with hk | hk
   · exact h.inb k hk
   exact (hown k hk).2.1
 · obtain ⟨q, hq, rfl⟩ := List.getElem_of_mem hr
   rw [List.length_set] at hq
   rw [List.getElem_set]
   split
   · show Rd _ w v l
     refine slice_rd ?_
     rcases h1.2 with ⟨rfl, hn⟩ | ⟨g, cap, cur, rfl, _, hg, hnc, hcm, hcs, htake⟩
     · have : l = [] := List.eq_nil_of_length_eq_zero hn
       subst this
       exact ⟨none, 0, rfl, by simp, by simp [maxLen], .inl rfl⟩
     refine ⟨_, cap, rfl, hnc, hcm, .inr ⟨g, 0, cur, e, (0, 0), rfl, .inr rfl, hg, fun j hj => ?_⟩⟩
     refine ⟨_, Data.up (fun _ => .inl) (h2.2 j hj), fun q hq => ?_⟩
     rw [List.getElem?_take, if_pos hq, List.getElem?_drop, ← htake, List.getElem?_take, if_pos ?_]
     · simp
     have := Nat.mul_le_mul_right (Data.size α) (show j + 1 ≤ l.length from hj)
     rw [Nat.succ_mul] at this
     omega
   exact Res.ok_up (h.ok _ (List.getElem_mem hq)) fun _ => .inl
 · obtain ⟨q, hq, rfl⟩ := List.getElem_of_mem hr
   rw [List.length_set] at hq
   rw [List.getElem_set] at hb
   split at hb
   · cases hb
   rename_i hne
   obtain ⟨x, y, z⟩ := h.own _ (List.getElem_mem hq) b hb
   exact ⟨x, y, fun hh => hh.elim z fun hh => hoth q (fun e => hne e.symm) hq b hb hh⟩
 have hn := h.nodup
 rw [List.Nodup, List.pairwise_filterMap, List.pairwise_iff_getElem] at hn ⊢
 intro q r hq hr hqr
 rw [List.length_set] at hq hr
 rw [List.getElem_set, List.getElem_set]
 intro b hb1 b' hb2
 split at hb1
 · cases hb1
 split at hb2
 · cases hb2
 exact hn q r hq hr hqr b hb1 b' hb2
theorem Fr.freezeBox {α : Type} [Data α] {w0 : Orig} {w : World} {S : Stab} {rs : List Res} (h : Fr w0 w S rs) (j : Nat) {b : Nat} {e : TypeId} {cs : List Value} (hj : rs[j]? = some (.box b e cs)) {l : List α} (hrd : RowRd S w cs l) {n : Nat} (hn : n = l.length) (hsz : n ≤ 2147483647) :
   ∃ S', (∀ k, S k → S' k) ∧ Fr w0 w S' (rs.set j (.ro (.slice (some ⟨b, 0, none⟩) n n) l)) := by
 subst hn
 have hb : w.heap[b]? = some (.cells cs.toArray e (0, 0)) := h.ok _ (List.mem_of_getElem? hj)
 have hrow : Own S w e (.slice (some ⟨b, 0, none⟩) l.length l.length) l := by
   refine ⟨cs, ⟨hrd.1, .inr ⟨b, l.length, _, rfl, Nat.zero_le _, hb, Nat.le_refl _, by simp only [maxLen]; omega, by simpa using hrd.1, ?_⟩⟩, hrd⟩
   simp only [List.toList_toArray]
   rw [← hrd.1, List.take_length]
 have h' : Fr w0 w S (rs.set j (.row e (.slice (some ⟨b, 0, none⟩) l.length l.length) l)) :=
   h.set j hj _ hrow ⟨rfl, rfl, rfl, Nat.le_refl _, fun _ _ _ => rfl⟩ (fun b' hb' => .inl hb')
 obtain ⟨S', h1, h2⟩ := h'.freeze j (by rw [List.getElem?_set_self (List.getElem?_eq_some_iff.1 hj).1])
 rw [List.set_set] at h2
 exact ⟨S', h1, h2⟩
theorem Fr.cut {P : Program} {α : Type} [Data α] {w0 : Orig} {w : World} {S : Stab} {rs : List Res} (h : Fr w0 w S rs) (j : Nat) {e t : TypeId} {v : Value} {l : List α} (hj : rs[j]? = some (.row e v l)) (k : Nat) (hk : k ≤ l.length) (hne : 0 < l.length)
   (ht : P.underlying t = some (.slice (P.elem t))) (hi0 : (P.info? (P.elem t)).isSome = true) :
   ∃ u, (∀ (q : IntKind) (w' : World), (Instr.sliceAt t v none (some (.int q (k : Int))) none).run P w' = .ok u w') ∧ u.ownBlock = v.ownBlock ∧ Fr w0 w S (rs.set j (.row e u (l.take k))) := by
 obtain ⟨xs, h1, h2⟩ := h.ok _ (List.mem_of_getElem? hj)
 obtain ⟨inf, hinf⟩ := Option.isSome_iff_exists.1 hi0
 rcases h1.2 with ⟨rfl, hn⟩ | ⟨g, cap, cur, rfl, hbg, hg, hnc, hcm, hcs, htake⟩
 · omega
 have hlen : (l.take k).length = k := by rw [List.length_take]; omega
 refine ⟨.slice (some ⟨g, 0, none⟩) k cap, fun q w' => ?_, rfl, h.set j hj _ ?_ ⟨rfl, rfl, rfl, Nat.le_refl _, fun _ _ _ => rfl⟩ (fun b' hb' => .inl hb')⟩
 · rw [run_sliceAt_slice w' t _ _ _ _ ht, run_slice_h w' t (some ⟨g, 0, none⟩) l.length cap ht q (k : Int) (by omega) (by omega), run_sizeOf w' hinf]
   simp only [Result.andThen, sliced, Int.toNat_natCast, Nat.sub_zero, Nat.zero_mul]
   by_cases hc : cap = 0
   · simp [hc, Addr.add]
   simp [hc, Addr.add]
 refine ⟨xs.take (k * Data.size α), ⟨?_, .inr ⟨g, cap, cur, by rw [hlen], hbg, hg, by omega, hcm, hcs, ?_⟩⟩, ?_, fun i hi => ?_⟩
 · rw [List.length_take, h1.1, hlen]
   have := Nat.mul_le_mul_right (Data.size α) hk
   omega
 · rw [hlen, ← htake, List.take_take]
   have := Nat.mul_le_mul_right (Data.size α) hk
   rw [Nat.min_eq_left this]
 · rw [List.length_take, h1.1, hlen]
   have := Nat.mul_le_mul_right (Data.size α) hk
   omega
 rw [hlen] at hi
 have h3 := h2.2 i (by omega)
 rw [List.getElem_take]
 have h4 := Nat.mul_le_mul_right (Data.size α) (show i + 1 ≤ k from hi)
 rw [Nat.succ_mul] at h4
 rw [List.drop_take, List.take_take, Nat.min_eq_left (by omega)]
 exact h3
end Go.Proofs.Ytahonnlgkmimlaa
namespace Go.Proofs
open Go.Shelf
def Try.lays189_ren : Go.Shelf.Ren := ⟨fun | 189 => 74 | 125 => 99 | 257 => 98 | 128 => 125 | 129 => 126 | 294 => 117 | 295 => 118 | 296 => 119 | 297 => 120 | 298 => 121 | 299 => 122 | 216 => 100 | 300 => 123 | 301 => 124 | 328 => 138 | 329 => 139 | 330 => 140 | 331 => 141 | 332 => 142 | 215 => 127 | 343 => 147 | n => n, fun | 28 => 27 | 3 => 3 | 46 => 124 | 0 => 0 | 51 => 146 | 53 => 148 | 4 => 4 | 183 => 140 | 182 => 139 | 131 => 78 | 5 => 5 | 9 => 9 | 218 => 158 | 222 => 162 | 228 => 165 | 229 => 166 | n => n, fun | n => n⟩
theorem Try.lays189 : Go.Proofs.Lays.n189 Try.prog Try.lays189_ren := {
 mixed := by kernel_rfl
 f125 := Try.func99.trans (congrArg some (by kernel_rfl))
 f128 := Try.func125.trans (congrArg some (by kernel_rfl))
 f129 := Try.func126.trans (congrArg some (by kernel_rfl))
 f189 := Try.func74.trans (congrArg some (by kernel_rfl))
 f215 := Try.func127.trans (congrArg some (by kernel_rfl))
 f216 := Try.func100.trans (congrArg some (by kernel_rfl))
 f257 := Try.func98.trans (congrArg some (by kernel_rfl))
 f294 := Try.func117.trans (congrArg some (by kernel_rfl))
 f295 := Try.func118.trans (congrArg some (by kernel_rfl))
 f296 := Try.func119.trans (congrArg some (by kernel_rfl))
 f297 := Try.func120.trans (congrArg some (by kernel_rfl))
 f298 := Try.func121.trans (congrArg some (by kernel_rfl))
 f299 := Try.func122.trans (congrArg some (by kernel_rfl))
 f300 := Try.func123.trans (congrArg some (by kernel_rfl))
 f301 := Try.func124.trans (congrArg some (by kernel_rfl))
 f328 := Try.func138.trans (congrArg some (by kernel_rfl))
 f329 := Try.func139.trans (congrArg some (by kernel_rfl))
 f330 := Try.func140.trans (congrArg some (by kernel_rfl))
 f331 := Try.func141.trans (congrArg some (by kernel_rfl))
 f332 := Try.func142.trans (congrArg some (by kernel_rfl))
 f343 := Try.func147.trans (congrArg some (by kernel_rfl))
 t0 := Try.underlying0
 a0 := Try.isAgg0
 z0 := Try.sizeOf0
 v0 := Try.zeroValue0
 t3 := Try.underlying3
 a3 := Try.isAgg3
 z3 := Try.sizeOf3
 v3 := Try.zeroValue3
 t4 := Try.underlying4
 a4 := Try.isAgg4
 z4 := Try.sizeOf4
 v4 := Try.zeroValue4
 t5 := Try.underlying5
 a5 := Try.isAgg5
 z5 := Try.sizeOf5
 v5 := Try.zeroValue5
 t9 := Try.underlying9
 a9 := Try.isAgg9
 z9 := Try.sizeOf9
 v9 := Try.zeroValue9
 t28 := Try.underlying27
 a28 := Try.isAgg27
 z28 := Try.sizeOf27
 v28 := Try.zeroValue27
 t46 := Try.underlying124
 a46 := Try.isAgg124
 z46 := Try.sizeOf124
 v46 := Try.zeroValue124
 t51 := Try.underlying146
 a51 := Try.isAgg146
 z51 := Try.sizeOf146
 v51 := Try.zeroValue146
 t53 := Try.underlying148
 a53 := Try.isAgg148
 z53 := Try.sizeOf148
 v53 := Try.zeroValue148
 t131 := Try.underlying78
 a131 := Try.isAgg78
 z131 := Try.sizeOf78
 v131 := Try.zeroValue78
 t182 := Try.underlying139
 a182 := Try.isAgg139
 z182 := Try.sizeOf139
 v182 := Try.zeroValue139
 t183 := Try.underlying140
 a183 := Try.isAgg140
 z183 := Try.sizeOf140
 v183 := Try.zeroValue140
 t218 := Try.underlying158
 a218 := Try.isAgg158
 z218 := Try.sizeOf158
 v218 := Try.zeroValue158
 t222 := Try.underlying162
 a222 := Try.isAgg162
 z222 := Try.sizeOf162
 v222 := Try.zeroValue162
 t228 := Try.underlying165
 a228 := Try.isAgg165
 z228 := Try.sizeOf165
 v228 := Try.zeroValue165
 t229 := Try.underlying166
 a229 := Try.isAgg166
 z229 := Try.sizeOf166
 v229 := Try.zeroValue166 }
open Go.Sort Go.RowKit in
theorem Try.slices_Sort_int (blk off cap : Nat) (zs : List Int) (w : World) (hH : Holds (Value.int .i64) w blk off zs.toArray) (hblk : blk < w.heap.size) (hsz : zs.length < 4611686018427387904) :
   Calls Try.prog 74 #[.slice (some ⟨blk, off, none⟩) zs.length cap] w fun e w' =>
     e = .returned (.tuple #[]) ∧ ∃ n os, w' = grow (putRow (Value.int .i64) (Sort.ahead w n) blk off (zs.mergeSort fun x y => decide (x ≤ y)).toArray) os := Any.slices_Sort_int Try.lays189 blk off cap zs w hH hblk hsz
def Try.lays111_ren : Go.Shelf.Ren := ⟨fun | 111 => 76 | n => n, fun | 28 => 27 | 3 => 3 | 4 => 4 | 0 => 0 | n => n, fun | n => n⟩
open Go.RowKit Go.Lib in
open Go.RowKit Go.Lib in
def Try.laysNm215_ren : Go.Shelf.Ren := ⟨fun | 15 => 105 | n => n, fun | 22 => 27 | 3 => 3 | 4 => 4 | n => n, fun | n => n⟩
theorem Try.laysNm215 : Go.Proofs.Lays2.n15 Try.prog Try.laysNm215_ren := {
 mixed := by kernel_rfl
 f15 := Try.func105.trans (congrArg some (by kernel_rfl))
 t3 := Try.underlying3
 a3 := Try.isAgg3
 z3 := Try.sizeOf3
 v3 := Try.zeroValue3
 t4 := Try.underlying4
 a4 := Try.isAgg4
 z4 := Try.sizeOf4
 v4 := Try.zeroValue4
 t22 := Try.underlying27
 a22 := Try.isAgg27
 z22 := Try.sizeOf27
 v22 := Try.zeroValue27
 i3 := by kernel_rfl }
open Go.RowKit Go.Lib in
theorem Try.slices_Clone_int (b off n c : Nat) (zs : List Int) (w : World) (hz : n ≤ zs.length) (hbig : n * 8 ≤ 140737488355328) (hc : ∀ j, j < zs.length → w.cell? ⟨b, off + j, none⟩ = some (.int .i64 (zs.getD j 0))) :
   Calls Try.prog 105 #[.slice (some ⟨b, off, none⟩) n c] w fun e w' => ∃ v', e = .returned v' ∧ w'.ownsRow w.heap.size 3 1 v' n ((zs.take n).map (Value.int .i64)) ∧ v' ≠ .slice none 0 0 ∧ Below w.heap.size w w' := Any.slices_Clone_int Try.laysNm215 b off n c zs w hz hbig hc
open Go.RowKit Go.Lib in
theorem Try.slices_Clone_int_nil (n c : Nat) (w : World) :
   Calls Try.prog 105 #[.slice none n c] w fun e w' => e = .returned (.slice none 0 0) ∧ w' = w := Any.slices_Clone_int_nil Try.laysNm215 n c w
open Go.RowKit Go.Lib in
theorem Try.slices_Clone_int_zero (a : Addr) (c : Nat) (w : World) :
   Calls Try.prog 105 #[.slice (some a) 0 c] w fun e w' => ∃ v', e = .returned v' ∧ w'.ownsRow w.heap.size 3 1 v' 0 [] ∧ v' ≠ .slice none 0 0 ∧ Below w.heap.size w w' := Any.slices_Clone_int_zero Try.laysNm215 a c w
def Try.laysNm220_ren : Go.Shelf.Ren := ⟨fun | 20 => 75 | n => n, fun | 22 => 27 | 3 => 3 | 4 => 4 | 0 => 0 | n => n, fun | n => n⟩
theorem Try.laysNm220 : Go.Proofs.Lays2.n20 Try.prog Try.laysNm220_ren := {
 mixed := by kernel_rfl
 f20 := Try.func75.trans (congrArg some (by kernel_rfl))
 t0 := Try.underlying0
 a0 := Try.isAgg0
 z0 := Try.sizeOf0
 v0 := Try.zeroValue0
 t3 := Try.underlying3
 a3 := Try.isAgg3
 z3 := Try.sizeOf3
 v3 := Try.zeroValue3
 t4 := Try.underlying4
 a4 := Try.isAgg4
 z4 := Try.sizeOf4
 v4 := Try.zeroValue4
 t22 := Try.underlying27
 a22 := Try.isAgg27
 z22 := Try.sizeOf27
 v22 := Try.zeroValue27
 i3 := by kernel_rfl }
open Go.RowKit Go.Lib Go.Sort in
open Go.RowKit Go.Lib Go.Sort in
theorem Try.slices_Compact_int (blk off cap : Nat) (zs : List Int) (w : World) (hH : Holds (Value.int .i64) w blk off zs.toArray) (hsz : zs.length ≤ 9223372036854775807) (hcap : zs.length ≤ cap) :
   Calls Try.prog 75 #[.slice (some ⟨blk, off, none⟩) zs.length cap] w fun e w' => e = .returned (.slice (some ⟨blk, off, none⟩) (Lib.compact zs).length cap) ∧ ∃ q, w' = putRow (Value.int .i64) (Sort.ahead w q) blk off (Lib.compact zs ++ List.replicate (zs.length - (Lib.compact zs).length) 0).toArray := Any.slices_Compact_int Try.laysNm220 blk off cap zs w hH hsz hcap
open Go.RowKit Go.Lib Go.Sort in
theorem Try.slices_Compact_int_empty (a : Option Addr) (cap : Nat) (w : World) :
   Calls Try.prog 75 #[.slice a 0 cap] w fun e w' => e = .returned (.slice a 0 cap) ∧ w' = w := Any.slices_Compact_int_empty Try.laysNm220 a cap w
end Go.Proofs
namespace Go.Proofs.Ytahonnlgkmimlaa
open Go.RowKit Go.Sort Go.Lib
theorem row_ints {S : Stab} {w : World} {xs : List Value} {l : List Int} (h : RowRd S w xs l) : xs = l.map (Value.int .i64) := by
 obtain ⟨h1, h2⟩ := h
 apply List.ext_getElem
 · rw [List.length_map, h1]; show l.length * 1 = _; omega
 intro i hi hi'
 have hil : i < l.length := by simpa using hi'
 have := h2 i hil
 have e : (xs.drop (i * Data.size Int)).take (Data.size Int) = [.int .i64 l[i]] := this
 rw [show i * Data.size Int = i from Nat.mul_one i, show Data.size Int = 1 from rfl, List.drop_eq_getElem_cons hi, List.take_succ_cons, List.take_zero] at e
 simp only [List.cons.injEq, and_true] at e
 rw [e]; simp
theorem ints_row {S : Stab} {w : World} (l : List Int) : RowRd S w (l.map (Value.int .i64)) l := by
 refine ⟨by show _ = l.length * 1; simp, fun i hi => ?_⟩
 show ((l.map (Value.int .i64)).drop (i * 1)).take 1 = [.int .i64 l[i]]
 rw [Nat.mul_one, List.drop_eq_getElem_cons (by simpa using hi), List.take_succ_cons, List.take_zero]
 simp
theorem sort_row {o : Orig} {w : World} {S : Stab} {rs : List Res} (H : Fr o w S rs) (j : Nat) {v : Value} {l : List Int} (hj : rs[j]? = some (.row 3 v l)) (hl : l.length ≤ 2147483647) :
   Calls Try.prog 74 #[v] w fun e w' => ∃ u, e = .returned u ∧ Fr o w' S (rs.set j (.row 3 v (l.mergeSort fun x y => decide (x ≤ y)))) ∧ w.grownBy w' v.ownBlock := by
 obtain ⟨xs, h1, h2⟩ := H.ok _ (List.mem_of_getElem? hj)
 have hxs := row_ints h2
 subst hxs
 have hlen : (l.mergeSort fun x y => decide (x ≤ y)).length = l.length := List.length_mergeSort _
 rcases h1.2 with ⟨rfl, h0⟩ | ⟨g, cap, cur, rfl, _, hg, hnc, hcm, hcs, htake⟩
 · have : l = [] := List.eq_nil_of_length_eq_zero h0
   subst this
   refine (Any.slices_Sort_int_none Try.lays189 none 0 w).mono fun e w' ⟨he, hw⟩ => ⟨_, he, ?_, ?_⟩
   · subst hw
     rw [show rs.set j (.row 3 (.slice none 0 0) (([] : List Int).mergeSort fun x y => decide (x ≤ y))) = rs from by
       apply List.ext_getElem?
       intro q
       rw [List.getElem?_set]
       split
       · rename_i e1; subst e1; rw [hj, if_pos (List.getElem?_eq_some_iff.1 hj).1]; simp
       rfl]
     exact H
   subst hw; exact ⟨rfl, rfl, rfl, Nat.le_refl _, fun _ _ _ => rfl⟩
 have hgs : g < w.heap.size := (Array.getElem?_eq_some_iff.1 hg).1
 have ht : cur.toList.take l.length = l.map (Value.int .i64) := by rw [← htake]; congr 1; exact (Nat.mul_one _).symm
 have hc3 : cur.size = cap * 1 := hcs
 refine (Try.slices_Sort_int g 0 cap l w (holds_of_blockI hg ht) hgs (by omega)).mono fun e w' ⟨he, n, os, hw⟩ => ⟨_, he, ?_, ?_⟩
 · subst hw
   refine H.set j hj _ ⟨_, ?_, ints_row _⟩ (grownBy_sortedI _) (fun b hb => .inl hb)
   show World.ownsRow _ 0 3 1 _ _ _
   rw [hlen]
   exact ownsRow_sortedI hlen (Nat.zero_le _) hg hnc hcm hc3
 subst hw; exact grownBy_sortedI _
theorem compact_row {o : Orig} {w : World} {S : Stab} {rs : List Res} (H : Fr o w S rs) (j : Nat) {v : Value} {l : List Int} (hj : rs[j]? = some (.row 3 v l)) (hl : l.length ≤ 2147483647) :
   Calls Try.prog 75 #[v] w fun e w' => ∃ u, e = .returned u ∧ Fr o w' S (rs.set j (.row 3 u (compact l))) ∧ w.grownBy w' v.ownBlock := by
 obtain ⟨xs, h1, h2⟩ := H.ok _ (List.mem_of_getElem? hj)
 have hxs := row_ints h2
 subst hxs
 have hle : (compact l).length ≤ l.length := compact_length_le l
 rcases h1.2 with ⟨rfl, h0⟩ | ⟨g, cap, cur, rfl, _, hg, hnc, hcm, hcs, htake⟩
 · have : l = [] := List.eq_nil_of_length_eq_zero h0
   subst this
   refine (Try.slices_Compact_int_empty none 0 w).mono fun e w' ⟨he, hw⟩ => ⟨_, he, ?_, ?_⟩
   · subst hw
     rw [show rs.set j (.row 3 (.slice none 0 0) (compact ([] : List Int))) = rs from by
       apply List.ext_getElem?
       intro q
       rw [List.getElem?_set]
       split
       · rename_i e1; subst e1; rw [hj, if_pos (List.getElem?_eq_some_iff.1 hj).1]; rfl
       rfl]
     exact H
   subst hw; exact ⟨rfl, rfl, rfl, Nat.le_refl _, fun _ _ _ => rfl⟩
 have hgs : g < w.heap.size := (Array.getElem?_eq_some_iff.1 hg).1
 have ht : cur.toList.take l.length = l.map (Value.int .i64) := by rw [← htake]; congr 1; exact (Nat.mul_one _).symm
 have hc3 : cur.size = cap * 1 := hcs
 refine (Try.slices_Compact_int g 0 cap l w (holds_of_blockI hg ht) (by omega) hnc).mono fun e w' ⟨he, n, hw⟩ => ⟨_, he, ?_, ?_⟩
 · have hw2 : w' = grow (putRow (Value.int .i64) (Sort.ahead w n) g 0 (compact l ++ List.replicate (l.length - (compact l).length) 0).toArray) #[] := by rw [hw, grow_empty]
   subst hw2
   refine H.set j hj _ ⟨(compact l).map (Value.int .i64), ?_, ints_row _⟩ (grownBy_sortedI _) (fun b hb => .inl hb)
   show World.ownsRow _ 0 3 1 _ _ _
   have hlen2 : (compact l ++ List.replicate (l.length - (compact l).length) (0 : Int)).length = l.length := by rw [List.length_append, List.length_replicate]; omega
   have h := ownsRow_sortedI (w := w) (base := 0) (n := n) (os := #[]) hlen2 (Nat.zero_le _) hg hnc hcm hc3
   refine ⟨by simp, ?_⟩
   rcases h.2 with ⟨q, _⟩ | ⟨g', cap', cur', hv, q1, q2, q3, q4, q5, q6⟩
   · cases q
   cases hv
   refine .inr ⟨g, cap, cur', rfl, q1, q2, by omega, q4, q5, ?_⟩
   show cur'.toList.take ((compact l).length * 1) = _
   have := congrArg (List.take ((compact l).length * 1)) q6
   rw [List.take_take, Nat.min_eq_left (by omega), List.map_append, List.take_left' (by simp)] at this
   exact this
 have hw2 : w' = grow (putRow (Value.int .i64) (Sort.ahead w n) g 0 (compact l ++ List.replicate (l.length - (compact l).length) 0).toArray) #[] := by rw [hw, grow_empty]
 rw [hw2]; exact grownBy_sortedI _
section
variable {P : Program} {Q : Post} {a : Act} {w : World}
theorem q_any {ops : Array Oper} {N : Act → World → Prop} {n : Nat} {env : Env} (i d : Nat) (f : FuncId) (args : Array Operand) (ats : Array TypeId) (us : List Value) (R : Value → World → Prop) (keep : List (Nat × Value)) (ha : EnvOk n a env)
   (hc : Calls P f us.toArray w fun e w' => ∃ u, e = .returned u ∧ R u w')
   (k : ∀ v a' w', R v w' → EnvOk n a' (keepEnv ((d, v) :: keep)) → N a' w')
   (h : opAt ops i = some (.call { callee := .value (.func f), args := args, argTypes := ats }, some d, none) := by kernel_rfl) (hargs : (args.toList.map (getOp env [])).mapM id = some us := by kernel_rfl) (hf : Callable P f := by exact callable_of)
   (hk : KeepEq n d env keep := by delta KeepEq; kernel_rfl) : wpOp P ops Q i N a w := by
 obtain ⟨hd, hk⟩ := Prod.mk.inj hk
 refine list_call (first := []) (cap := []) (R := R) keep ha h (of_decide_eq_true hd) rfl hargs (fun y hy => ?_) hf (by simpa using hc) k
 have := List.map_inj_left.1 hk y hy
 simp only [Prod.mk.injEq, bne_iff_ne, ne_eq] at this
 exact this
end
end Go.Proofs.Ytahonnlgkmimlaa
