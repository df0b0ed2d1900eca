/-
  The laws of append, of a string's iterator, and of the end of a call, over the resources of LibB. No program in sight.
-/
import Derived.Test.YtbdgelipabndaaaLibB
namespace Go.Proofs.Ytbdgelipabndaaa
open Go.RowKit

/-- What is asked of an element type's row of the table. -/
structure Elem (P : Program) (t e : TypeId) (size bytes : Nat) : Prop where
  under : P.underlying t = some (.slice e)
  info : ∃ i z, P.info? e = some i ∧ i.zero = some z ∧ i.size = size ∧ i.bytes = bytes ∧ z.cells.size = size
  pos : 0 < size

theorem elem_of {P : Program} {t e : TypeId} {z : Value} {size bytes : Nat} (hu : P.underlying t = some (.slice e)) (h : (P.info? e).map (fun i => (i.zero, i.size, i.bytes)) = some (some z, size, bytes)) (hz : z.cells.size = size) (hp : 0 < size) : Elem P t e size bytes := by
  obtain ⟨i, h1, h2, h3, h4⟩ := info_parts h
  exact ⟨hu, ⟨i, z, h1, h2, h3, h4, hz⟩, hp⟩

/-- Append to a row: the same block, or a new one. -/
theorem run_push {P : Program} {t ty e : TypeId} {size bytes : Nat} (E : Elem P t e size bytes) (w : World) (v : Value) (n : Nat) (xs : List Value) (hown : w.ownsRow 0 e size v n xs)
    (a : Addr) (m c : Nat) (news : List Value) (hl : news.length = m * size) (hnews : ∀ j u, news[j]? = some u → w.cell? (a.add j) = some u) (h1 : ∀ u ∈ news, u.oneCell' = true)
    (h63 : n + m ≤ maxLen) (hbytes : (n + m) * bytes ≤ 140737488355328) :
    ∃ v' w', (Builtin.append_ #[t, t] ty #[v, .slice (some a) m c]).run P w = .ok v' w' ∧ w'.ownsRow 0 e size v' (n + m) (xs ++ news) ∧ w.grownBy w' v.ownBlock ∧
      (∀ b, v'.ownBlock = some b → v.ownBlock = some b ∨ (w.heap.size ≤ b ∧ b < w'.heap.size)) := by
  obtain ⟨i, z, hi, hz, hsize, hby, hzs⟩ := E.info
  by_cases hnil : v = .slice none 0 0 ∨ ¬ (∃ g cap, v = .slice (some ⟨g, 0, none⟩) n cap ∧ n + m ≤ cap)
  · -- a new block, or nothing
    have hkey : ∃ base, base = w.heap.size ∧ True := ⟨_, rfl, trivial⟩
    rcases hown.2 with ⟨rfl, rfl⟩ | ⟨g, cap, cur, rfl, hbg, hg, hnc, hcm, hcs, htake⟩
    · have hx : xs = [] := List.eq_nil_of_length_eq_zero (by simpa using hown.1)
      subst hx
      obtain ⟨v', w', hr, h2, h3, h4⟩ := run_append_own (P := P) w w.heap.size t ty e i z size bytes E.under hi hz hsize hby hzs E.pos (.slice none 0 0) 0 [] (World.ownsRow_nil _ _ _ _) a m c news hl hnews h1 h63 hbytes (Nat.le_refl _)
      refine ⟨v', w', hr, ⟨h2.1, ?_⟩, h3, fun b hb => .inr (h2.lt b hb)⟩
      rcases h2.2 with h | ⟨g, cap, cur, e1, e2, e3⟩
      · exact .inl h
      · exact .inr ⟨g, cap, cur, e1, Nat.zero_le _, e3⟩
    · have hroom : ¬ n + m ≤ cap := by
        rcases hnil with h | h
        · cases h
        · intro hh; exact h ⟨g, cap, rfl, hh⟩
      have holds : ∀ j u, xs[j]? = some u → w.cell? ((⟨g, 0, none⟩ : Addr).add j) = some u := hown.cells (g := g) rfl
      have h63' : n + m ≤ 9223372036854775807 := by simp only [maxLen] at h63; omega
      have hr := run_append_grow (P := P) w t ty e i z E.under hi hz ⟨g, 0, none⟩ n cap xs (by rw [hsize]; exact hown.1) holds a m c news (by rw [hsize]; exact hl) hnews (by omega) (by omega) (by rw [hby]; exact growslice_fits (by omega) hbytes)
      have hge := grownCap_ge w (n + m) cap e
      have hcm' : grownCap w (n + m) cap e ≤ maxLen := grownCap_le_maxLen w (n + m) cap e h63
      refine ⟨_, _, hr, ⟨by rw [List.length_append, hown.1, hl, Nat.add_mul], .inr ⟨w.heap.size, _, _, rfl, Nat.zero_le _, heap_alloc_new w.drew _, hge, hcm', ?_, ?_⟩⟩, ⟨rfl, rfl, rfl, by simp, fun k hk _ => heap_alloc_old w.drew _ hk⟩, ?_⟩
      · simp only [Array.size_append, List.size_toArray, size_zeroCells, hzs, hown.1, hl, ← Nat.add_mul]
        congr 1
        omega
      · simp only [Array.toList_append, List.append_assoc]
        rw [← List.append_assoc, Nat.add_mul, ← hown.1, ← hl, ← List.length_append]
        exact List.take_left
      · intro b hb
        simp [Value.ownBlock] at hb
        subst hb
        exact .inr ⟨Nat.le_refl _, by simp⟩
  · -- in its place
    have hv : ∃ g cap, v = .slice (some ⟨g, 0, none⟩) n cap ∧ n + m ≤ cap := Classical.byContradiction fun h => hnil (.inr h)
    obtain ⟨g, cap, rfl, hroom⟩ := hv
    rcases hown.2 with ⟨h, _⟩ | ⟨g', cap', cur, hv', hbg, hg, hnc, hcm, hcs, htake⟩
    · cases h
    · cases hv'
      have hfit : n * i.size + news.length ≤ cur.size := by rw [hl, hcs, hsize, ← Nat.add_mul]; exact Nat.mul_le_mul_right _ hroom
      have hr := run_append_room (P := P) w t ty e i E.under hi g n cap cur hg a m c news (by rw [hsize]; exact hl) hnews h1 hroom hfit
      refine ⟨_, _, hr, ⟨by rw [List.length_append, hown.1, hl, Nat.add_mul], .inr ⟨g, cap, _, rfl, Nat.zero_le _, setRow_heap w g cur _ e _ hg, hroom, hcm, ?_, ?_⟩⟩, ⟨rfl, rfl, rfl, by simp, fun k _ hk => setRow_other w g k _ (fun e => hk (by simp [Value.ownBlock, e]))⟩, fun b hb => .inl hb⟩
      · simp only [List.size_toArray, List.length_append, List.length_take, List.length_drop, Array.length_toList]
        omega
      · rw [hsize, htake, Nat.add_mul, ← hown.1, ← hl, ← List.length_append]
        exact List.take_left

/-- The same over resources: row number i takes new elements behind it. -/
theorem Fr.push {P : Program} {t ty e : TypeId} {α : Type} [Data α] {bytes : Nat} (E : Elem P t e (Data.size α) bytes) {w0 : Orig} {w : World} {S : Stab} {rs : List Res} (h : Fr w0 w S rs) (i : Nat) {v : Value} {l : List α} (hi : rs[i]? = some (.row e v l))
    (a : Addr) (c : Nat) (m : List α) (news : List Value) (hrd : RowRd S w news m) (hnews : ∀ j u, news[j]? = some u → w.cell? (a.add j) = some u)
    (h63 : l.length + m.length ≤ maxLen) (hbytes : (l.length + m.length) * bytes ≤ 140737488355328) :
    ∃ v' w', (Builtin.append_ #[t, t] ty #[v, .slice (some a) m.length c]).run P w = .ok v' w' ∧ Fr w0 w' S (rs.set i (.row e v' (l ++ m))) ∧ w.grownBy w' v.ownBlock := by
  obtain ⟨xs, h1, h2⟩ := h.ok _ (List.mem_of_getElem? hi)
  obtain ⟨v', w', hr, k1, k2, k3⟩ := run_push E w v l.length xs h1 a m.length c news hrd.1 hnews hrd.one h63 hbytes
  have hS : Keeps S w w' := fun k hk => k2.block k (h.inb k hk) (fun e => (h.own _ (List.mem_of_getElem? hi) k e.symm).2.2 hk)
  refine ⟨v', w', hr, h.set i hi _ ⟨xs ++ news, by rw [List.length_append]; exact k1, (h2.keep hS).append (hrd.keep hS)⟩ k2 k3, k2⟩

/-- The iterator moves on. -/
theorem Fr.next {w0 : Orig} {w : World} {S : Stab} {rs : List Res} (h : Fr w0 w S rs) (i : Nat) {b : Nat} {s : ByteArray} {pos : Nat} (hi : rs[i]? = some (.iter b s pos)) (pos' : Nat) : Fr w0 (w.iterAt b s pos') S (rs.set i (.iter b s pos')) := by
  have hok := h.ok _ (List.mem_of_getElem? hi)
  refine h.set i hi _ (Lib.iterAt_heap w b s pos pos' hok) ⟨rfl, rfl, rfl, by rw [Lib.iterAt_size]; exact Nat.le_refl _, fun k hk hne => Lib.iterAt_other w b k s pos' (fun e => hne (by rw [e]; rfl))⟩ (fun b' hb' => .inl hb')

theorem Fr.iter_at {w0 : Orig} {w : World} {S : Stab} {rs : List Res} (h : Fr w0 w S rs) (i : Nat) {b : Nat} {s : ByteArray} {pos : Nat} (hi : rs[i]? = some (.iter b s pos)) : w.heap[b]? = some (.stringIter s pos) :=
  h.ok _ (List.mem_of_getElem? hi)

/-- A row that is written no more reads as plain data, out of all that is there. -/
theorem Fr.out {α : Type} [Data α] {w0 : Orig} {w : World} {S : Stab} {rs : List Res} (h : Fr w0 w S rs) (i : Nat) {e : TypeId} {v : Value} {l : List α} (hi : rs[i]? = some (.row e v l)) : Rd (· < w.heap.size) w v l := by
  obtain ⟨xs, h1, h2⟩ := h.ok _ (List.mem_of_getElem? hi)
  refine slice_rd ?_
  rcases h1.2 with ⟨rfl, hn⟩ | ⟨g, cap, cur, rfl, _, hg, hnc, hcm, hcs, htake⟩
  · have : l = [] := List.eq_nil_of_length_eq_zero hn
    subst this
    exact ⟨none, 0, rfl, by simp, by simp [maxLen], .inl rfl⟩
  · refine ⟨_, cap, rfl, hnc, hcm, .inr ⟨g, 0, cur, e, (0, 0), rfl, (Array.getElem?_eq_some_iff.1 hg).1, hg, fun j hj => ?_⟩⟩
    refine ⟨_, Data.up h.inb (h2.2 j hj), fun q hq => ?_⟩
    rw [List.getElem?_take, if_pos hq, List.getElem?_drop, ← htake, List.getElem?_take, if_pos ?_]
    · simp
    · have := Nat.mul_le_mul_right (Data.size α) (show j + 1 ≤ l.length from hj)
      rw [Nat.succ_mul] at this
      omega

/-- The same, said for the caller: out of the arguments' blocks and new ones. -/
theorem Fr.give {α : Type} [Data α] {w0 : Orig} {w : World} {S : Stab} {rs : List Res} (h : Fr w0 w S rs) (i : Nat) {e : TypeId} {v : Value} {l : List α} (hi : rs[i]? = some (.row e v l)) : Rd (Since w0 w) w v l := by
  obtain ⟨xs, h1, h2⟩ := h.ok _ (List.mem_of_getElem? hi)
  have hS : ∀ k, S k → Since w0 w k := fun k hk => (h.src k hk).elim .inl fun q => .inr ⟨q, h.inb k hk⟩
  refine slice_rd ?_
  rcases h1.2 with ⟨rfl, hn⟩ | ⟨g, cap, cur, rfl, _, hg, hnc, hcm, hcs, htake⟩
  · have : l = [] := List.eq_nil_of_length_eq_zero hn
    subst this
    exact ⟨none, 0, rfl, by simp, by simp [maxLen], .inl rfl⟩
  · obtain ⟨hg1, hg2, _⟩ := h.own _ (List.mem_of_getElem? hi) g rfl
    refine ⟨_, cap, rfl, hnc, hcm, .inr ⟨g, 0, cur, e, (0, 0), rfl, .inr ⟨hg1, hg2⟩, hg, fun j hj => ?_⟩⟩
    refine ⟨_, Data.up hS (h2.2 j hj), fun q hq => ?_⟩
    rw [List.getElem?_take, if_pos hq, List.getElem?_drop, ← htake, List.getElem?_take, if_pos ?_]
    · simp
    · have := Nat.mul_le_mul_right (Data.size α) (show j + 1 ≤ l.length from hj)
      rw [Nat.succ_mul] at this
      omega
theorem Fr.since {w0 : Orig} {w : World} {S : Stab} {rs : List Res} (h : Fr w0 w S rs) : ∀ k, S k → Since w0 w k := fun k hk => (h.src k hk).elim .inl fun q => .inr ⟨q, h.inb k hk⟩

theorem Rd.all {α : Type} [Data α] {w0 : Orig} {w : World} {S : Stab} {rs : List Res} (h : Fr w0 w S rs) {v : Value} {a : α} (hr : Rd S w v a) : Rd (· < w.heap.size) w v a := hr.up h.inb

end Go.Proofs.Ytbdgelipabndaaa
