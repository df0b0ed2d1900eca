/-
  What an argument's reading says of its cells: numbers, structs, slices of them. No walk in sight.
-/
import Derived.Test.YtahonnlgkmimlaaRowA
import Derived.Test.YtahonnlgkmimlaaEngJ
import Derived.Deep.Slices
import Derived.Carry
set_option linter.unusedSimpArgs false
set_option linter.unusedVariables false
namespace Go.Proofs.Ytahonnlgkmimlaa
open Go.ChangeShapes Go.WideShapes Go.ChangeAt Go.RowKit

/-- What is read as t is a datum of memory, and ok. -/
def Opens (P : Program) (t : TypeId) {α : Type} [Data α] (ok : α → Prop) : Prop :=
  ∀ {H : Type} {enc : TypeId × Value → H} {w : World} {base : Nat} {sp : Nat → Bool} {hd : Bool} {fuel : Nat} {cs : List Value} {x : DataW H × List MemPlace},
    DataW.trod enc P w base sp hd fuel t cs = some x → ∃ a : α, Data.rd (· < w.heap.size) w cs a ∧ ok a

def In64 (n : Int) : Prop := -9223372036854775808 ≤ n ∧ n ≤ 9223372036854775807

theorem opens_int {P : Program} {t : TypeId} (ht : P.underlying t = some (.int .i64)) : Opens P t In64 := by
  intro H enc w base sp hd fuel cs x h
  obtain ⟨n, rfl, _, hw⟩ := DataW.trod_int ht h
  exact ⟨n, rfl, wf_i64 hw⟩

theorem opens_pair {P : Program} {t : TypeId} {f0 f1 : Field} {α β : Type} [Data α] [Data β] {ok0 : α → Prop} {ok1 : β → Prop} (ht : P.underlying t = some (.struct #[f0, f1])) (h0 : Opens P f0.type ok0) (h1 : Opens P f1.type ok1)
    (o0 : f0.offset = 0) (o1 : f1.offset = Data.size α) (c0 : P.cellsOf f0.type = Data.size α) (c1 : P.cellsOf f1.type = Data.size β) (ct : P.cellsOf t = Data.size α + Data.size β) : Opens P t (α := α × β) fun x => ok0 x.1 ∧ ok1 x.2 := by
  intro H enc w base sp hd fuel cs x h
  obtain ⟨xs, n, _, _, hcs, hxs, hf⟩ := DataW.trod_struct ht h
  match xs, hxs with
  | [y0, y1], _ =>
    have g0 := hf 0 f0 rfl
    have g1 := hf 1 f1 rfl
    rw [o0, c0, List.drop_zero] at g0
    rw [o1, c1] at g1
    obtain ⟨a, ra, ka⟩ := h0 (x := y0) g0
    obtain ⟨b, rb, kb⟩ := h1 (x := y1) g1
    refine ⟨(a, b), ⟨_, _, ?_, ra, rb⟩, ka, kb⟩
    have e1 : (cs.drop (Data.size α)).take (Data.size β) = cs.drop (Data.size α) := List.take_of_length_le (by rw [List.length_drop, hcs, ct]; omega)
    rw [e1, List.take_append_drop]

theorem opens_slice {P : Program} {t e : TypeId} {α : Type} [Data α] {ok : α → Prop} (ht : P.underlying t = some (.slice e)) (h : Opens P e ok) (hc : P.cellsOf e = Data.size α) (hp : 0 < Data.size α) : Opens P t (α := List α) fun l => ∀ a ∈ l, ok a := by
  intro H enc w base sp hd fuel cs x hx
  rcases Go.Deep.open_slice ht hx with ⟨rfl, _⟩ | ⟨a, len, cap, m, n, D, Pl, rfl, hb, hl, hm, hmm, rfl, hel⟩
  · exact ⟨[], ⟨_, rfl, none, 0, rfl, by simp, by simp [maxLen], .inl rfl⟩, by simp⟩
  · have hlm : len ≤ m := by rw [hmm]; split <;> omega
    have each : ∀ i : Fin len, ∃ y : α, ∃ cs' : List Value, (∀ j, j < Data.size α → w.cell? ((a.add (i.val * Data.size α)).add j) = cs'[j]?) ∧ cs'.length = Data.size α ∧ Data.rd (· < w.heap.size) w cs' y ∧ ok y := by
      intro i
      obtain ⟨cs', h1, h2⟩ := hel i.val (by omega)
      rw [hc] at h1
      obtain ⟨_, hlen, hcell⟩ := World.cells?_some h1
      obtain ⟨y, ry, ky⟩ := h h2
      exact ⟨y, cs', hcell, hlen, ry, ky⟩
    refine ⟨List.ofFn fun i => Classical.choose (each i), ⟨_, rfl, some a, cap, by rw [List.length_ofFn], by rw [List.length_ofFn]; exact hl, hm, ?_⟩, fun y hy => ?_⟩
    · by_cases h0 : len = 0
      · left; subst h0; rfl
      · right
        obtain ⟨cs0, k1, k2, _⟩ := Classical.choose_spec (each ⟨0, by omega⟩)
        have k0 := k1 0 hp
        rw [Go.Deep.add_add, List.getElem?_eq_getElem (by omega)] at k0
        have e0 : a.add (0 * Data.size α + 0) = a := by simp [Addr.add]
        simp only [e0] at k0
        obtain ⟨g, off, spot⟩ := a
        unfold World.cell? at k0
        simp only at k0
        split at k0
        · rename_i cur ty fz hheap
          split at k0
          · cases k0
          · rename_i hs
            have hsp : spot = none := by cases spot <;> simp_all
            subst hsp
            refine ⟨g, off, cur, ty, fz, rfl, (Array.getElem?_eq_some_iff.1 hheap).1, hheap, fun i hi => ?_⟩
            rw [List.length_ofFn] at hi
            obtain ⟨cs', k1, k2, k3, _⟩ := Classical.choose_spec (each ⟨i, hi⟩)
            refine ⟨cs', by rw [List.getElem_ofFn]; exact k3, fun j hj => ?_⟩
            rw [← k1 j hj, Go.Deep.add_add]
            have hadd : (⟨g, off, none⟩ : Addr).add (i * Data.size α + j) = ⟨g, off + (i * Data.size α + j), none⟩ := by unfold Addr.add; split <;> simp_all
            rw [hadd, cell_of_row w g _ cur ty fz hheap, Nat.add_assoc]
        · cases k0
    · obtain ⟨i, rfl⟩ := List.mem_ofFn.1 hy
      obtain ⟨cs', _, _, _, k4⟩ := Classical.choose_spec (each i)
      exact k4

/-- An argument that is a slice. -/
theorem arg_slice {P : Program} {t e : TypeId} {α : Type} [Data α] {ok : List α → Prop} (ho : Opens P t ok) (ht : P.underlying t = some (.slice e)) {H : Type} {enc : TypeId × Value → H} {W : World} {b0 : Nat} {sp : Nat → Bool} {hd : Bool} {v : Value} {d : DataW H} {ps : List MemPlace}
    (hval : Value.okWide P W .any b0 t v) (h : DataW.Trod enc P W 0 sp hd t v d ps) : ∃ l : List α, Rd (· < W.heap.size) W v l ∧ ok l := by
  obtain ⟨a, len, cap, rfl⟩ := okWide_slice ht hval
  obtain ⟨fuel, hx⟩ := h
  obtain ⟨l, hl, hk⟩ := ho hx
  exact ⟨l, ⟨_, hl, by obtain ⟨u, e, _⟩ := hl; rw [e]; simp [Value.cells] at e; rw [← e]; rfl⟩, hk⟩

/-- An argument that is a struct. -/
theorem arg_struct {P : Program} {t : TypeId} {fs : Array Field} {α : Type} [Data α] {ok : α → Prop} (ho : Opens P t ok) (ht : P.underlying t = some (.struct fs)) {H : Type} {enc : TypeId × Value → H} {W : World} {b0 : Nat} {sp : Nat → Bool} {hd : Bool} {v : Value} {d : DataW H} {ps : List MemPlace}
    (hval : Value.okWide P W .any b0 t v) (h : DataW.Trod enc P W 0 sp hd t v d ps) : ∃ (cs : List Value) (a : α), v = .agg cs.toArray ∧ Data.rd (· < W.heap.size) W cs a ∧ ok a := by
  obtain ⟨cs, rfl, _⟩ := okWide_struct ht hval
  obtain ⟨fuel, hx⟩ := h
  obtain ⟨a, ha, hk⟩ := ho hx
  exact ⟨cs.toList, a, rfl, ha, hk⟩

/-- An argument that is a whole number. -/
theorem arg_int {P : Program} {t : TypeId} (ht : P.underlying t = some (.int .i64)) {H : Type} {enc : TypeId × Value → H} {W : World} {b0 : Nat} {sp : Nat → Bool} {hd : Bool} {v : Value} {d : DataW H} {ps : List MemPlace}
    (hval : Value.okWide P W .any b0 t v) (h : DataW.Trod enc P W 0 sp hd t v d ps) : ∃ n : Int, v = .int .i64 n ∧ In64 n := by
  obtain ⟨n, rfl⟩ := okWide_int ht hval
  obtain ⟨fuel, hx⟩ := h
  obtain ⟨m, h1, _, hw⟩ := DataW.trod_int ht hx
  simp [Value.cells] at h1
  subst h1
  exact ⟨n, rfl, wf_i64 hw⟩
end Go.Proofs.Ytahonnlgkmimlaa
