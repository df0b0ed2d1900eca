/-
  Reading plain data out of memory, step by step. No program in sight.
-/
import Derived.Test.YtbdgelipabndaaaEngE
set_option linter.unusedSimpArgs false
set_option linter.unusedVariables false
namespace Go.Proofs.Ytbdgelipabndaaa
open Go.RowKit

/-- Data whose cells are fixed by the datum. -/
class Flat (α : Type) extends Data α where
  enc : α → List Value
  fix : ∀ {S w cs a}, toData.rd S w cs a → cs = enc a
instance : Flat Int := { (inferInstance : Data Int) with enc := fun n => [.int .i64 n], fix := fun h => h }
instance : Flat Bool := { (inferInstance : Data Bool) with enc := fun n => [.bool n], fix := fun h => h }
instance : Flat ByteArray := { (inferInstance : Data ByteArray) with enc := fun n => [.string n], fix := fun h => h }
instance {α β : Type} [Flat α] [Flat β] : Flat (α × β) :=
  { (inferInstance : Data (α × β)) with
    enc := fun x => Flat.enc x.1 ++ Flat.enc x.2
    fix := by rintro S w cs a ⟨c1, c2, rfl, h1, h2⟩; rw [Flat.fix h1, Flat.fix h2] }

theorem Fr.get {α : Type} [Data α] {w0 : Orig} {w : World} {S : Stab} {rs : List Res} (h : Fr w0 w S rs) (j : Nat) {v : Value} {a : α} (hj : rs[j]? = some (.ro v a)) : Rd (· < w.heap.size) w v a :=
  Rd.up h.inb (h.ok _ (List.mem_of_getElem? hj))

theorem len_ok {α : Type} [Data α] {S : Stab} {w : World} {v : Value} {l : List α} (h : Rd S w v l) : LenOk v ((l.length : Nat) : Int) := by
  obtain ⟨p, c, rfl, _⟩ := rd_slice h
  exact ⟨p, l.length, c, rfl, rfl⟩

theorem idx_ok {α : Type} [Data α] {S : Stab} {w : World} {v : Value} {l : List α} (h : Rd S w v l) {i : Int} (h0 : 0 ≤ i) (h1 : i < (l.length : Int)) : IdxOk v i := by
  obtain ⟨g, off, c, cs, rfl, _⟩ := slice_at (rd_slice h) i.toNat (by omega)
  exact ⟨g, off, l.length, c, rfl, h0, h1⟩

/-- The cells of an element, for every world that leaves what is there alone. -/
theorem cells_at {α : Type} [Data α] {w : World} {v : Value} {l : List α} (h : Rd (· < w.heap.size) w v l) {i : Int} (h0 : 0 ≤ i) (h1 : i < (l.length : Int)) (d : α) :
    ∃ cs, Data.rd (· < w.heap.size) w cs (l.getD i.toNat d) ∧ ∀ j, j < Data.size α → ∀ w', On w w' → w'.cell? ⟨hdB v, hdO v + i.toNat * Data.size α + j, none⟩ = cs[j]? := by
  obtain ⟨p, c, rfl, _, _, h3⟩ := rd_slice h
  rcases h3 with rfl | ⟨g, off, cur, t, fz, rfl, hg, hw, hc⟩
  · simp at h1; omega
  · have hi : i.toNat < l.length := by omega
    obtain ⟨cs, hr, hj⟩ := hc i.toNat hi
    refine ⟨cs, ?_, fun j hj' w' hw' => ?_⟩
    · rw [List.getD_eq_getElem?_getD, List.getElem?_eq_getElem hi]; exact hr
    · show w'.cell? ⟨g, off + i.toNat * Data.size α + j, none⟩ = _
      rw [cell_of_row w' g _ cur t fz ((hw'.block g hg).trans hw)]
      exact hj j hj'

theorem cell_flat {α : Type} [Flat α] {w : World} {v : Value} {l : List α} (h : Rd (· < w.heap.size) w v l) {i : Int} (h0 : 0 ≤ i) (h1 : i < (l.length : Int)) (d : α) (j : Nat) {u : Value}
    (hj : decide (j < Data.size α) = true := by kernel_rfl) (hu : (Flat.enc (l.getD i.toNat d))[j]? = some u := by kernel_rfl) : CellOk (On w) (hdB v) (hdO v + i.toNat * Data.size α + j) u := by
  obtain ⟨cs, hr, hc⟩ := cells_at h h0 h1 d
  intro w' hw'
  rw [hc j (of_decide_eq_true hj) w' hw', Flat.fix hr, hu]

theorem row_flat {α : Type} [Flat α] {w : World} {v : Value} {l : List α} (h : Rd (· < w.heap.size) w v l) {i : Int} (h0 : 0 ≤ i) (h1 : i < (l.length : Int)) (d : α) {n : Nat} {us : Array Value}
    (hn : Data.size α = n := by kernel_rfl) (hu : (Flat.enc (l.getD i.toNat d)).toArray = us := by kernel_rfl) : RowOk (On w) (hdB v) (hdO v + i.toNat * Data.size α) n us := by
  obtain ⟨cs, hr, hc⟩ := cells_at h h0 h1 d
  subst hn; subst hu
  have hcs := Flat.fix hr
  refine ⟨by simp only [List.size_toArray]; rw [← hcs]; exact Data.len hr, fun w' hw' j hj => ?_⟩
  rw [hc j hj w' hw', hcs]
  simp

/-- An element that is a slice itself. -/
theorem cell_slice {α : Type} [Data α] {w : World} {v : Value} {l : List (List α)} (h : Rd (· < w.heap.size) w v l) (i : Int) :
    ∃ u, (0 ≤ i → i < (l.length : Int) → CellOk (On w) (hdB v) (hdO v + i.toNat * 1) u) ∧ (0 ≤ i → i < (l.length : Int) → Rd (· < w.heap.size) w u (l.getD i.toNat [])) := by
  by_cases hb : 0 ≤ i ∧ i < (l.length : Int)
  · obtain ⟨cs, ⟨u, rfl, hu⟩, hc⟩ := cells_at h hb.1 hb.2 []
    refine ⟨u, fun _ _ w' hw' => ?_, fun _ _ => slice_rd hu⟩
    exact hc 0 (show 0 < 1 by decide) w' hw'
  · exact ⟨undef, fun a b => (hb ⟨a, b⟩).elim, fun a b => (hb ⟨a, b⟩).elim⟩

theorem Fr.arg {α : Type} [Data α] {w0 : Orig} {w : World} {S : Stab} {rs : List Res} (h : Fr w0 w S rs) {v : Value} {a : α} (ha : Rd (· < w0.w.heap.size) w0.w v a) : Rd (· < w.heap.size) w v a :=
  (ha.keep (Keeps.below h.below)).up fun _ hk => Nat.lt_of_lt_of_le hk h.below.size

/-- A call that hands back data: of what it makes, and of the blocks that it is said to lean on. -/
abbrev Giv (o : Orig) (R : Stab → Value → World → Prop) : Ending → World → Prop := fun e w' => ∃ v, e = .returned v ∧ R (Since o w') v w' ∧ Below o.w.heap.size o.w w'

section
variable {P : Program} {Q : Post} {a : Act} {w : World}
theorem q_call {ops : Array Oper} {N : Act → World → Prop} {n : Nat} {env : Env} {w0 : Orig} {S : Stab} {rs : List Res} (i d : Nat) (f : FuncId) (args : Array Operand) (ats : Array TypeId) (us : List Value) (R : Stab → Value → World → Prop) (keep : List (Nat × Value)) (ha : EnvOk n a env) (H : Fr w0 w S rs)
    (hc : Calls P f us.toArray w (Giv H.at R))
    (k : ∀ v a' w' S, R S v w' → Fr w0 w' S rs → EnvOk n a' (keepEnv ((d, v) :: keep)) → Below w.heap.size w w' → N a' w')
    (h : opAt ops i = some (.call { callee := .value (.func f), args := args, argTypes := ats }, some d, none) := by kernel_rfl) (hargs : (args.toList.map (getOp env [])).mapM id = some us := by kernel_rfl) (hf : Callable P f := by exact callable_of)
    (hk : KeepEq n d env keep := by delta KeepEq; kernel_rfl) : wpOp P ops Q i N a w := by
  obtain ⟨hd, hk⟩ := Prod.mk.inj hk
  refine list_call (first := []) (cap := []) (R := fun v w' => R (Since H.at w') v w' ∧ Below w.heap.size w w') keep ha h (of_decide_eq_true hd) rfl hargs (fun y hy => ?_) hf (by simpa using hc) fun v a' w' hR ha' => ?_
  · have := List.map_inj_left.1 hk y hy
    simp only [Prod.mk.injEq, bne_iff_ne, ne_eq] at this
    exact this
  · exact k v a' w' _ hR.1 (H.call hR.2) ha' hR.2
end

end Go.Proofs.Ytbdgelipabndaaa
