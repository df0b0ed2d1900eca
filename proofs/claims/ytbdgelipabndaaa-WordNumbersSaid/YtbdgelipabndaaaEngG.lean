/-
  More forms of steps. No program in sight.
-/
import Derived.Test.YtbdgelipabndaaaEngF
set_option linter.unusedSimpArgs false
set_option linter.unusedVariables false
namespace Go.Proofs.Ytbdgelipabndaaa
open Go.RowKit

theorem max_ok {P : Program} {ats : Array TypeId} {k : IntKind} {a b : Int} (ty : TypeId) (w : World) : (Builtin.max_ ats ty [.int k a, .int k b].toArray).run P w = .ok (.int k (max a b)) w := by
  have e : (if b > a then b else a) = max a b := by split <;> omega
  simp [Builtin.max_, Builtin.max2, e]
theorem min_ok {P : Program} {ats : Array TypeId} {k : IntKind} {a b : Int} (ty : TypeId) (w : World) : (Builtin.min_ ats ty [.int k a, .int k b].toArray).run P w = .ok (.int k (min a b)) w := by
  have e : (if b < a then b else a) = min a b := by split <;> omega
  simp [Builtin.min_, Builtin.min2, e]

theorem ans_s {x y : ByteArray} {w w' : World} (h : x = y) (hb : Below w.heap.size w w') : Ans (.string y) w (.returned (.string x)) w' := ⟨by rw [h], hb⟩
theorem box_at {w : World} {o : Orig} {S : Stab} {rs : List Res} (H : Fr o w S rs) (j : Nat) {b : Nat} {t : TypeId} {vs : List Value} (hj : rs[j]? = some (.box b t vs)) :
    ∀ w', On w w' → w'.heap[b]? = some (.cells vs.toArray t (0, 0)) := by
  intro w' hw'
  have h : w.heap[b]? = some (.cells vs.toArray t (0, 0)) := H.ok _ (List.mem_of_getElem? hj)
  rw [hw'.block b (H.own _ (List.mem_of_getElem? hj) b rfl).2.1]
  exact h
/-- A cell of a box of the call's own. -/
theorem box_cell {w : World} {o : Orig} {S : Stab} {rs : List Res} (H : Fr o w S rs) (j : Nat) {b : Nat} {t : TypeId} {vs : List Value} (hj : rs[j]? = some (.box b t vs)) (i : Nat) {u : Value} (hu : vs[i]? = some u := by kernel_rfl) : CellOk (On w) b i u := by
  intro w' hw'
  rw [cell_of_row w' b i _ t _ (box_at H j hj w' hw')]
  simpa using hu
theorem box_row {w : World} {o : Orig} {S : Stab} {rs : List Res} (H : Fr o w S rs) (j : Nat) {b : Nat} {t : TypeId} {vs : List Value} (hj : rs[j]? = some (.box b t vs)) (i n : Nat) {us : Array Value}
    (hn : us.size = n := by kernel_rfl) (hu : ((vs.drop i).take n).toArray = us := by kernel_rfl) : RowOk (On w) b i n us := by
  refine ⟨hn, fun w' hw' k hk => ?_⟩
  rw [cell_of_row w' b (i + k) _ t _ (box_at H j hj w' hw'), ← hu]
  simp [List.getElem?_take, hk]
theorem conv_box {P : Program} {w : World} {o : Orig} {S : Stab} {rs : List Res} (H : Fr o w S rs) (j : Nat) {b : Nat} {t : TypeId} (xs : List Int) (n : Nat) (hn : xs.length = n) (vs : List Value) (hv : vs = xs.map (Value.int .u8)) (hj : rs[j]? = some (.box b t vs)) {src dst e cap : Nat}
    (hs : P.underlying src = some (.slice e)) (he : P.underlying e = some (.int .u8)) (hd : P.underlying dst = some .string) :
    ∀ w', On w w' → (convert src dst (.slice (some ⟨b, 0, none⟩) n cap)).run P w' = .ok (.string (strOfNums xs)) w' := by
  subst hn; subst hv
  intro w' hw'
  refine run_convert_bytes_arg w' src e hs he b 0 xs.length cap xs rfl (fun i hi => ?_) dst hd
  rw [cell_of_row w' b (0 + i) _ t _ (box_at H j hj w' hw')]
  simp [List.getElem?_eq_getElem hi]
end Go.Proofs.Ytbdgelipabndaaa
