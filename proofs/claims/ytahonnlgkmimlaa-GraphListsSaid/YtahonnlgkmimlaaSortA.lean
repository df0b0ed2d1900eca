/-
  slices.Sort and Compact at []int, by the kit's contracts, over the rows of a call's own. No program in sight but these two functions' numbers.
-/
import Derived.Test.YtahonnlgkmimlaaEngK
import Derived.Test.YtahonnlgkmimlaaShelf
import Derived.Shelf.Slices.In.SortNone
import Derived.Sort.OwnSortedInts
import Derived.Lib.RowBridge
set_option linter.unusedSimpArgs false
set_option linter.unusedVariables false
namespace Go.Proofs.Ytahonnlgkmimlaa
open Go.RowKit Go.Sort Go.Lib

theorem row_ints {S : Stab} {w : World} {xs : List Value} {l : List Int} (h : RowRd S w xs l) : xs = l.map (Value.int .i64) := by
  obtain ⟨h1, h2⟩ := h
  apply List.ext_getElem
  · rw [List.length_map, h1]; show l.length * 1 = _; omega
  · intro i hi hi'
    have hil : i < l.length := by simpa using hi'
    have := h2 i hil
    have e : (xs.drop (i * Data.size Int)).take (Data.size Int) = [.int .i64 l[i]] := this
    rw [show i * Data.size Int = i from Nat.mul_one i, show Data.size Int = 1 from rfl, List.drop_eq_getElem_cons hi, List.take_succ_cons, List.take_zero] at e
    simp only [List.cons.injEq, and_true] at e
    rw [e]; simp
theorem ints_row {S : Stab} {w : World} (l : List Int) : RowRd S w (l.map (Value.int .i64)) l := by
  refine ⟨by show _ = l.length * 1; simp, fun i hi => ?_⟩
  show ((l.map (Value.int .i64)).drop (i * 1)).take 1 = [.int .i64 l[i]]
  rw [Nat.mul_one, List.drop_eq_getElem_cons (by simpa using hi), List.take_succ_cons, List.take_zero]
  simp

/-- A call that turns row j in place. -/
theorem sort_row {o : Orig} {w : World} {S : Stab} {rs : List Res} (H : Fr o w S rs) (j : Nat) {v : Value} {l : List Int} (hj : rs[j]? = some (.row 3 v l)) (hl : l.length ≤ 2147483647) :
    Calls Try.prog 74 #[v] w fun e w' => ∃ u, e = .returned u ∧ Fr o w' S (rs.set j (.row 3 v (l.mergeSort fun x y => decide (x ≤ y)))) ∧ w.grownBy w' v.ownBlock := by
  obtain ⟨xs, h1, h2⟩ := H.ok _ (List.mem_of_getElem? hj)
  have hxs := row_ints h2
  subst hxs
  have hlen : (l.mergeSort fun x y => decide (x ≤ y)).length = l.length := List.length_mergeSort _
  rcases h1.2 with ⟨rfl, h0⟩ | ⟨g, cap, cur, rfl, _, hg, hnc, hcm, hcs, htake⟩
  · have : l = [] := List.eq_nil_of_length_eq_zero h0
    subst this
    refine (Any.slices_Sort_int_none Try.lays189 none 0 w).mono fun e w' ⟨he, hw⟩ => ⟨_, he, ?_, ?_⟩
    · subst hw
      rw [show rs.set j (.row 3 (.slice none 0 0) (([] : List Int).mergeSort fun x y => decide (x ≤ y))) = rs from by
        apply List.ext_getElem?
        intro q
        rw [List.getElem?_set]
        split
        · rename_i e1; subst e1; rw [hj, if_pos (List.getElem?_eq_some_iff.1 hj).1]; simp
        · rfl]
      exact H
    · subst hw; exact ⟨rfl, rfl, rfl, Nat.le_refl _, fun _ _ _ => rfl⟩
  · have hgs : g < w.heap.size := (Array.getElem?_eq_some_iff.1 hg).1
    have ht : cur.toList.take l.length = l.map (Value.int .i64) := by rw [← htake]; congr 1; exact (Nat.mul_one _).symm
    have hc3 : cur.size = cap * 1 := hcs
    refine (Try.slices_Sort_int g 0 cap l w (holds_of_blockI hg ht) hgs (by omega)).mono fun e w' ⟨he, n, os, hw⟩ => ⟨_, he, ?_, ?_⟩
    · subst hw
      refine H.set j hj _ ⟨_, ?_, ints_row _⟩ (grownBy_sortedI _) (fun b hb => .inl hb)
      show World.ownsRow _ 0 3 1 _ _ _
      rw [hlen]
      exact ownsRow_sortedI hlen (Nat.zero_le _) hg hnc hcm hc3
    · subst hw; exact grownBy_sortedI _

theorem compact_row {o : Orig} {w : World} {S : Stab} {rs : List Res} (H : Fr o w S rs) (j : Nat) {v : Value} {l : List Int} (hj : rs[j]? = some (.row 3 v l)) (hl : l.length ≤ 2147483647) :
    Calls Try.prog 75 #[v] w fun e w' => ∃ u, e = .returned u ∧ Fr o w' S (rs.set j (.row 3 u (compact l))) ∧ w.grownBy w' v.ownBlock := by
  obtain ⟨xs, h1, h2⟩ := H.ok _ (List.mem_of_getElem? hj)
  have hxs := row_ints h2
  subst hxs
  have hle : (compact l).length ≤ l.length := compact_length_le l
  rcases h1.2 with ⟨rfl, h0⟩ | ⟨g, cap, cur, rfl, _, hg, hnc, hcm, hcs, htake⟩
  · have : l = [] := List.eq_nil_of_length_eq_zero h0
    subst this
    refine (Try.slices_Compact_int_empty none 0 w).mono fun e w' ⟨he, hw⟩ => ⟨_, he, ?_, ?_⟩
    · subst hw
      rw [show rs.set j (.row 3 (.slice none 0 0) (compact ([] : List Int))) = rs from by
        apply List.ext_getElem?
        intro q
        rw [List.getElem?_set]
        split
        · rename_i e1; subst e1; rw [hj, if_pos (List.getElem?_eq_some_iff.1 hj).1]; rfl
        · rfl]
      exact H
    · subst hw; exact ⟨rfl, rfl, rfl, Nat.le_refl _, fun _ _ _ => rfl⟩
  · have hgs : g < w.heap.size := (Array.getElem?_eq_some_iff.1 hg).1
    have ht : cur.toList.take l.length = l.map (Value.int .i64) := by rw [← htake]; congr 1; exact (Nat.mul_one _).symm
    have hc3 : cur.size = cap * 1 := hcs
    refine (Try.slices_Compact_int g 0 cap l w (holds_of_blockI hg ht) (by omega) hnc).mono fun e w' ⟨he, n, hw⟩ => ⟨_, he, ?_, ?_⟩
    · have hw2 : w' = grow (putRow (Value.int .i64) (Sort.ahead w n) g 0 (compact l ++ List.replicate (l.length - (compact l).length) 0).toArray) #[] := by rw [hw, grow_empty]
      subst hw2
      refine H.set j hj _ ⟨(compact l).map (Value.int .i64), ?_, ints_row _⟩ (grownBy_sortedI _) (fun b hb => .inl hb)
      show World.ownsRow _ 0 3 1 _ _ _
      have hlen2 : (compact l ++ List.replicate (l.length - (compact l).length) (0 : Int)).length = l.length := by rw [List.length_append, List.length_replicate]; omega
      have h := ownsRow_sortedI (w := w) (base := 0) (n := n) (os := #[]) hlen2 (Nat.zero_le _) hg hnc hcm hc3
      refine ⟨by simp, ?_⟩
      rcases h.2 with ⟨q, _⟩ | ⟨g', cap', cur', hv, q1, q2, q3, q4, q5, q6⟩
      · cases q
      · cases hv
        refine .inr ⟨g, cap, cur', rfl, q1, q2, by omega, q4, q5, ?_⟩
        show cur'.toList.take ((compact l).length * 1) = _
        have := congrArg (List.take ((compact l).length * 1)) q6
        rw [List.take_take, Nat.min_eq_left (by omega), List.map_append, List.take_left' (by simp)] at this
        exact this
    · have hw2 : w' = grow (putRow (Value.int .i64) (Sort.ahead w n) g 0 (compact l ++ List.replicate (l.length - (compact l).length) 0).toArray) #[] := by rw [hw, grow_empty]
      rw [hw2]; exact grownBy_sortedI _

section
variable {P : Program} {Q : Post} {a : Act} {w : World}
/-- Any call, by what it says. -/
theorem q_any {ops : Array Oper} {N : Act → World → Prop} {n : Nat} {env : Env} (i d : Nat) (f : FuncId) (args : Array Operand) (ats : Array TypeId) (us : List Value) (R : Value → World → Prop) (keep : List (Nat × Value)) (ha : EnvOk n a env)
    (hc : Calls P f us.toArray w fun e w' => ∃ u, e = .returned u ∧ R u w')
    (k : ∀ v a' w', R v w' → EnvOk n a' (keepEnv ((d, v) :: keep)) → N a' w')
    (h : opAt ops i = some (.call { callee := .value (.func f), args := args, argTypes := ats }, some d, none) := by kernel_rfl) (hargs : (args.toList.map (getOp env [])).mapM id = some us := by kernel_rfl) (hf : Callable P f := by exact callable_of)
    (hk : KeepEq n d env keep := by delta KeepEq; kernel_rfl) : wpOp P ops Q i N a w := by
  obtain ⟨hd, hk⟩ := Prod.mk.inj hk
  refine list_call (first := []) (cap := []) (R := R) keep ha h (of_decide_eq_true hd) rfl hargs (fun y hy => ?_) hf (by simpa using hc) k
  have := List.map_inj_left.1 hk y hy
  simp only [Prod.mk.injEq, bne_iff_ne, ne_eq] at this
  exact this
end

end Go.Proofs.Ytahonnlgkmimlaa
