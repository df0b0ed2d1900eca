/-
  More forms of steps. No program in sight.
-/
import Derived.Test.YtbdgelipabndaaaEngF
set_option linter.unusedSimpArgs false
set_option linter.unusedVariables false
namespace Go.Proofs.Ytbdgelipabndaaa
open Go.RowKit

theorem max_ok {P : Program} {ats : Array TypeId} {k : IntKind} {a b : Int} (ty : TypeId) (w : World) : (Builtin.max_ ats ty [.int k a, .int k b].toArray).run P w = .ok (.int k (max a b)) w := by
  have e : (if b > a then b else a) = max a b := by split <;> omega
  simp [Builtin.max_, Builtin.max2, e]
theorem min_ok {P : Program} {ats : Array TypeId} {k : IntKind} {a b : Int} (ty : TypeId) (w : World) : (Builtin.min_ ats ty [.int k a, .int k b].toArray).run P w = .ok (.int k (min a b)) w := by
  have e : (if b < a then b else a) = min a b := by split <;> omega
  simp [Builtin.min_, Builtin.min2, e]

theorem shr_one {a : Int} {n : Nat} (h : 1 ≤ n) : 0 ≤ (1 : Int) ∧ a.fdiv (2 ^ (min (1 : Int).toNat n)) = a / 2 := by
  refine ⟨by decide, ?_⟩
  rw [show min (1 : Int).toNat n = 1 by omega]
  exact Int.fdiv_eq_ediv_of_nonneg a (by decide)
theorem ans_s {x y : ByteArray} {w w' : World} (h : x = y) (hb : Below w.heap.size w w') : Ans (.string y) w (.returned (.string x)) w' := ⟨by rw [h], hb⟩
theorem box_at {w : World} {o : Orig} {S : Stab} {rs : List Res} (H : Fr o w S rs) (j : Nat) {b : Nat} {t : TypeId} {vs : List Value} (hj : rs[j]? = some (.box b t vs)) :
    ∀ w', On w w' → w'.heap[b]? = some (.cells vs.toArray t (0, 0)) := by
  intro w' hw'
  have h : w.heap[b]? = some (.cells vs.toArray t (0, 0)) := H.ok _ (List.mem_of_getElem? hj)
  rw [hw'.block b (H.own _ (List.mem_of_getElem? hj) b rfl).2.1]
  exact h
/-- A cell of a box of the call's own. -/
theorem box_cell {w : World} {o : Orig} {S : Stab} {rs : List Res} (H : Fr o w S rs) (j : Nat) {b : Nat} {t : TypeId} {vs : List Value} (hj : rs[j]? = some (.box b t vs)) (i : Nat) {u : Value} (hu : vs[i]? = some u := by kernel_rfl) : CellOk (On w) b i u := by
  intro w' hw'
  rw [cell_of_row w' b i _ t _ (box_at H j hj w' hw')]
  simpa using hu
theorem box_row {w : World} {o : Orig} {S : Stab} {rs : List Res} (H : Fr o w S rs) (j : Nat) {b : Nat} {t : TypeId} {vs : List Value} (hj : rs[j]? = some (.box b t vs)) (i n : Nat) {us : Array Value}
    (hn : us.size = n := by kernel_rfl) (hu : ((vs.drop i).take n).toArray = us := by kernel_rfl) : RowOk (On w) b i n us := by
  refine ⟨hn, fun w' hw' k hk => ?_⟩
  rw [cell_of_row w' b (i + k) _ t _ (box_at H j hj w' hw'), ← hu]
  simp [List.getElem?_take, hk]
theorem conv_box {P : Program} {w : World} {o : Orig} {S : Stab} {rs : List Res} (H : Fr o w S rs) (j : Nat) {b : Nat} {t : TypeId} (xs : List Int) (n : Nat) (hn : xs.length = n) (vs : List Value) (hv : vs = xs.map (Value.int .u8)) (hj : rs[j]? = some (.box b t vs)) {src dst e cap : Nat}
    (hs : P.underlying src = some (.slice e)) (he : P.underlying e = some (.int .u8)) (hd : P.underlying dst = some .string) :
    ∀ w', On w w' → (convert src dst (.slice (some ⟨b, 0, none⟩) n cap)).run P w' = .ok (.string (strOfNums xs)) w' := by
  subst hn; subst hv
  intro w' hw'
  refine run_convert_bytes_arg w' src e hs he b 0 xs.length cap xs rfl (fun i hi => ?_) dst hd
  rw [cell_of_row w' b (0 + i) _ t _ (box_at H j hj w' hw')]
  simp [List.getElem?_eq_getElem hi]

section
variable {P : Program} {Q : Post} {a : Act} {w : World}

/-- A new variable of the call's own. -/
theorem q_alloc {ops : Array Oper} {N : Act → World → Prop} {n : Nat} {env : Env} {w0 : Orig} {S : Stab} {rs : List Res} (i d t : Nat) (cs : List Value) (keep : List (Nat × Value)) (ha : EnvOk n a env) (H : Fr w0 w S rs)
    (k : ∀ b a' w', Fr w0 w' S (.box b t cs :: rs) → EnvOk n a' (keepEnv ((d, .pointer (some ⟨b, 0, none⟩)) :: keep)) → Below w.heap.size w w' → w.heap.size ≤ b → N a' w')
    (h : opAt ops i = some (.alloc t, some d, none) := by kernel_rfl)
    (hrun : ∀ w : World, (Instr.alloc t true (.tuple #[])).run P w = .ok (.pointer (some ⟨w.heap.size, 0, none⟩)) (w.alloc (.cells cs.toArray t)) := by intro w; kernel_rfl)
    (hk : KeepEq n d env keep := by delta KeepEq; kernel_rfl) : wpOp P ops Q i N a w := by
  refine op_at h fun o ho hdst => ?_
  have e2 : (execOp a.eval o).run P w = .ok (.value (.pointer (some ⟨w.heap.size, 0, none⟩))) (w.alloc (.cells cs.toArray t)) := by
    simp only [execOp, ho, Sem.run_bind, hrun w]
    rfl
  unfold Oper.wp
  rw [e2, Oper.upon_value]
  exact k w.heap.size _ _ (H.newBox cs t) (env_put keep ha hdst hk) (below_new _ _) (Nat.le_refl _)

/-- A variable of the call's own for a parameter. -/
theorem q_box {ops : Array Oper} {N : Act → World → Prop} {n : Nat} {env : Env} {w0 : Orig} {S : Stab} {rs : List Res} (i d t : Nat) (x : Operand) (u : Value) (cs : List Value) (keep : List (Nat × Value)) (ha : EnvOk n a env) (H : Fr w0 w S rs)
    (k : ∀ b a' w', Fr w0 w' S (.box b t cs :: rs) → EnvOk n a' (keepEnv ((d, .pointer (some ⟨b, 0, none⟩)) :: keep)) → Below w.heap.size w w' → w.heap.size ≤ b → N a' w')
    (h : opAt ops i = some (.box t x, some d, none) := by kernel_rfl) (hx : getOp env [] x = some u := by kernel_rfl)
    (hrun : ∀ w : World, (Instr.box t u).run P w = .ok (.pointer (some ⟨w.heap.size, 0, none⟩)) (w.alloc (.cells cs.toArray t)) := by intro w; kernel_rfl)
    (hk : KeepEq n d env keep := by delta KeepEq; kernel_rfl) : wpOp P ops Q i N a w := by
  refine op_at h fun o ho hdst => ?_
  have e2 : (execOp a.eval o).run P w = .ok (.value (.pointer (some ⟨w.heap.size, 0, none⟩))) (w.alloc (.cells cs.toArray t)) := by
    simp only [execOp, ho, Sem.run_bind, getOp_ok ha (fun l hl => by simp at hl) _ _ hx, hrun w]
    rfl
  unfold Oper.wp
  rw [e2, Oper.upon_value]
  exact k w.heap.size _ _ (H.newBox cs t) (env_put keep ha hdst hk) (below_new _ _) (Nat.le_refl _)

theorem run_storeAt_box (w : World) (t e : TypeId) (b o : Nat) (vs us : List Value) (u : Value) (hb : w.heap[b]? = some (.cells vs.toArray e (0, 0))) (hc : u.cells.toList = us) (ho : o + us.length ≤ vs.length)
    (hsz : (P.info? t).map (·.size) = some us.length) (h1 : ∀ v ∈ us, v.oneCell' = true) :
    (Instr.storeAt t (.pointer (some ⟨b, o, none⟩)) u).run P w = .ok () (w.setRow b (vs.take o ++ us ++ vs.drop (o + us.length)).toArray) := by
  obtain ⟨i, hi, hs⟩ := Option.map_eq_some_iff.1 hsz
  have hcs : u.cells.size = us.length := by rw [← hc, Array.length_toList]
  have hcl : P.cellsOf t = us.length := by simp [Program.cellsOf, hi, hs]
  have := run_storeCells_at (P := P) b o e us 0 vs.toArray w hb (by simpa using ho) h1
  simp only [Nat.add_zero] at this
  simp only [Instr.storeAt, Instr.sureAddr, storeVar, Sem.run_bind, Sem.run_pure, Result.andThen_ok, run_sizeOf w hi, hs, hcs, hcl, ne_eq, not_true_eq_false, if_false, hc]
  exact this

/-- A store into a variable of the call's own. -/
theorem q_store {ops : Array Oper} {N : Act → World → Prop} {n : Nat} {env : Env} {w0 : Orig} {S : Stab} {rs : List Res} (i t : Nat) (x y : Operand) (j b o : Nat) (e : TypeId) (vs us vs' : List Value) (u : Value) (keep : List (Nat × Value)) (ha : EnvOk n a env) (H : Fr w0 w S rs)
    (hj : rs[j]? = some (.box b e vs)) (hc : u.cells.toList = us) (ho : o + us.length ≤ vs.length) (hv : vs.take o ++ us ++ vs.drop (o + us.length) = vs') (h1 : ∀ v ∈ us, v.oneCell' = true)
    (k : ∀ a' w', Fr w0 w' S (rs.set j (.box b e vs')) → EnvOk n a' (keepEnv keep) → w.grownBy w' (some b) → N a' w')
    (h : opAt ops i = some (.store t x y, none, none) := by kernel_rfl) (hx : getOp env [] x = some (.pointer (some ⟨b, o, none⟩)) := by kernel_rfl) (hy : getOp env [] y = some u := by kernel_rfl)
    (hsz : (P.info? t).map (·.size) = some us.length := by kernel_rfl)
    (hk : (keep.map fun x => look env x.1) = (keep.map fun x => some ⟨x.1, [], x.2⟩) := by kernel_rfl) : wpOp P ops Q i N a w := by
  refine op_at h fun op hop hdst => ?_
  have hb : w.heap[b]? = some (.cells vs.toArray e (0, 0)) := H.ok _ (List.mem_of_getElem? hj)
  have e2 : (execOp a.eval op).run P w = .ok .skip (w.setRow b vs'.toArray) := by
    simp only [execOp, hop, Sem.run_bind, getOp_ok ha (fun l hl => by simp at hl) _ _ hx, getOp_ok ha (fun l hl => by simp at hl) _ _ hy, run_storeAt_box w t e b o vs us u hb hc ho hsz h1, hv]
    rfl
  unfold Oper.wp
  rw [e2, Oper.upon_skip, hdst]
  have hG : w.grownBy (w.setRow b vs'.toArray) (some b) := by
    refine ⟨rfl, rfl, rfl, by simp [World.setRow], fun k hk hne => ?_⟩
    simp only [World.setRow, Array.getElem?_modify]
    rw [if_neg (fun e => hne (by rw [← e]))]
  exact k _ _ (H.set j hj _ (setRow_heap w b vs.toArray _ e _ hb) hG (fun b' hb' => .inl hb')) (keep_ok keep ha (looks_of hk)) hG
end
end Go.Proofs.Ytbdgelipabndaaa
