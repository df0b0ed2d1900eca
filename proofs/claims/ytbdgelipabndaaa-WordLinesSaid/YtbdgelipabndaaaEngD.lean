/-
  The forms of the walk's steps that a program writes: runs of quiet operations checked by the kernel, calls, strings' iterators, appends. No program in sight.
-/
import Derived.Test.YtbdgelipabndaaaEngC
set_option linter.unusedSimpArgs false
set_option linter.unusedVariables false
namespace Go.Proofs.Ytbdgelipabndaaa
open Go.RowKit

/-- The run comes to the kept slots, and asks pr. -/
def RunOk (P : Program) (W : World → Prop) (n : Nat) (ops : Array Oper) (orc : List (Nat × Value)) (l : List Oper) (env : Env) (keep : List (Nat × Value)) (pr : Prop) : Prop :=
  ∃ env', evRun P W n ops orc l env = some (env', pr) ∧ ∀ x ∈ keep, look env' x.1 = some ⟨x.1, [], x.2⟩

theorem looks_of {env : Env} : ∀ {keep : List (Nat × Value)}, (keep.map fun x => look env x.1) = (keep.map fun x => some ⟨x.1, [], x.2⟩) → ∀ x ∈ keep, look env x.1 = some ⟨x.1, [], x.2⟩
  | [], _, x, hx => by simp at hx
  | y :: r, h, x, hx => by
    simp only [List.map_cons, List.cons.injEq] at h
    rcases List.mem_cons.1 hx with rfl | hx
    · exact h.1
    · exact looks_of h.2 x hx

/-- The same, for the kernel to reckon. -/
abbrev RunEq (P : Program) (W : World → Prop) (n : Nat) (ops : Array Oper) (orc : List (Nat × Value)) (l : List Oper) (env : Env) (keep : List (Nat × Value)) (pr : Prop) : Prop :=
  (evRun P W n ops orc l env).map (fun r => ((keep.map fun x => look r.1 x.1), r.2)) = some ((keep.map fun x => some ⟨x.1, [], x.2⟩), pr)

theorem runOk_of {P : Program} {W : World → Prop} {n : Nat} {ops : Array Oper} {orc : List (Nat × Value)} {l : List Oper} {env : Env} {keep : List (Nat × Value)} {pr : Prop}
    (h : RunEq P W n ops orc l env keep pr) : RunOk P W n ops orc l env keep pr := by
  obtain ⟨⟨env', p⟩, h1, h2⟩ := Option.map_eq_some_iff.1 h
  simp only [Prod.mk.injEq] at h2
  obtain ⟨h2, rfl⟩ := h2
  exact ⟨env', h1, looks_of h2⟩

theorem callable_of {P : Program} {f : FuncId} (h : (P.funcs[f]?).map (fun fn => ((fn.name == "runtime.NumGoroutine") || fn.body.isNone)) = some false := by kernel_rfl) : Callable P f := by
  obtain ⟨fn, h1, h2⟩ := Option.map_eq_some_iff.1 h
  simp only [Bool.or_eq_false_iff] at h2
  exact ⟨fn, h1, h2.1, h2.2⟩

/-- The plain post of a call that answers one fixed value: old memory stands. -/
abbrev Ans (v : Value) (w : World) : Ending → World → Prop := fun e w' => e = .returned v ∧ Below w.heap.size w w'

theorem callOk_of {P : Program} {w : World} {f : FuncId} {args : Array Value} {v : Value} (h : ∀ w', Below w.heap.size w w' → Calls P f args w' (Ans v w')) : CallOk P (On w) f args v :=
  fun w' hw' => (h w' hw').mono fun e w'' ⟨he, hb⟩ => ⟨he, hw'.trans (hb.mono hw'.size)⟩

theorem str_T {a b : ByteArray} (h : (a.toList == b.toList) = true) : a = b := by
  have := beq_iff_eq.1 h
  rw [ByteArray.toList_eq, ByteArray.toList_eq] at this
  cases a; cases b
  congr 1
  exact Array.ext' this
theorem str_F {a b : ByteArray} (h : (a.toList == b.toList) = false) : a ≠ b := by
  rintro rfl
  simp at h
theorem nT {b : Bool} (h : (!b) = true) : b = false := by simpa using h
theorem nF {b : Bool} (h : (!b) = false) : b = true := by simpa using h
theorem aT {a b : Bool} (h : (a && b) = true) : a = true ∧ b = true := by simpa using h
theorem aF {a b : Bool} (h : (a && b) = false) : a = false ∨ b = false := by cases a <;> simp_all
theorem oT {a b : Bool} (h : (a || b) = true) : a = true ∨ b = true := by simpa using h
theorem oF {a b : Bool} (h : (a || b) = false) : a = false ∧ b = false := by simpa using h

section
variable {P : Program} {B : Code} {p : List Nat} {Q : Post} {a : Act} {w : World}

theorem q_draw {n : Nat} {env : Env} {w0 : Orig} {S : Stab} {rs : List Res} (orc : List (Nat × Value)) (keep : List (Nat × Value)) (pr : Prop) (ha : EnvOk n a env) (H : Fr w0 w S rs) (hp : pr)
    (k : ∀ a' w', EnvOk n a' (keepEnv keep) → Fr w0 w' S rs → Below w.heap.size w w' → Q .normal a' w') (hd : drawOf (sub B p) = some true := by kernel_rfl) (hm : P.follows .mixedOrders = true := by kernel_rfl) (hB : Region.lexB .any (opsOf (sub B p)) = true := by kernel_rfl)
    (h : RunEq P (On w) n (opsOf (sub B p)) orc (opsOf (sub B p)).toList env keep pr := by delta RunEq; kernel_rfl) : (sub B p).wp P Q a w :=
  let ⟨_, h1, h2⟩ := runOk_of h
  region_draw orc keep hm hd hB ha h1 h2 hp fun a' w' h1 h2 => k a' w' h1 (H.on h2) h2

theorem q_list0 {ops : Array Oper} {n : Nat} {env : Env} {w0 : Orig} {S : Stab} {rs : List Res} (i m : Nat) (orc : List (Nat × Value)) (keep : List (Nat × Value)) (pr : Prop) (ha : EnvOk n a env) (H : Fr w0 w S rs) (hp : pr)
    (h : RunOk P (On w) n ops orc ((ops.toList.drop i).take m) env keep pr)
    (k : ∀ a' w', EnvOk n a' (keepEnv keep) → Fr w0 w' S rs → Below w.heap.size w w' → wpList P ops Q (ops.toList.drop (i + m)) a' w') : wpList P ops Q (ops.toList.drop i) a w :=
  let ⟨_, h1, h2⟩ := h
  list_q orc keep ha h1 h2 hp fun a' w' h1 h2 => k a' w' h1 (H.on h2) h2

theorem q_list {ops : Array Oper} {n : Nat} {env : Env} {w0 : Orig} {S : Stab} {rs : List Res} (i m : Nat) (orc : List (Nat × Value)) (keep : List (Nat × Value)) (pr : Prop) (ha : EnvOk n a env) (H : Fr w0 w S rs) (hp : pr)
    (k : ∀ a' w', EnvOk n a' (keepEnv keep) → Fr w0 w' S rs → Below w.heap.size w w' → wpList P ops Q (ops.toList.drop (i + m)) a' w')
    (h : RunEq P (On w) n ops orc ((ops.toList.drop i).take m) env keep pr := by delta RunEq; kernel_rfl) : wpList P ops Q (ops.toList.drop i) a w :=
  q_list0 i m orc keep pr ha H hp (runOk_of h) k

/-- A whole region of quiet operations, in the text's order. -/
theorem q_reg {n : Nat} {env : Env} {w0 : Orig} {S : Stab} {rs : List Res} (orc : List (Nat × Value)) (keep : List (Nat × Value)) (pr : Prop) (ha : EnvOk n a env) (H : Fr w0 w S rs) (hp : pr)
    (k : ∀ a' w', EnvOk n a' (keepEnv keep) → Fr w0 w' S rs → Below w.heap.size w w' → Q .normal a' w') (hd : drawOf (sub B p) = some false := by kernel_rfl)
    (h : RunEq P (On w) n (opsOf (sub B p)) orc (opsOf (sub B p)).toList env keep pr := by delta RunEq; kernel_rfl) : (sub B p).wp P Q a w := by
  refine region_list ?_ hd
  refine q_list0 0 (opsOf (sub B p)).toList.length orc keep pr ha H hp ?_ fun a' w' h1 h2 h3 => ?_
  · rw [List.drop_zero, List.take_length]; exact runOk_of h
  · exact list_end (k a' w' h1 h2 h3) (by simp)

/-- For the kernel to reckon: slot d is one, and none of the kept ones, which read as said. -/
abbrev KeepEq (n d : Nat) (env : Env) (keep : List (Nat × Value)) : Prop := (decide (d < n), keep.map fun x => (x.1 != d, look env x.1)) = (true, keep.map fun x => (true, some ⟨x.1, [], x.2⟩))

theorem env_put {n d : Nat} {v : Value} {o : Oper} (keep : List (Nat × Value)) {env : Env} (ha : EnvOk n a env) (hdst : o.dst = some d) (hk : KeepEq n d env keep) : EnvOk n (a.put o.dst v) (keepEnv ((d, v) :: keep)) := by
  rw [hdst]
  obtain ⟨hd, hk⟩ := Prod.mk.inj hk
  refine env_set keep ha (of_decide_eq_true hd) fun y hy => ?_
  have := List.map_inj_left.1 hk y hy
  simp only [Prod.mk.injEq, bne_iff_ne, ne_eq] at this
  exact this

theorem env_sub {n : Nat} {env : Env} (keep : List (Nat × Value)) (ha : EnvOk n a env) (h : (keep.map fun x => look env x.1) = (keep.map fun x => some ⟨x.1, [], x.2⟩) := by kernel_rfl) : EnvOk n a (keepEnv keep) :=
  keep_ok keep ha (looks_of h)

/-- The iterator of a string. -/
theorem q_range {ops : Array Oper} {N : Act → World → Prop} {n : Nat} {env : Env} (i d : Nat) (t : TypeId) (x : Operand) (s : ByteArray) {w0 : Orig} {S : Stab} {rs : List Res} (keep : List (Nat × Value)) (ha : EnvOk n a env) (H : Fr w0 w S rs)
    (ht : P.underlying t = some .string)
    (k : ∀ b a' w', Fr w0 w' S (.iter b s 0 :: rs) → EnvOk n a' (keepEnv ((d, .pointer (some ⟨b, 0, none⟩)) :: keep)) → Below w.heap.size w w' → w.heap.size ≤ b → N a' w')
    (h : opAt ops i = some (.range t x, some d, none) := by kernel_rfl) (hx : getOp env [] x = some (.string s) := by kernel_rfl) (hk : KeepEq n d env keep := by delta KeepEq; kernel_rfl) : wpOp P ops Q i N a w := by
  refine op_at h fun o ho hdst => ?_
  have e : (execOp a.eval o).run P w = .ok (.value (.pointer (some ⟨w.heap.size, 0, none⟩))) (w.iter s 0) := by
    simp only [execOp, ho, getOp_ok ha (fun l hl => by simp at hl) _ _ hx, Sem.run_bind, run_range_string w t s ht]
    rfl
  unfold Oper.wp
  rw [e, Oper.upon_value]
  exact k w.heap.size _ _ (H.newIter s) (env_put keep ha hdst hk) (below_new _ _) (Nat.le_refl _)

theorem q_next {ops : Array Oper} {N : Act → World → Prop} {n : Nat} {env : Env} {w0 : Orig} {S : Stab} {rs : List Res} (i d : Nat) (x : Operand) (j b : Nat) (s : ByteArray) (pos : Nat) (keep : List (Nat × Value)) (ha : EnvOk n a env) (H : Fr w0 w S rs)
    (hj : rs[j]? = some (.iter b s pos))
    (kt : pos < s.size → ∀ a' w', Fr w0 w' S (rs.set j (.iter b s (pos + (Utf8.decode s pos).2))) → EnvOk n a' (keepEnv ((d, .tuple #[.bool true, .int .i64 pos, .int .i32 (Utf8.decode s pos).1]) :: keep)) → w.grownBy w' (some b) → N a' w')
    (kf : ¬ pos < s.size → ∀ a', EnvOk n a' (keepEnv ((d, .tuple #[.bool false]) :: keep)) → N a' w)
    (h : opAt ops i = some (.next x true, some d, none) := by kernel_rfl) (hx : getOp env [] x = some (.pointer (some ⟨b, 0, none⟩)) := by kernel_rfl) (hk : KeepEq n d env keep := by delta KeepEq; kernel_rfl) : wpOp P ops Q i N a w := by
  refine op_at h fun o ho hdst => ?_
  have hit := H.iter_at j hj
  have hset : ∀ {v : Value}, EnvOk n (a.put o.dst v) (keepEnv ((d, v) :: keep)) := by
    intro v
    exact env_put keep ha hdst hk
  unfold Oper.wp
  by_cases hp : pos < s.size
  · have e : (execOp a.eval o).run P w = .ok (.value (.tuple #[.bool true, .int .i64 pos, .int .i32 (Utf8.decode s pos).1])) (w.iterAt b s (pos + (Utf8.decode s pos).2)) := by
      simp only [execOp, ho, getOp_ok ha (fun l hl => by simp at hl) _ _ hx, Sem.run_bind, Lib.run_next_any_at w b s pos o.type hit hp]
      rfl
    rw [e, Oper.upon_value]
    exact kt hp _ _ (H.next j hj _) hset ⟨rfl, rfl, rfl, by rw [Lib.iterAt_size]; exact Nat.le_refl _, fun k hk hne => Lib.iterAt_other w b k s _ (fun e => hne (by rw [e]))⟩
  · have e : (execOp a.eval o).run P w = .ok (.value (.tuple #[.bool false])) w := by
      simp only [execOp, ho, getOp_ok ha (fun l hl => by simp at hl) _ _ hx, Sem.run_bind, Lib.run_next_end_at w b s pos o.type hit hp]
      rfl
    rw [e, Oper.upon_value]
    exact kf hp _ hset

end
end Go.Proofs.Ytbdgelipabndaaa
