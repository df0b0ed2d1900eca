/-
  The walk of a function's code by places in it: control, regions, what a region does beside computing. No program in sight.
-/
import Derived.Test.YtbdgelipabndaaaEngB
import Derived.KernelRfl
set_option linter.unusedSimpArgs false
set_option linter.unusedVariables false
namespace Go.Proofs.Ytbdgelipabndaaa
open Go.RowKit

/-- The code at a place. -/
def sub : Code → List Nat → Code
  | c, [] => c
  | .seq x y, k :: p => if k = 0 then sub x p else sub y p
  | .cond _ x y, k :: p => if k = 0 then sub x p else sub y p
  | .block _ b, _ :: p => sub b p
  | .loop b, _ :: p => sub b p
  | .scope b, _ :: p => sub b p
  | .rangeFunc _ _ x y, k :: p => if k = 0 then sub x p else sub y p
  | _, _ :: _ => .skip

def isSeq : Code → Bool | .seq _ _ => true | _ => false
def isLoop : Code → Bool | .loop _ => true | _ => false
def isRet : Code → Bool | .ret => true | _ => false
def isSkip : Code → Bool | .skip => true | _ => false
def condOf : Code → Option Operand | .cond c _ _ => some c | _ => none
def blockOf : Code → Option Nat | .block i _ => some i | _ => none
def exitOf : Code → Option Nat | .exit i => some i | _ => none
def drawOf : Code → Option Bool | .region _ _ d => some d | _ => none
def opsOf : Code → Array Oper | .region _ o _ => o | _ => #[]

theorem sub_nil (c : Code) : sub c [] = c := by cases c <;> rfl
theorem sub_seq0 (x y : Code) : sub (.seq x y) [0] = x := by simp only [sub]; cases x <;> rfl
theorem sub_seq1 (x y : Code) : sub (.seq x y) [1] = y := by simp only [sub]; cases y <;> rfl
theorem sub_cond0 (c : Operand) (x y : Code) : sub (.cond c x y) [0] = x := by simp only [sub]; cases x <;> rfl
theorem sub_cond1 (c : Operand) (x y : Code) : sub (.cond c x y) [1] = y := by simp only [sub]; cases y <;> rfl
theorem sub_block0 (i : Nat) (x : Code) : sub (.block i x) [0] = x := by simp only [sub]
theorem sub_loop0 (x : Code) : sub (.loop x) [0] = x := by simp only [sub]

theorem sub_snoc (k : Nat) : ∀ (p : List Nat) (B : Code), sub B (p ++ [k]) = sub (sub B p) [k]
  | [], B => by cases B <;> rfl
  | j :: p, B => by
    cases B with
    | seq x y => simp only [List.cons_append, sub]; split <;> exact sub_snoc k p _
    | cond c x y => simp only [List.cons_append, sub]; split <;> exact sub_snoc k p _
    | block i b => exact sub_snoc k p b
    | loop b => exact sub_snoc k p b
    | scope b => exact sub_snoc k p b
    | rangeFunc f ps x y => simp only [List.cons_append, sub]; split <;> exact sub_snoc k p _
    | _ => rfl

abbrev Post := Exit → Act → World → Prop

theorem least_of {p : Nat → Prop} : ∀ n, p n → ∃ m, p m ∧ ∀ k, p k → m ≤ k := by
  intro n
  induction n using Nat.strongRecOn with
  | _ n ih =>
    intro hn
    by_cases h : ∃ k, k < n ∧ p k
    · obtain ⟨k, hk, hpk⟩ := h; exact ih k hk hpk
    · exact ⟨n, hn, fun k hk => Nat.le_of_not_lt fun hlt => h ⟨k, hlt, hk⟩⟩

section
variable {P : Program} {B : Code} {p : List Nat} {Q : Post} {a : Act} {w : World}

theorem go_seq (k : ∀ K : Act → World → Prop, (∀ a w, (sub B (p ++ [1])).wp P Q a w → K a w) → (sub B (p ++ [0])).wp P (Exit.then K Q) a w) (h : isSeq (sub B p) = true := by kernel_rfl) : (sub B p).wp P Q a w := by
  cases hc : sub B p <;> rw [hc] at h <;> first | (cases h; done) | skip
  rename_i x y
  refine wp_seq_k fun K hK => ?_
  have := k K (fun a w h => hK a w (by rw [sub_snoc, hc, sub_seq1] at h; exact h))
  rw [sub_snoc, hc, sub_seq0] at this
  exact this

theorem go_cond {n : Nat} {env : Env} (ha : EnvOk n a env) (c : Operand) (b : Bool)
    (ht : b = true → (sub B (p ++ [0])).wp P Q a w) (hf : b = false → (sub B (p ++ [1])).wp P Q a w) (h : condOf (sub B p) = some c := by kernel_rfl) (hb : getOp env [] c = some (.bool b) := by kernel_rfl) : (sub B p).wp P Q a w := by
  cases hc : sub B p <;> rw [hc] at h <;> first | (cases h; done) | skip
  rename_i c' x y
  simp only [condOf, Option.some.injEq] at h
  subst h
  refine wp_cond_split (getOp_ok ha (fun _ hl => by simp at hl) _ _ hb) (fun e => ?_) (fun e => ?_)
  · have := ht e; rw [sub_snoc, hc, sub_cond0] at this; exact this
  · have := hf e; rw [sub_snoc, hc, sub_cond1] at this; exact this

theorem go_block (i : Nat) (k : (sub B (p ++ [0])).wp P (Exit.inBlock i Q) a w) (h : blockOf (sub B p) = some i := by kernel_rfl) : (sub B p).wp P Q a w := by
  cases hc : sub B p <;> rw [hc] at h <;> first | (cases h; done) | skip
  rename_i j b
  simp only [blockOf, Option.some.injEq] at h
  subst h
  rw [sub_snoc, hc, sub_block0] at k
  exact wp_block k

theorem go_exit (i : Nat) (k : Q (.exit i) a w) (h : exitOf (sub B p) = some i := by kernel_rfl) : (sub B p).wp P Q a w := by
  cases hc : sub B p <;> rw [hc] at h <;> first | (cases h; done) | skip
  simp only [exitOf, Option.some.injEq] at h
  subst h
  exact wp_exit k

theorem go_ret_ (k : Q .ret a w) (h : isRet (sub B p) = true := by kernel_rfl) : (sub B p).wp P Q a w := by
  cases hc : sub B p <;> rw [hc] at h <;> first | (cases h; done) | skip
  exact wp_ret k

theorem go_skip (k : Q .normal a w) (h : isSkip (sub B p) = true := by kernel_rfl) : (sub B p).wp P Q a w := by
  cases hc : sub B p <;> rw [hc] at h <;> first | (cases h; done) | skip
  exact wp_skip k

theorem go_loop_ (X : Type) (I : X → Act → World → Prop) (μ : X → Nat) (x0 : X) (h0 : I x0 a w)
    (round : ∀ x a w, I x a w → (sub B (p ++ [0])).wp P (Exit.then (fun a' w' => ∃ x', I x' a' w' ∧ μ x' < μ x) Q) a w) (h : isLoop (sub B p) = true := by kernel_rfl) : (sub B p).wp P Q a w := by
  cases hc : sub B p <;> rw [hc] at h <;> first | (cases h; done) | skip
  rename_i b
  rw [sub_snoc, hc, sub_loop0] at round
  classical
  have hL : ∀ a w, (∃ x, I x a w) → ∃ m, (∃ x, I x a w ∧ μ x = m) ∧ ∀ k, (∃ x, I x a w ∧ μ x = k) → m ≤ k := fun a w ⟨x, hx⟩ => least_of (p := fun m => ∃ x, I x a w ∧ μ x = m) (μ x) ⟨x, hx, rfl⟩
  let m : Act → World → Nat := fun a w => if h : ∃ x, I x a w then Classical.choose (hL a w h) else 0
  have hm : ∀ a w, (∃ x, I x a w) → (∃ x, I x a w ∧ μ x = m a w) ∧ ∀ k, (∃ x, I x a w ∧ μ x = k) → m a w ≤ k := by
    intro a w h
    have := Classical.choose_spec (hL a w h)
    simp only [m, dif_pos h]
    exact this
  refine wp_loop (fun a w => ∃ x, I x a w) m ⟨x0, h0⟩ fun a w hI => ?_
  obtain ⟨⟨x, hx, hmx⟩, _⟩ := hm a w hI
  refine wp_mono (round x a w hx) fun e a' w' q => ?_
  cases e with
  | normal =>
    obtain ⟨x', hx', hlt⟩ := q
    refine ⟨⟨x', hx'⟩, ?_⟩
    have := (hm a' w' ⟨x', hx'⟩).2 (μ x') ⟨x', hx', rfl⟩
    omega
  | _ => exact q

/-- The worlds that a run of operations may leave that only compute, read, or call what leaves old memory alone. -/
abbrev On (w : World) : World → Prop := fun w' => Below w.heap.size w w'

theorem On.self (w : World) : On w w := Below.refl _ _

/-- A region that draws its order, all of whose operations are quiet. -/
theorem region_draw {n : Nat} {env env' : Env} {pr : Prop} (orc : List (Nat × Value)) (keep : List (Nat × Value)) (hm : P.follows .mixedOrders = true) (hd : drawOf (sub B p) = some true) (hB : Region.lexB .any (opsOf (sub B p)) = true) (ha : EnvOk n a env)
    (h : evRun P (On w) n (opsOf (sub B p)) orc (opsOf (sub B p)).toList env = some (env', pr)) (hk : ∀ x ∈ keep, look env' x.1 = some ⟨x.1, [], x.2⟩) (hp : pr)
    (k : ∀ a' w', EnvOk n a' (keepEnv keep) → Below w.heap.size w w' → Q .normal a' w') : (sub B p).wp P Q a w := by
  cases hc : sub B p <;> rw [hc] at hd <;> first | (cases hd; done) | skip
  rename_i id ops d
  simp only [drawOf, Option.some.injEq] at hd
  subst hd
  rw [hc] at hB h
  exact wp_region_quiet (C := On w) hm hB ⟨rfl, rfl, rfl, Nat.le_refl _, fun _ _ => rfl⟩ (evRun_ok ha h hp fun a' ha' w' hw' => k a' w' (keep_ok keep ha' hk) hw')

/-- Into a region that goes in the text's order. -/
theorem region_list (k : wpList P (opsOf (sub B p)) Q ((opsOf (sub B p)).toList.drop 0) a w) (hd : drawOf (sub B p) = some false := by kernel_rfl) : (sub B p).wp P Q a w := by
  cases hc : sub B p <;> rw [hc] at hd <;> first | (cases hd; done) | skip
  rename_i id ops d
  simp only [drawOf, Option.some.injEq] at hd
  subst hd
  rw [hc] at k
  exact wp_region_list k

theorem wpList_quiet {ops : Array Oper} {C : World → Prop} {K : Act → Prop} {rest : List Oper} : ∀ (l : List Oper) (a : Act) (w : World), C w → wpQuiet P ops C K l a → (∀ a' w', C w' → K a' → wpList P ops Q rest a' w') → wpList P ops Q (l ++ rest) a w
  | [], a, w, hw, h, k => k a w hw h
  | o :: l, a, w, hw, h, k => by
    simp only [wpQuiet] at h
    simp only [List.cons_append, wpList]
    split
    · rename_i hwant
      rw [if_pos hwant] at h
      exact .inl (Oper.wp_of_quiet hw (fun a' w' hw' hK => wpList_quiet l a' w' hw' hK k) h)
    · rename_i hwant
      rw [if_neg hwant] at h
      exact wpList_quiet l _ w hw h k

/-- m quiet operations from number i on. -/
theorem list_q {ops : Array Oper} {n i m : Nat} {env env' : Env} {pr : Prop} (orc : List (Nat × Value)) (keep : List (Nat × Value)) (ha : EnvOk n a env)
    (h : evRun P (On w) n ops orc ((ops.toList.drop i).take m) env = some (env', pr)) (hk : ∀ x ∈ keep, look env' x.1 = some ⟨x.1, [], x.2⟩) (hp : pr)
    (k : ∀ a' w', EnvOk n a' (keepEnv keep) → Below w.heap.size w w' → wpList P ops Q (ops.toList.drop (i + m)) a' w') : wpList P ops Q (ops.toList.drop i) a w := by
  have := wpList_quiet (P := P) (Q := Q) (rest := ops.toList.drop (i + m)) (K := fun a' => EnvOk n a' (keepEnv keep)) ((ops.toList.drop i).take m) a w (On.self w) (evRun_ok ha h hp fun a' ha' => keep_ok keep ha' hk) (fun a' w' hw' ha' => k a' w' ha' hw')
  rw [← List.drop_drop, List.take_append_drop] at this
  exact this

theorem list_end {ops : Array Oper} {i : Nat} (k : Q .normal a w) (h : decide (ops.size ≤ i) = true := by kernel_rfl) : wpList P ops Q (ops.toList.drop i) a w := by
  rw [List.drop_of_length_le (by simpa using of_decide_eq_true h)]
  exact k

/-- Operation number i, as it stands. -/
def opAt (ops : Array Oper) (i : Nat) : Option (Op × Option Tmp × Option (Nat × Bool)) := (ops.toList[i]?).map fun o => (o.op, o.dst, o.guard)

theorem op_at {ops : Array Oper} {i : Nat} {op : Op} {dst : Option Tmp} {R : Act → World → Prop} (h : opAt ops i = some (op, dst, none))
    (k : ∀ o : Oper, o.op = op → o.dst = dst → o.wp P a w R Q) : wpOp P ops Q i R a w := by
  obtain ⟨o, ho, he⟩ := Option.map_eq_some_iff.1 h
  simp only [Prod.mk.injEq] at he
  obtain ⟨h1, h2, h3⟩ := he
  have ho' : ops[i]? = some o := by simpa using ho
  unfold wpOp
  simp only [ho', Region.wanted, h3, if_true]
  exact .inl (k o h1 h2)

/-- In the text's order. -/
theorem list_at {ops : Array Oper} (i : Nat) (h : wpOp P ops Q i (wpList P ops Q (ops.toList.drop (i + 1))) a w) (hi : decide (i < ops.size) = true := by kernel_rfl) : wpList P ops Q (ops.toList.drop i) a w := by
  have hi' : i < ops.toList.length := by rw [Array.length_toList]; exact of_decide_eq_true hi
  rw [List.drop_eq_getElem_cons hi']
  have ho : ops[i]? = some ops.toList[i] := by simp [List.getElem?_eq_getElem hi']
  unfold wpOp at h
  simp only [ho] at h
  simp only [wpList]
  exact h

/-- A slot takes a value. -/
theorem env_set {n d : Nat} {v : Value} (keep : List (Nat × Value)) {env : Env} (ha : EnvOk n a env) (hd : d < n) (hk : ∀ x ∈ keep, x.1 ≠ d ∧ look env x.1 = some ⟨x.1, [], x.2⟩) : EnvOk n (a.put (some d) v) (keepEnv ((d, v) :: keep)) := by
  refine ⟨by simp [Act.put, ha.1], ha.2.1, fun e he => ?_⟩
  obtain ⟨x, hx, rfl⟩ := List.mem_map.1 he
  rcases List.mem_cons.1 hx with rfl | hx
  · have hs : (a.put (some d) v).tmps[d]? = some v := by
      simp only [Act.put, Array.getElem?_setIfInBounds, if_true]
      rw [if_pos (by rw [ha.1]; exact hd)]
    exact ⟨fun _ => hs, fun hn => (hn (fun l hl => by simp at hl)).elim⟩
  · obtain ⟨h1, h2⟩ := hk x hx
    have := ha.2.2 _ (look_ok h2).1
    exact entOk_put (by simpa using h1) this

/-- A call whose answer, or what it leaves, is not fixed ahead. -/
theorem list_call {ops : Array Oper} {n i d : Nat} {env : Env} {x : Operand} {args : Array Operand} {ats : Array TypeId} {f : FuncId} {us first cap : List Value} {R : Value → World → Prop} {N : Act → World → Prop} (keep : List (Nat × Value)) (ha : EnvOk n a env)
    (h : opAt ops i = some (.call { callee := .value x, args := args, argTypes := ats }, some d, none)) (hd : d < n) (hx : getOp env [] x = some (.func (.func f) first.toArray cap.toArray)) (hargs : (args.toList.map (getOp env [])).mapM id = some us) (hk : ∀ x ∈ keep, x.1 ≠ d ∧ look env x.1 = some ⟨x.1, [], x.2⟩)
    (hf : Callable P f) (hc : Calls P f (first ++ us ++ cap).toArray w fun e w' => ∃ v, e = .returned v ∧ R v w')
    (k : ∀ v a' w', R v w' → EnvOk n a' (keepEnv ((d, v) :: keep)) → N a' w') : wpOp P ops Q i N a w := by
  refine op_at h fun o ho hdst => ?_
  have hnil : chOk a [] := fun l hl => by simp at hl
  obtain ⟨fn, hfn, hn, hb⟩ := hf
  have hn' : fn.name ≠ "runtime.NumGoroutine" := by simpa using hn
  have hb' : fn.body ≠ none := by intro e; rw [e] at hb; cases hb
  have hargs' := args_arr (ρ := a.eval) (fun x u hx => getOp_ok ha hnil x u hx) args us hargs
  have e : (execOp a.eval o).run P w = .ok (.enter f (first ++ us ++ cap).toArray) w := by
    simp [execOp, ho, resolve, hargs', getOp_ok ha hnil _ _ hx, Deferred.ofValue, invoke, callFunc, program, Sem.run, hfn, hn', hb']
  unfold Oper.wp
  rw [e]
  refine hc.mono fun e w' ⟨v, he, hR⟩ => ?_
  subst he
  refine k v _ w' hR ?_
  rw [hdst]
  exact env_set keep ha hd hk

/-- The end: one result, several, none. -/
theorem ret_one {fn : Func} {R : Ending → World → Prop} {n : Nat} {env : Env} (t : Nat) (v : Value) (ha : EnvOk n a env) (k : R (.returned v) w) (hr : fn.results = #[.tmp t] := by kernel_rfl) (hv : getOp env [] (.tmp t) = some v := by kernel_rfl) : bodyPost P fn R .ret a w := by
  have hnil : chOk a [] := fun l hl => by simp at hl
  refine bodyPost_ret (v := v) ?_ ha.2.1 k
  rw [results_tmp hr]
  have := getOp_ok ha hnil _ _ hv
  simp only [Act.eval] at this
  rw [this]

theorem ret_two {fn : Func} {R : Ending → World → Prop} {n : Nat} {env : Env} (t1 t2 : Nat) (v1 v2 : Value) (ha : EnvOk n a env) (k : R (.returned (.tuple #[v1, v2])) w) (hr : fn.results = #[.tmp t1, .tmp t2] := by kernel_rfl) (hv1 : getOp env [] (.tmp t1) = some v1 := by kernel_rfl) (hv2 : getOp env [] (.tmp t2) = some v2 := by kernel_rfl) : bodyPost P fn R .ret a w := by
  have hnil : chOk a [] := fun l hl => by simp at hl
  refine bodyPost_ret (v := .tuple #[v1, v2]) ?_ ha.2.1 k
  rw [results_tmp2 hr]
  have h1 := getOp_ok ha hnil _ _ hv1
  have h2 := getOp_ok ha hnil _ _ hv2
  simp only [Act.eval] at h1 h2
  rw [h1, h2]

/-- Into a function. -/
theorem enter {f : FuncId} (fn : Func) (n : Nat) {args : List Value} {R : Ending → World → Prop} (hf : P.funcs[f]? = some fn)
    (k : ∀ a, EnvOk n a (keepEnv ((List.range args.length).zip args)) → (sub (fn.body.getD .skip) []).wp P (bodyPost P fn R) a w) (hb : fn.body.isSome = true := by kernel_rfl) (hn : fn.ntmps = n := by kernel_rfl) (hl : decide (args.length ≤ n) = true := by kernel_rfl) : Calls P f args.toArray w R := by
  obtain ⟨B, hb⟩ := Option.isSome_iff_exists.1 hb
  rw [hb] at k
  have hl := of_decide_eq_true hl
  refine calls_of_wp hf hb ?_
  rw [← sub_nil B]
  refine k _ ⟨?_, rfl, fun e he => ?_⟩
  · simp; omega
  · obtain ⟨x, hx, rfl⟩ := List.mem_map.1 he
    obtain ⟨j, hj, rfl⟩ := List.getElem_of_mem hx
    have hj' : j < args.length := by simp at hj; exact hj
    refine ⟨fun _ => ?_, fun hn => (hn (fun l hl => by simp at hl)).elim⟩
    simp only [List.getElem_zip, List.getElem_range]
    rw [Array.getElem?_append_left (by simpa using hj')]
    simp [hj']

end
end Go.Proofs.Ytbdgelipabndaaa
