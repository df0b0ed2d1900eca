/-
  Regions that draw their order, with effects: walked in one order of our own; what only reads may be taken first. No program in sight.
-/
import Derived.Test.YtbdgelipabndaaaEngG
import Derived.OrdersHeld
set_option linter.unusedSimpArgs false
set_option linter.unusedVariables false
namespace Go.Proofs.Ytbdgelipabndaaa
open Go.RowKit

/-- Every block that stood in w is as it was, but for the one named. -/
def But (w : World) (m : Option Nat) (w' : World) : Prop := w.heap.size ≤ w'.heap.size ∧ ∀ k, k < w.heap.size → some k ≠ m → w'.heap[k]? = w.heap[k]?
theorem But.refl (w : World) (m : Option Nat) : But w m w := ⟨Nat.le_refl _, fun _ _ _ => rfl⟩
theorem But.drew (w : World) (m : Option Nat) : But w m { w with drawn := w.drawn + 1 } := ⟨Nat.le_refl _, fun _ _ _ => rfl⟩
theorem But.grown {w w1 w2 : World} {m row : Option Nat} (h : But w m w1) (hg : w1.grownBy w2 row) (hr : ∀ b, row = some b → some b = m ∨ w.heap.size ≤ b) : But w m w2 := by
  refine ⟨Nat.le_trans h.1 hg.size, fun k hk hm => ?_⟩
  rw [hg.block k (Nat.lt_of_lt_of_le hk h.1) (fun e => by
    rcases hr k e.symm with h1 | h1
    · exact hm h1
    · omega)]
  exact h.2 k hk hm
theorem But.below {w w1 w2 : World} {m : Option Nat} (h : But w m w1) (hb : Below w1.heap.size w1 w2) : But w m w2 :=
  ⟨Nat.le_trans h.1 hb.size, fun k hk hm => (hb.block k (Nat.lt_of_lt_of_le hk h.1)).trans (h.2 k hk hm)⟩

/-- The same, but nothing of a panic. -/
def Calm (Q : Exit → Act → World → Prop) : Exit → Act → World → Prop
  | .panic _, _, _ => False
  | .normal, a, w => Q .normal a w
  | e, a, w => Q e a w
theorem calm_wp {P : Program} {c : Code} {Q : Exit → Act → World → Prop} {a : Act} {w : World} (h : c.wp P (Calm Q) a w) : c.wp P Q a w :=
  Code.wp_mono (fun e a w q => by cases e <;> first | exact q | exact (q : False).elim) h

section
variable {P : Program} {ops : Array Oper} {Q : Exit → Act → World → Prop} {D : World → Prop}

/-- Whatever comes up; behind what is of the head the world is of the class. -/
def Mix (P : Program) (ops : Array Oper) (Q : Exit → Act → World → Prop) (D : World → Prop) (hd : List Nat) : Nat → Array Bool → Act → World → Prop
  | 0, listed, a, w => Region.ready .any ops listed = [] ∧ Q .normal a w
  | n + 1, listed, a, w => (Region.ready .any ops listed = [] → Q .normal a w) ∧
    ∀ i ∈ Region.ready .any ops listed, wpOp P ops Q i (fun a' w' => (i ∈ hd → D w') ∧ Mix P ops Q D hd n (listed.setIfInBounds i true) a' w') a w

theorem Mix.any {hd : List Nat} : ∀ (n : Nat) (listed : Array Bool) (a : Act) (w : World), Mix P ops Q D hd n listed a w → wpAny P .any ops Q n listed a w
  | 0, _, _, _, h => h
  | n + 1, _, _, _, h => ⟨h.1, fun i hi => wpOp_mono (fun a' w' q => Mix.any n _ a' w' q.2) (h.2 i hi)⟩

/-- Who is not of the head waits for each of the head. -/
def tailB (ops : Array Oper) (hd : List Nat) : Bool := (List.range ops.size).all fun j => hd.contains j || hd.all fun i => match ops[j]? with
  | some o => o.after.any fun e => Region.binds .any e && e.on == i
  | none => true
theorem tailB_spec {hd : List Nat} (h : tailB ops hd = true) {i j : Nat} {oj : Oper} (hj : ops[j]? = some oj) (hn : j ∉ hd) (hi : i ∈ hd) : ∃ e ∈ oj.after, Region.binds .any e = true ∧ e.on = i := by
  have hlt : j < ops.size := (Array.getElem?_eq_some_iff.1 hj).1
  have h1 := List.all_eq_true.1 h j (List.mem_range.2 hlt)
  simp only [Bool.or_eq_true, List.contains_iff_mem] at h1
  have h2 := List.all_eq_true.1 (h1.resolve_left hn) i hi
  simp only [hj] at h2
  obtain ⟨e, he, hb⟩ := Array.any_eq_true'.1 h2
  simp only [Bool.and_eq_true, beq_iff_eq] at hb
  exact ⟨e, he, hb.1, hb.2⟩

theorem mix_first {hd : List Nat} {i : Nat} {oi : Oper} {v : Value} (hi : ops[i]? = some oi) (hin : i ∈ hd) (htl : tailB ops hd = true) (hsel : Region.noSelect ops = true) (hQ : ∀ c a w, Q (.panic c) (a.put oi.dst v) w → Q (.panic c) a w) :
    ∀ (n : Nat) (listed : Array Bool) (a : Act) (w : World),
      (∀ j oj, ops[j]? = some oj → j ≠ i → listed.getD j true = false → (∀ e ∈ oj.after, Region.binds .any e = true → e.on ≠ i) → oi.apart ops oj = true) →
      i ∈ Region.ready .any ops listed → YieldsIf P ops D oi v a → D w → Mix P ops Q D hd n (listed.setIfInBounds i true) (a.put oi.dst v) w → Mix P ops Q D hd (n + 1) listed a w := by
  have hS := Region.noSelect_spec hsel
  intro n
  induction n with
  | zero =>
    intro listed a w _ hr hy hD H
    refine ⟨fun e => (by rw [e] at hr; cases hr), fun j hj => ?_⟩
    by_cases hji : j = i
    · subst hji; exact hy.wpOp hi hD ⟨fun _ => hD, H⟩
    · have := ready_mono hj hji
      rw [H.1] at this; cases this
  | succ n ih =>
    intro listed a w hfree hr hy hD H
    refine ⟨fun e => (by rw [e] at hr; cases hr), fun j hj => ?_⟩
    by_cases hji : j = i
    · subst hji; exact hy.wpOp hi hD ⟨fun _ => hD, H⟩
    · obtain ⟨hjun, oj, hoj, hall⟩ := mem_ready.1 hj
      have hiun := (mem_ready.1 hr).1
      have hnot : ∀ e ∈ oj.after, Region.binds .any e = true → e.on ≠ i := by
        intro e he hb q
        have h1 := hall e he hb
        rw [q] at h1
        rcases Nat.lt_or_ge i listed.size with h' | h'
        · simp [h'] at hiun h1; rw [hiun] at h1; cases h1
        · simp [Array.getElem?_eq_none h'] at h1
      have hjd : j ∈ hd := by
        by_cases c : j ∈ hd
        · exact c
        · obtain ⟨e, he, hb, hon⟩ := tailB_spec htl hoj c hin
          exact absurd hon (hnot e he hb)
      have step := wpOp_putIf hoj (hfree j oj hoj hji hjun hnot) (fun cs b => hS i oi cs b hi) (fun cs b => hS j oj cs b hoj) hQ hy (H.2 j (ready_mono hj hji))
      refine wpOp_mono (fun a' w' q => ⟨fun _ => q.2.1 hjd, ih (listed.setIfInBounds j true) a' w' (fun k ok hk hki hun hno => ?_) (ready_mono hr (Ne.symm hji)) q.1 (q.2.1 hjd) ?_⟩) step
      · refine hfree k ok hk hki ?_ hno
        by_cases hjk : j = k
        · subst hjk; exact hjun
        · rw [getD_set_ne true hjk] at hun; exact hun
      · rw [Array.setIfInBounds_comm _ _ hji]; exact q.2.2

/-- An operation that only yields a value. -/
def stillB : Op → Bool
  | .move _ | .assign _ | .unOp .. | .extract .. | .binOp .. | .convert .. | .index .. | .indexAddr .. | .fieldAddr .. | .load .. | .field .. | .build .. | .slice .. | .pick .. => true
  | .call c => match c.callee with
    | .builtin .len => true
    | .builtin .max => true
    | .builtin .min => true
    | _ => false
  | _ => false

theorem yields_of_quiet {o : Oper} {v : Value} {a : Act} (hs : stillB o.op = true) (h : YieldsIn P ops D o v a) : YieldsIf P ops D o v a := by
  rcases h with ⟨hw, hv⟩ | ⟨hw, hv⟩
  · refine .inl ⟨hw, fun w hD => ?_⟩
    have hq := hv w hD
    unfold Oper.quietAt at hq
    have key' : ∀ r : Result Value, (execOp a.eval o).run P w = r.andThen (fun u w' => .ok (.value u) w') → (execOp a.eval o).run P w = .ok (.value v) w := by
      intro r e
      rw [e] at hq ⊢
      cases r with
      | ok u w' =>
        obtain ⟨h1, h2⟩ := hq
        simp only [Result.andThen]
        rw [h1, h2]
      | halt x w' => exact hq.elim
    have key : ∀ s : Sem Value, execOp a.eval o = (do pure (.value (← s)) : Sem Next) → (execOp a.eval o).run P w = .ok (.value v) w := by
      intro s e
      refine key' (s.run P w) ?_
      rw [e, Sem.run_bind]
      rfl
    cases ho : o.op with
    | move x => exact key (pure (a.eval x)) (by simp only [execOp, ho]; rfl)
    | assign x => exact key (pure (a.eval x)) (by simp only [execOp, ho]; rfl)
    | pick c x y =>
      refine key' (((asBool (a.eval c)).run P w).andThen fun b w' => .ok (if b then a.eval x else a.eval y) w') ?_
      simp only [execOp, ho, Sem.run_bind, Sem.run_pure]
      cases (asBool (a.eval c)).run P w <;> rfl
    | call c =>
      rw [ho] at hs
      simp only [stillB] at hs
      split at hs
      · rename_i hc
        exact key' ((Builtin.len_ c.argTypes o.type (c.args.map a.eval)).run P w) (by simp only [execOp, ho, resolve, hc, Sem.run_bind, Sem.run_pure, Result.andThen_ok, invoke, builtin])
      · rename_i hc
        exact key' ((Builtin.max_ c.argTypes o.type (c.args.map a.eval)).run P w) (by simp only [execOp, ho, resolve, hc, Sem.run_bind, Sem.run_pure, Result.andThen_ok, invoke, builtin])
      · rename_i hc
        exact key' ((Builtin.min_ c.argTypes o.type (c.args.map a.eval)).run P w) (by simp only [execOp, ho, resolve, hc, Sem.run_bind, Sem.run_pure, Result.andThen_ok, invoke, builtin])
      · cases hs
    | _ => first | (rw [ho] at hs; cases hs; done) | exact key _ (by simp only [execOp, ho]; rfl)
  · exact .inr ⟨hw, hv⟩

/-- The listed operations, one behind the other, only yield values; each may come up, and nobody who could come before it touches its slots. -/
def takeB (ops : Array Oper) (hd : List Nat) : List Nat → Array Bool → Bool
  | [], _ => true
  | i :: r, listed => hd.contains i && (match ops[i]? with | some o => stillB o.op | none => false) && Region.free .any ops listed i && (Region.ready .any ops listed).contains i && takeB ops hd r (listed.setIfInBounds i true)

def marks (listed : Array Bool) : List Nat → Array Bool
  | [] => listed
  | i :: r => marks (listed.setIfInBounds i true) r

theorem mix_take {hd : List Nat} {n : Nat} {w : World} (htl : tailB ops hd = true) (hsel : Region.noSelect ops = true) (hQ : ∀ c a a' w, Q (.panic c) a w → Q (.panic c) a' w) (hD : D w) : ∀ (is : List Nat) (listed : Array Bool) (a : Act),
    takeB ops hd is listed = true → wpQuiet P ops D (fun a' => Mix P ops Q D hd n (marks listed is) a' w) (is.filterMap fun i => ops[i]?) a → Mix P ops Q D hd (n + is.length) listed a w
  | [], listed, a, _, h => h
  | i :: r, listed, a, hB, h => by
    simp only [takeB, Bool.and_eq_true] at hB
    obtain ⟨⟨⟨⟨h1, h2⟩, h3⟩, h4⟩, h5⟩ := hB
    cases ho : ops[i]? with
    | none => rw [ho] at h2; cases h2
    | some o =>
      rw [ho] at h2
      simp only at h2
      rw [List.filterMap_cons_some ho] at h
      have hq : qOp P ops D i (wpQuiet P ops D (fun a' => Mix P ops Q D hd n (marks listed (i :: r)) a' w) (r.filterMap fun i => ops[i]?)) a := by
        unfold qOp; simp only [ho]; exact h
      obtain ⟨v, hy, hK⟩ := yieldsIn_of_qOp ho hq
      have ih := mix_take htl hsel hQ hD r (listed.setIfInBounds i true) _ h5 hK
      rw [List.length_cons, ← Nat.add_assoc]
      exact mix_first ho (List.contains_iff_mem.1 h1) htl hsel (fun c a w q => hQ c _ _ w q) _ listed a w (fun j oj hj hne hun hno => Region.free_spec ho h3 j oj hj hne hun hno) (List.contains_iff_mem.1 h4) (yields_of_quiet h2 hy) hD ih

/-- The one that may come up. -/
theorem mix_one {hd : List Nat} {n : Nat} {listed : Array Bool} {a : Act} {w : World} (i : Nat) (hr : Region.ready .any ops listed = [i])
    (h : wpOp P ops Q i (fun a' w' => (i ∈ hd → D w') ∧ Mix P ops Q D hd n (listed.setIfInBounds i true) a' w') a w) : Mix P ops Q D hd (n + 1) listed a w := by
  refine ⟨fun e => (by rw [hr] at e; cases e), fun j hj => ?_⟩
  rw [hr] at hj
  obtain rfl : j = i := by simpa using hj
  exact h
theorem mix_end {hd : List Nat} {listed : Array Bool} {a : Act} {w : World} (h : Q .normal a w) (hr : Region.ready .any ops listed = [] := by kernel_rfl) : Mix P ops Q D hd 0 listed a w := ⟨hr, h⟩
end

section
variable {P : Program} {B : Code} {p : List Nat} {Q : Exit → Act → World → Prop} {a : Act} {w : World}

/-- Where a region that draws begins. hd: the head. -/
theorem region_mix (D : World → Prop) (hd : List Nat) (n : Nat) (k : Mix P (opsOf (sub B p)) (Calm Q) D hd n (Array.replicate n false) a { w with drawn := w.drawn + 1 }) (hn : (opsOf (sub B p)).size = n := by kernel_rfl) (hdr : drawOf (sub B p) = some true := by kernel_rfl) (hm : P.follows .mixedOrders = true := by kernel_rfl) : (sub B p).wp P Q a w := by
  cases hc : sub B p <;> rw [hc] at hdr <;> first | (cases hdr; done) | skip
  rename_i id ops d
  simp only [drawOf, Option.some.injEq] at hdr
  subst hdr
  rw [hc] at k hn
  subst hn
  exact calm_wp (wp_region_any hm (Mix.any _ _ _ _ k))

/-- For the kernel: what may be taken, and what the run comes to. -/
abbrev MixEq (P : Program) (D : World → Prop) (m : Nat) (ops : Array Oper) (hd is : List Nat) (listed listed' : Array Bool) (orc : List (Nat × Value)) (env : Env) (keep : List (Nat × Value)) (pr : Prop) : Prop :=
  ((takeB ops hd is listed, tailB ops hd, Region.noSelect ops, marks listed is), (evRun P D m ops orc (is.filterMap fun i => ops[i]?) env).map (fun r => ((keep.map fun x => look r.1 x.1), r.2))) = ((true, true, true, listed'), some ((keep.map fun x => some ⟨x.1, [], x.2⟩), pr))

theorem m_take {ops : Array Oper} {D : World → Prop} {hd : List Nat} {n m : Nat} {listed : Array Bool} {env : Env} (is : List Nat) (listed' : Array Bool) (orc : List (Nat × Value)) (keep : List (Nat × Value)) (pr : Prop) (ha : EnvOk m a env) (hD : D w) (hp : pr)
    (k : ∀ a', EnvOk m a' (keepEnv keep) → Mix P ops (Calm Q) D hd n listed' a' w) (h : MixEq P D m ops hd is listed listed' orc env keep pr := by delta MixEq; kernel_rfl) : Mix P ops (Calm Q) D hd (n + is.length) listed a w := by
  obtain ⟨h1, h2⟩ := Prod.mk.inj h
  obtain ⟨h3, h4⟩ := Prod.mk.inj h1
  obtain ⟨h5, h6⟩ := Prod.mk.inj h4
  obtain ⟨h7, h8⟩ := Prod.mk.inj h6
  obtain ⟨env', e1, e2⟩ := runOk_of h2
  have hev : evRun P D m ops orc (is.filterMap fun i => ops[i]?) env = some (env', pr) := e1
  refine mix_take h5 h7 (fun c a a' w q => q) hD is listed a h3 (evRun_ok ha hev hp fun a' ha' => ?_)
  rw [h8]
  exact k a' (keep_ok keep ha' e2)
theorem m_one {ops : Array Oper} {D : World → Prop} {hd : List Nat} {n : Nat} {listed : Array Bool} (i : Nat) (h : wpOp P ops (Calm Q) i (fun a' w' => (i ∈ hd → D w') ∧ Mix P ops (Calm Q) D hd n (listed.setIfInBounds i true) a' w') a w)
    (hr : Region.ready .any ops listed = [i] := by kernel_rfl) : Mix P ops (Calm Q) D hd (n + 1) listed a w := mix_one i hr h
end
end Go.Proofs.Ytbdgelipabndaaa
