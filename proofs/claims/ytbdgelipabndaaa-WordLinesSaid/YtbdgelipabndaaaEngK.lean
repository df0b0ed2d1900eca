/-
  Guards whose outcome is known: operations behind them are carried out as if they had none, or left out. No program in sight.
-/
import Derived.Test.YtbdgelipabndaaaEngJ
set_option linter.unusedSimpArgs false
set_option linter.unusedVariables false
namespace Go.Proofs.Ytbdgelipabndaaa
open Go.RowKit

/-- What is known of a chain of guards: what is left of it, or that it does not hold; and what that asks. -/
def stripK (K : List (Nat × Bool)) (env : Env) : List (Nat × Bool) → Option (List (Nat × Bool)) × Prop
  | [] => (some [], True)
  | (j, b) :: r => match K.lookup j with
    | some b' => match look env j with
      | some ⟨_, [], .bool c⟩ => match b' == b with
        | true => ((stripK K env r).1, c = b ∧ (stripK K env r).2)
        | false => (none, c = b')
      | _ => (none, False)
    | none => ((stripK K env r).1.map ((j, b) :: ·), (stripK K env r).2)

theorem lit_of {n : Nat} {a : Act} {env : Env} (ha : EnvOk n a env) {j s : Nat} {c : Bool} (h : look env j = some ⟨s, [], .bool c⟩) : litOk a (j, c) := by
  obtain ⟨h1, h2⟩ := look_ok h
  simp only at h2; subst h2
  exact (ha.2.2 _ h1).1 (fun l hl => by simp at hl)

theorem stripK_ok {K : List (Nat × Bool)} {n : Nat} {a : Act} {env : Env} (ha : EnvOk n a env) : ∀ (C : List (Nat × Bool)), (stripK K env C).2 →
    (∀ C', (stripK K env C).1 = some C' → (chOk a C ↔ chOk a C')) ∧ ((stripK K env C).1 = none → ¬ chOk a C)
  | [], _ => ⟨fun C' h => by simp only [stripK, Option.some.injEq] at h; subst h; exact Iff.rfl, fun h => by simp [stripK] at h⟩
  | (j, b) :: r, h => by
    have hcons : ∀ D, chOk a ((j, b) :: D) ↔ litOk a (j, b) ∧ chOk a D := fun D =>
      ⟨fun q => ⟨q _ List.mem_cons_self, fun l hl => q l (List.mem_cons_of_mem _ hl)⟩, fun q l hl => by
        rcases List.mem_cons.1 hl with rfl | hl
        · exact q.1
        · exact q.2 l hl⟩
    cases hl : K.lookup j with
    | none =>
      simp only [stripK, hl] at h ⊢
      obtain ⟨i1, i2⟩ := stripK_ok ha r h
      constructor
      · intro C' hC
        obtain ⟨D, hD, rfl⟩ := Option.map_eq_some_iff.1 hC
        rw [hcons, hcons, i1 D hD]
      · intro hC hch
        exact i2 (Option.map_eq_none_iff.1 hC) ((hcons _).1 hch).2
    | some b' =>
      rcases hlk : look env j with _ | ⟨s, _ | ⟨l0, lr⟩, v⟩
      · simp [stripK, hl, hlk] at h
      · cases v with
        | bool c =>
          have hlit := lit_of ha hlk
          simp only [stripK, hl, hlk] at h ⊢
          cases hb : b' == b with
          | true =>
            simp only [hb] at h ⊢
            obtain ⟨rfl, h2⟩ := h
            obtain ⟨i1, i2⟩ := stripK_ok ha r h2
            exact ⟨fun C' hC => by rw [hcons, ← i1 C' hC]; exact ⟨fun q => q.2, fun q => ⟨hlit, q⟩⟩, fun hC hch => i2 hC ((hcons _).1 hch).2⟩
          | false =>
            simp only [hb] at h ⊢
            subst h
            refine ⟨fun C' hC => (by cases hC), fun _ hch => ?_⟩
            have := ((hcons _).1 hch).1
            unfold litOk at this hlit
            rw [hlit] at this
            simp at this
            rw [this] at hb
            simp at hb
        | _ => simp [stripK, hl, hlk] at h
      · simp [stripK, hl, hlk] at h

def evPickK (K : List (Nat × Bool)) (env : Env) (C : List (Nat × Bool)) (c x y : Operand) : Option (Value × Prop) :=
  match c with
  | .tmp t => match K.lookup t with
    | some b => match look env t with
      | some ⟨_, [], .bool cb⟩ => (getOp env C (bif b then x else y)).map fun v => (v, cb = b)
      | _ => none
    | none => (evPick env C c x y).map fun v => (v, True)
  | _ => none

def evStepK (K : List (Nat × Bool)) (P : Program) (W : World → Prop) (n : Nat) (ops : Array Oper) (env : Env) (orc : List (Nat × Value)) (o : Oper) : Option (Env × Prop) :=
  match chainOf ops env o, o.dst with
  | some C, some d =>
    if d < n then
      match stripK K env C with
      | (none, q) => if C.all (fun l => l.1 != d) = true then some (⟨d, C, undef⟩ :: env.filter (fun e => e.slot != d && e.ch.all (fun l => l.1 != d)), q) else none
      | (some C', q) => if C'.all (fun l => l.1 != d) = true then
        match (match o.op with
          | .pick c x y => evPickK K env C' c x y
          | op => evOp P W (getOp env C') op (orc.lookup d)) with
        | some (v, p) => some (⟨d, C', v⟩ :: env.filter (fun e => e.slot != d && e.ch.all (fun l => l.1 != d)), q ∧ impl env C' p)
        | none => none
        else none
    else none
  | _, _ => none

def evRunK (K : List (Nat × Bool)) (P : Program) (W : World → Prop) (n : Nat) (ops : Array Oper) (orc : List (Nat × Value)) : List Oper → Env → Option (Env × Prop)
  | [], env => some (env, True)
  | o :: r, env => match evStepK K P W n ops env orc o with
    | some (env', p) => match evRunK K P W n ops orc r env' with
      | some (env'', q) => some (env'', p ∧ q)
      | none => none
    | none => none

theorem evPickK_ok {K : List (Nat × Bool)} {P : Program} {W : World → Prop} {n : Nat} {a : Act} {env : Env} {C : List (Nat × Bool)} {o : Oper} {c x y : Operand} {v : Value} {p : Prop} (ha : EnvOk n a env) (hC : chOk a C) (ho : o.op = .pick c x y) (h : evPickK K env C c x y = some (v, p)) (hp : p) (w : World) : Oper.quietUpon P W w v ((execOp a.eval o).run P w) := by
  cases c with
  | tmp t =>
    simp only [evPickK] at h
    split at h
    · rename_i b hb
      split at h
      · rename_i s cb hlk
        obtain ⟨u, hu, e⟩ := Option.map_eq_some_iff.1 h
        simp only [Prod.mk.injEq] at e
        obtain ⟨rfl, rfl⟩ := e
        subst hp
        have hlit := lit_of ha hlk
        have ec : a.eval (.tmp t) = .bool cb := by
          unfold litOk at hlit
          simp only [Act.eval, Array.getD_eq_getD_getElem?, hlit, Option.getD_some]
        have ev := getOp_ok ha hC _ _ hu
        simp only [execOp, ho, ec, asBool, Sem.run_bind, Sem.run_pure, Result.andThen_ok]
        cases cb with
        | true => simp only [cond_true] at ev; simp only [if_true, ev]; exact ⟨rfl, rfl⟩
        | false => simp only [cond_false] at ev; simp only [Bool.false_eq_true, if_false, ev]; exact ⟨rfl, rfl⟩
      · cases h
    · obtain ⟨u, hu, e⟩ := Option.map_eq_some_iff.1 h
      simp only [Prod.mk.injEq] at e
      obtain ⟨rfl, rfl⟩ := e
      exact evPick_ok ha hC ho hu w
  | _ => simp [evPickK] at h

theorem evStepK_ok {K : List (Nat × Bool)} {P : Program} {W : World → Prop} {n : Nat} {ops : Array Oper} {a : Act} {env env' : Env} {orc : List (Nat × Value)} {o : Oper} {p : Prop} (ha : EnvOk n a env)
    (h : evStepK K P W n ops env orc o = some (env', p)) (hp : p) {Q : Act → Prop} (hQ : ∀ a', EnvOk n a' env' → Q a') :
    if Region.wanted o (yielded ops a.tmps) then o.quiet P a W Q else Q (a.put o.dst undef) := by
  unfold evStepK at h
  split at h
  · rename_i C d hC hd
    have hw := wanted_iff ha hC
    split at h
    · rename_i hdn
      split at h
      · rename_i q hs
        split at h
        · rename_i hall
          cases h
          have hst := stripK_ok (K := K) ha C (by rw [hs]; exact hp)
          have hn := hst.2 (by rw [hs])
          rw [if_neg (fun hh => hn (hw.1 hh)), hd]
          exact hQ _ (envOk_put ha hdn hall ⟨fun _ => rfl, fun _ => rfl⟩)
        · cases h
      · rename_i C' q hs
        split at h
        · rename_i hall
          split at h
          · rename_i v p' hv
            cases h
            have hst := (stripK_ok (K := K) ha C (by rw [hs]; exact hp.1)).1 C' (by rw [hs])
            by_cases hch : chOk a C'
            · rw [if_pos (hw.2 (hst.2 hch))]
              have hp' := impl_elim ha hp.2 hch
              refine ⟨v, fun w hw => ?_, ?_⟩
              · unfold Oper.quietAt
                split at hv
                · rename_i c x y ho
                  exact evPickK_ok ha hch ho hv hp' w
                · exact evOp_ok (fun x u hx => getOp_ok ha hch x u hx) hv hp' w hw
              · rw [hd]
                exact hQ _ (envOk_put ha hdn hall ⟨fun _ => rfl, fun hn => (hn hch).elim⟩)
            · rw [if_neg (fun hh => hch (hst.1 (hw.1 hh))), hd]
              exact hQ _ (envOk_put ha hdn hall ⟨fun hh => (hch hh).elim, fun _ => rfl⟩)
          · cases h
        · cases h
    · cases h
  · cases h

theorem evRunK_ok {K : List (Nat × Bool)} {P : Program} {W : World → Prop} {n : Nat} {ops : Array Oper} {orc : List (Nat × Value)} : ∀ {l : List Oper} {a : Act} {env env' : Env} {p : Prop} (ha : EnvOk n a env)
    (h : evRunK K P W n ops orc l env = some (env', p)) (hp : p) {Q : Act → Prop} (hQ : ∀ a', EnvOk n a' env' → Q a'), wpQuiet P ops W Q l a
  | [], a, env, env', p, ha, h, hp, Q, hQ => by
    simp only [evRunK, Option.some.injEq, Prod.mk.injEq] at h
    obtain ⟨rfl, rfl⟩ := h
    exact hQ a ha
  | o :: r, a, env, env', p, ha, h, hp, Q, hQ => by
    simp only [evRunK] at h
    split at h
    · rename_i env1 p1 h1
      split at h
      · rename_i env2 q h2
        cases h
        exact evStepK_ok ha h1 hp.1 (fun a' ha' => evRunK_ok ha' h2 hp.2 hQ)
      · cases h
    · cases h

/-- The same, for the kernel to reckon. -/
abbrev RunEqK (K : List (Nat × Bool)) (P : Program) (W : World → Prop) (n : Nat) (ops : Array Oper) (orc : List (Nat × Value)) (l : List Oper) (env : Env) (keep : List (Nat × Value)) (pr : Prop) : Prop :=
  (evRunK K P W n ops orc l env).map (fun r => ((keep.map fun x => look r.1 x.1), r.2)) = some ((keep.map fun x => some ⟨x.1, [], x.2⟩), pr)

theorem runOkK_of {K : List (Nat × Bool)} {P : Program} {W : World → Prop} {n : Nat} {ops : Array Oper} {orc : List (Nat × Value)} {l : List Oper} {env : Env} {keep : List (Nat × Value)} {pr : Prop}
    (h : RunEqK K P W n ops orc l env keep pr) : ∃ env', evRunK K P W n ops orc l env = some (env', pr) ∧ ∀ x ∈ keep, look env' x.1 = some ⟨x.1, [], x.2⟩ := by
  obtain ⟨⟨env', p⟩, h1, h2⟩ := Option.map_eq_some_iff.1 h
  simp only [Prod.mk.injEq] at h2
  obtain ⟨h2, rfl⟩ := h2
  exact ⟨env', h1, looks_of h2⟩

section
variable {P : Program} {Q : Exit → Act → World → Prop} {a : Act} {w : World}

theorem q_listK {ops : Array Oper} {n : Nat} {env : Env} {w0 : Orig} {S : Stab} {rs : List Res} (K : List (Nat × Bool)) (i m : Nat) (orc : List (Nat × Value)) (keep : List (Nat × Value)) (pr : Prop) (ha : EnvOk n a env) (H : Fr w0 w S rs) (hp : pr)
    (k : ∀ a' w', EnvOk n a' (keepEnv keep) → Fr w0 w' S rs → Below w.heap.size w w' → wpList P ops Q (ops.toList.drop (i + m)) a' w')
    (h : RunEqK K P (On w) n ops orc ((ops.toList.drop i).take m) env keep pr := by delta RunEqK; kernel_rfl) : wpList P ops Q (ops.toList.drop i) a w := by
  obtain ⟨env', h1, hk⟩ := runOkK_of h
  have := wpList_quiet (P := P) (Q := Q) (rest := ops.toList.drop (i + m)) (K := fun a' => EnvOk n a' (keepEnv keep)) ((ops.toList.drop i).take m) a w (On.self w) (evRunK_ok ha h1 hp fun a' ha' => keep_ok keep ha' hk) (fun a' w' hw' ha' => k a' w' ha' (H.on hw') hw')
  rw [← List.drop_drop, List.take_append_drop] at this
  exact this

abbrev MixEqK (K : List (Nat × Bool)) (P : Program) (D : World → Prop) (m : Nat) (ops : Array Oper) (hd is : List Nat) (listed listed' : Array Bool) (orc : List (Nat × Value)) (env : Env) (keep : List (Nat × Value)) (pr : Prop) : Prop :=
  ((takeB ops hd is listed, tailB ops hd, Region.noSelect ops, marks listed is), (evRunK K P D m ops orc (is.filterMap fun i => ops[i]?) env).map (fun r => ((keep.map fun x => look r.1 x.1), r.2))) = ((true, true, true, listed'), some ((keep.map fun x => some ⟨x.1, [], x.2⟩), pr))

theorem m_takeK {ops : Array Oper} {D : World → Prop} {hd : List Nat} {n m : Nat} {listed : Array Bool} {env : Env} (K : List (Nat × Bool)) (is : List Nat) (listed' : Array Bool) (orc : List (Nat × Value)) (keep : List (Nat × Value)) (pr : Prop) (ha : EnvOk m a env) (hD : D w) (hp : pr)
    (k : ∀ a', EnvOk m a' (keepEnv keep) → Mix P ops (Calm Q) D hd n listed' a' w) (h : MixEqK K P D m ops hd is listed listed' orc env keep pr := by delta MixEqK; kernel_rfl) : Mix P ops (Calm Q) D hd (n + is.length) listed a w := by
  obtain ⟨h1, h2⟩ := Prod.mk.inj h
  obtain ⟨h3, h4⟩ := Prod.mk.inj h1
  obtain ⟨h5, h6⟩ := Prod.mk.inj h4
  obtain ⟨h7, h8⟩ := Prod.mk.inj h6
  obtain ⟨env', e1, e2⟩ := runOkK_of h2
  refine mix_take h5 h7 (fun c a a' w q => q) hD is listed a h3 (evRunK_ok ha e1 hp fun a' ha' => ?_)
  rw [h8]
  exact k a' (keep_ok keep ha' e2)

/-- One quiet operation by itself. -/
theorem q_oneK {ops : Array Oper} {N : Act → World → Prop} {n : Nat} {env : Env} {w0 : Orig} {S : Stab} {rs : List Res} (K : List (Nat × Bool)) (i : Nat) (orc : List (Nat × Value)) (keep : List (Nat × Value)) (pr : Prop) (ha : EnvOk n a env) (H : Fr w0 w S rs) (hp : pr)
    (k : ∀ a' w', Fr w0 w' S rs → EnvOk n a' (keepEnv keep) → Below w.heap.size w w' → N a' w')
    (h : RunEqK K P (On w) n ops orc ([i].filterMap fun i => ops[i]?) env keep pr := by delta RunEqK; kernel_rfl) : wpOp P ops Q i N a w := by
  obtain ⟨env', e1, e2⟩ := runOkK_of h
  have hq := evRunK_ok ha e1 hp (Q := fun a' => EnvOk n a' env') (fun a' h => h)
  have hq' : qOp P ops (On w) i (fun a' => EnvOk n a' env') a := by
    unfold qOp
    cases ho : ops[i]? with
    | none => simp only [List.filterMap_cons, ho, List.filterMap_nil, wpQuiet] at hq; exact hq
    | some o =>
      simp only [List.filterMap_cons, ho, List.filterMap_nil, wpQuiet] at hq
      exact hq
  exact wpOp_of_qOp (C := On w) ⟨rfl, rfl, rfl, Nat.le_refl _, fun _ _ => rfl⟩ (fun a' w' hw' h => k a' w' (H.on hw') (keep_ok keep h e2) hw') hq'

/-- The same, values under guards kept too. -/
theorem keep_okE {n : Nat} {a : Act} {env keep : Env} (ha : EnvOk n a env) (h : (keep.map fun x => look env x.slot) = keep.map some) : EnvOk n a keep := by
  refine ⟨ha.1, ha.2.1, fun e he => ?_⟩
  have := List.map_inj_left.1 h e he
  exact ha.2.2 _ (look_ok this).1
abbrev RunEqE (K : List (Nat × Bool)) (P : Program) (W : World → Prop) (n : Nat) (ops : Array Oper) (orc : List (Nat × Value)) (l : List Oper) (env keep : Env) (pr : Prop) : Prop :=
  (evRunK K P W n ops orc l env).map (fun r => ((keep.map fun x => look r.1 x.slot), r.2)) = some (keep.map some, pr)
theorem runOkE_of {K : List (Nat × Bool)} {P : Program} {W : World → Prop} {n : Nat} {ops : Array Oper} {orc : List (Nat × Value)} {l : List Oper} {env keep : Env} {pr : Prop}
    (h : RunEqE K P W n ops orc l env keep pr) : ∃ env', evRunK K P W n ops orc l env = some (env', pr) ∧ (keep.map fun x => look env' x.slot) = keep.map some := by
  obtain ⟨⟨env', p⟩, h1, h2⟩ := Option.map_eq_some_iff.1 h
  simp only [Prod.mk.injEq] at h2
  obtain ⟨h2, rfl⟩ := h2
  exact ⟨env', h1, h2⟩
abbrev MixEqE (K : List (Nat × Bool)) (P : Program) (D : World → Prop) (m : Nat) (ops : Array Oper) (hd is : List Nat) (listed listed' : Array Bool) (orc : List (Nat × Value)) (env keep : Env) (pr : Prop) : Prop :=
  ((takeB ops hd is listed, tailB ops hd, Region.noSelect ops, marks listed is), (evRunK K P D m ops orc (is.filterMap fun i => ops[i]?) env).map (fun r => ((keep.map fun x => look r.1 x.slot), r.2))) = ((true, true, true, listed'), some (keep.map some, pr))
theorem m_takeE {ops : Array Oper} {D : World → Prop} {hd : List Nat} {n m : Nat} {listed : Array Bool} {env : Env} (K : List (Nat × Bool)) (is : List Nat) (listed' : Array Bool) (orc : List (Nat × Value)) (keep : Env) (pr : Prop) (ha : EnvOk m a env) (hD : D w) (hp : pr)
    (k : ∀ a', EnvOk m a' keep → Mix P ops (Calm Q) D hd n listed' a' w) (h : MixEqE K P D m ops hd is listed listed' orc env keep pr := by delta MixEqE; kernel_rfl) : Mix P ops (Calm Q) D hd (n + is.length) listed a w := by
  obtain ⟨h1, h2⟩ := Prod.mk.inj h
  obtain ⟨h3, h4⟩ := Prod.mk.inj h1
  obtain ⟨h5, h6⟩ := Prod.mk.inj h4
  obtain ⟨h7, h8⟩ := Prod.mk.inj h6
  obtain ⟨env', e1, e2⟩ := runOkE_of h2
  refine mix_take h5 h7 (fun c a a' w q => q) hD is listed a h3 (evRunK_ok ha e1 hp fun a' ha' => ?_)
  rw [h8]
  exact k a' (keep_okE ha' e2)
theorem q_oneE {ops : Array Oper} {N : Act → World → Prop} {n : Nat} {env : Env} {w0 : Orig} {S : Stab} {rs : List Res} (K : List (Nat × Bool)) (i : Nat) (orc : List (Nat × Value)) (keep : Env) (pr : Prop) (ha : EnvOk n a env) (H : Fr w0 w S rs) (hp : pr)
    (k : ∀ a' w', Fr w0 w' S rs → EnvOk n a' keep → Below w.heap.size w w' → N a' w')
    (h : RunEqE K P (On w) n ops orc ([i].filterMap fun i => ops[i]?) env keep pr := by delta RunEqE; kernel_rfl) : wpOp P ops Q i N a w := by
  obtain ⟨env', e1, e2⟩ := runOkE_of h
  have hq := evRunK_ok ha e1 hp (Q := fun a' => EnvOk n a' env') (fun a' h => h)
  have hq' : qOp P ops (On w) i (fun a' => EnvOk n a' env') a := by
    unfold qOp
    cases ho : ops[i]? with
    | none => simp only [List.filterMap_cons, ho, List.filterMap_nil, wpQuiet] at hq; exact hq
    | some o =>
      simp only [List.filterMap_cons, ho, List.filterMap_nil, wpQuiet] at hq
      exact hq
  exact wpOp_of_qOp (C := On w) ⟨rfl, rfl, rfl, Nat.le_refl _, fun _ _ => rfl⟩ (fun a' w' hw' h => k a' w' (H.on hw') (keep_okE h e2) hw') hq'

/-- What is known of operation i's guards. -/
def evGuard (K : List (Nat × Bool)) (env : Env) (ops : Array Oper) (i : Nat) : Option (Option (List (Nat × Bool)) × Prop) :=
  match ops[i]? with
  | some o => match chainOf ops env o with
    | some C => some (stripK K env C)
    | none => none
  | none => none

/-- The operations without their guards. -/
def bare (ops : Array Oper) : Array Oper := (ops.toList.map fun o => { o with guard := none }).toArray

/-- Its guards hold. -/
theorem op_on {ops : Array Oper} {N : Act → World → Prop} {n : Nat} {env : Env} {i : Nat} (K : List (Nat × Bool)) (pr : Prop) (ha : EnvOk n a env) (hp : pr) (h : wpOp P (bare ops) Q i N a w) (hg : evGuard K env ops i = some (some [], pr) := by kernel_rfl) : wpOp P ops Q i N a w := by
  unfold evGuard at hg
  split at hg
  · rename_i o ho
    split at hg
    · rename_i C hC
      have hs := Option.some.inj hg
      have hst := (stripK_ok (K := K) ha C (by rw [hs]; exact hp)).1 [] (by rw [hs])
      have hw := (wanted_iff ha hC).2 (hst.2 (fun l hl => by simp at hl))
      have ho' : (bare ops)[i]? = some { o with guard := none } := by
        have : ops.toList[i]? = some o := by simpa using ho
        simp [bare, this]
      unfold wpOp at h ⊢
      rw [ho'] at h
      rw [ho]
      simp only at h ⊢
      rw [if_pos hw]
      first | exact h | (split at h; exact h; rename_i hh; exact (hh rfl).elim) | simpa [Region.wanted] using h
    · cases hg
  · cases hg

/-- Its guards do not hold. -/
theorem op_off {ops : Array Oper} {N : Act → World → Prop} {n : Nat} {env : Env} {i : Nat} (K : List (Nat × Bool)) (keep : List (Nat × Value)) (pr : Prop) (ha : EnvOk n a env) (hp : pr)
    (k : ∀ a', EnvOk n a' (keepEnv keep) → N a' w) (hg : evGuard K env ops i = some (none, pr) := by kernel_rfl)
    (hk : ((ops[i]?).map fun o => match o.dst with | none => true | some d => keep.all fun x => x.1 != d) = some true := by kernel_rfl)
    (hl : (keep.map fun x => look env x.1) = (keep.map fun x => some ⟨x.1, [], x.2⟩) := by kernel_rfl) : wpOp P ops Q i N a w := by
  unfold evGuard at hg
  split at hg
  · rename_i o ho
    split at hg
    · rename_i C hC
      have hs := Option.some.inj hg
      have hst := (stripK_ok (K := K) ha C (by rw [hs]; exact hp)).2 (by rw [hs])
      have hw : Region.wanted o (yielded ops a.tmps) = false := by
        cases hww : Region.wanted o (yielded ops a.tmps)
        · rfl
        · exact (hst ((wanted_iff ha hC).1 hww)).elim
      unfold wpOp
      simp only [ho, hw, Bool.false_eq_true, if_false]
      refine k _ ?_
      have hke := keep_ok keep ha (looks_of hl)
      rw [ho] at hk
      simp only [Option.map_some, Option.some.injEq] at hk
      refine ⟨?_, by unfold Act.put; split <;> exact hke.2.1, fun e he => ?_⟩
      · unfold Act.put; split <;> simp [hke.1]
      · obtain ⟨x, hx, rfl⟩ := List.mem_map.1 he
        have hx2 := hke.2.2 _ he
        cases hd : o.dst with
        | none => exact hx2
        | some d =>
          rw [hd] at hk
          simp only [List.all_eq_true] at hk
          exact entOk_put (by simpa using hk x hx) hx2
    · cases hg
  · cases hg

/-- Several operations may come next. -/
theorem m_many {ops : Array Oper} {D : World → Prop} {hd : List Nat} {n : Nat} {listed : Array Bool} (is : List Nat) (h : ∀ i ∈ is, wpOp P ops (Calm Q) i (fun a' w' => (i ∈ hd → D w') ∧ Mix P ops (Calm Q) D hd n (listed.setIfInBounds i true) a' w') a w)
    (hr : Region.ready .any ops listed = is := by kernel_rfl) (hne : is.isEmpty = false := by rfl) : Mix P ops (Calm Q) D hd (n + 1) listed a w := by
  subst hr
  exact ⟨fun e => (by rw [e] at hne; cases hne), h⟩
/-- Where many ways meet again. -/
theorem mix_gen {ops : Array Oper} {D : World → Prop} {hd : List Nat} {n : Nat} {listed : Array Bool} (k : ∀ M : Nat → Array Bool → Act → World → Prop, (∀ n l a w, M n l a w ↔ Mix P ops (Calm Q) D hd n l a w) → M n listed a w) : Mix P ops (Calm Q) D hd n listed a w :=
  k (fun n l a w => Mix P ops (Calm Q) D hd n l a w) (fun _ _ _ _ => Iff.rfl)
theorem Fr.sink {w0 : Orig} {w : World} {S : Stab} {rs : List Res} (h : Fr w0 w S rs) (k p : Nat) : Fr w0 w S ((rs.drop k).take p ++ (rs.take k ++ (rs.drop k).drop p)) := by
  refine h.perm ?_
  have e : rs = rs.take k ++ ((rs.drop k).take p ++ (rs.drop k).drop p) := by rw [List.take_append_drop, List.take_append_drop]
  conv => lhs; rw [e]
  exact List.perm_append_comm_assoc _ _ _
theorem bool_two (b : Bool) : b = true ∨ b = false := by cases b <;> simp
end
end Go.Proofs.Ytbdgelipabndaaa
