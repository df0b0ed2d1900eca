/-
  A region's run of operations that only compute or read, evaluated over the slots that are known; that the region does so, in whatever order is drawn. No program in sight.
-/
import Derived.Test.YtbdgelipabndaaaEngA
set_option linter.unusedSimpArgs false
set_option linter.unusedVariables false
namespace Go.Proofs.Ytbdgelipabndaaa
open Go.RowKit

/-- A slot, the guards under which it was written, its value. -/
structure Ent where
  slot : Nat
  ch : List (Nat × Bool)
  val : Value

abbrev Env := List Ent

def litOk (a : Act) (l : Nat × Bool) : Prop := a.tmps[l.1]? = some (.bool l.2)
def chOk (a : Act) (C : List (Nat × Bool)) : Prop := ∀ l ∈ C, litOk a l
def EntOk (a : Act) (e : Ent) : Prop := (chOk a e.ch → a.tmps[e.slot]? = some e.val) ∧ (¬ chOk a e.ch → a.tmps[e.slot]? = some undef)
def EnvOk (n : Nat) (a : Act) (env : Env) : Prop := a.tmps.size = n ∧ a.defers = [] ∧ ∀ e ∈ env, EntOk a e

def look (env : Env) (t : Nat) : Option Ent := env.find? (fun e => e.slot == t)

def getOp (env : Env) (C : List (Nat × Bool)) : Operand → Option Value
  | .tmp t => match look env t with
    | some e => if e.ch.isPrefixOf C then some e.val else none
    | none => none
  | .const v => some v
  | .func f => some (.func (.func f) #[] #[])
  | .global g => some (.pointer (some ⟨g, 0, none⟩))

theorem look_ok {env : Env} {t : Nat} {e : Ent} (h : look env t = some e) : e ∈ env ∧ e.slot = t :=
  ⟨List.mem_of_find?_eq_some h, by have := List.find?_some h; simpa using this⟩

theorem chOk_prefix {a : Act} {C D : List (Nat × Bool)} (h : C.isPrefixOf D = true) (hd : chOk a D) : chOk a C := by
  obtain ⟨t, rfl⟩ := List.isPrefixOf_iff_prefix.1 h
  exact fun l hl => hd l (List.mem_append_left _ hl)

theorem getOp_ok {n : Nat} {a : Act} {env : Env} {C : List (Nat × Bool)} (ha : EnvOk n a env) (hC : chOk a C) (x : Operand) (u : Value) (h : getOp env C x = some u) : a.eval x = u := by
  cases x with
  | tmp t =>
    simp only [getOp] at h
    split at h
    · rename_i e he
      split at h
      · rename_i hp
        cases h
        obtain ⟨h1, rfl⟩ := look_ok he
        have := (ha.2.2 e h1).1 (chOk_prefix hp hC)
        simp only [Act.eval, Array.getD_eq_getD_getElem?, this, Option.getD_some]
      · cases h
    · cases h
  | const v => cases h; rfl
  | func f => cases h; rfl
  | global g => cases h; rfl

def chainOf (ops : Array Oper) (env : Env) (o : Oper) : Option (List (Nat × Bool)) :=
  match o.guard with
  | none => some []
  | some (i, b) => match (ops[i]?).bind (·.dst) with
    | some j => (look env j).map fun e => e.ch ++ [(j, b)]
    | none => none

/-- Under the guards C: p. -/
def impl (env : Env) : List (Nat × Bool) → Prop → Prop
  | [], p => p
  | (j, b) :: r, p => match look env j with
    | some ⟨_, _, .bool c⟩ => c = b → impl env r p
    | _ => impl env r p

def evPick (env : Env) (C : List (Nat × Bool)) (c x y : Operand) : Option Value :=
  match c, getOp env C c with
  | .tmp t, some (.bool cb) => match getOp env (C ++ [(t, true)]) x, getOp env (C ++ [(t, false)]) y with
    | some (.bool p), some (.bool q) => match x, y with
      | .const (.bool true), _ => some (.bool (cb || q))
      | _, .const (.bool false) => some (.bool (cb && p))
      | _, _ => some (.bool (bif cb then p else q))
    | _, _ => none
  | _, _ => none

/-- One operation. -/
def evStep (P : Program) (W : World → Prop) (n : Nat) (ops : Array Oper) (env : Env) (orc : List (Nat × Value)) (o : Oper) : Option (Env × Prop) :=
  match chainOf ops env o, o.dst with
  | some C, some d =>
    if d < n ∧ C.all (fun l => l.1 != d) = true then
      match (match o.op with
        | .pick c x y => (evPick env C c x y).map fun v => (v, True)
        | op => evOp P W (getOp env C) op (orc.lookup d)) with
      | some (v, p) => some (⟨d, C, v⟩ :: env.filter (fun e => e.slot != d && e.ch.all (fun l => l.1 != d)), impl env C p)
      | none => none
    else none
  | _, _ => none

def evRun (P : Program) (W : World → Prop) (n : Nat) (ops : Array Oper) (orc : List (Nat × Value)) : List Oper → Env → Option (Env × Prop)
  | [], env => some (env, True)
  | o :: r, env => match evStep P W n ops env orc o with
    | some (env', p) => match evRun P W n ops orc r env' with
      | some (env'', q) => some (env'', p ∧ q)
      | none => none
    | none => none

theorem litOk_put {a : Act} {l : Nat × Bool} {d : Nat} {v : Value} (h : l.1 ≠ d) : litOk (a.put (some d) v) l ↔ litOk a l := by
  simp only [litOk, Act.put, Array.getElem?_setIfInBounds]
  rw [if_neg (fun e => h e.symm)]

theorem chOk_put {a : Act} {C : List (Nat × Bool)} {d : Nat} {v : Value} (h : C.all (fun l => l.1 != d) = true) : chOk (a.put (some d) v) C ↔ chOk a C := by
  rw [List.all_eq_true] at h
  exact ⟨fun hc l hl => (litOk_put (by simpa using h l hl)).1 (hc l hl), fun hc l hl => (litOk_put (by simpa using h l hl)).2 (hc l hl)⟩

theorem entOk_put {a : Act} {e : Ent} {d : Nat} {v : Value} (h : (e.slot != d && e.ch.all (fun l => l.1 != d)) = true) (he : EntOk a e) : EntOk (a.put (some d) v) e := by
  rw [Bool.and_eq_true] at h
  have hs : (a.put (some d) v).tmps[e.slot]? = a.tmps[e.slot]? := by
    simp only [Act.put, Array.getElem?_setIfInBounds]
    rw [if_neg (fun q => by simp [q] at h)]
  refine ⟨fun hc => ?_, fun hc => ?_⟩
  · rw [hs]; exact he.1 ((chOk_put h.2).1 hc)
  · rw [hs]; exact he.2 (fun k => hc ((chOk_put h.2).2 k))

theorem envOk_put {n : Nat} {a : Act} {env : Env} {d : Nat} {C : List (Nat × Bool)} {v : Value} (ha : EnvOk n a env) (hd : d < n) (hC : C.all (fun l => l.1 != d) = true) {u : Value} (hu : (chOk a C → u = v) ∧ (¬ chOk a C → u = undef)) :
    EnvOk n (a.put (some d) u) (⟨d, C, v⟩ :: env.filter (fun e => e.slot != d && e.ch.all (fun l => l.1 != d))) := by
  refine ⟨by simp [Act.put, ha.1], ha.2.1, fun e he => ?_⟩
  rcases List.mem_cons.1 he with rfl | he
  · have hs : (a.put (some d) u).tmps[d]? = some u := by
      simp only [Act.put, Array.getElem?_setIfInBounds, if_true]
      rw [if_pos (by rw [ha.1]; exact hd)]
    refine ⟨fun hc => ?_, fun hc => ?_⟩
    · show (a.put (some d) u).tmps[d]? = some v
      rw [hs, hu.1 ((chOk_put hC).1 hc)]
    · show (a.put (some d) u).tmps[d]? = some undef
      rw [hs, hu.2 (fun k => hc ((chOk_put hC).2 k))]
  · obtain ⟨h1, h2⟩ := List.mem_filter.1 he
    exact entOk_put h2 (ha.2.2 e h1)

theorem impl_elim {n : Nat} {a : Act} {env : Env} (ha : EnvOk n a env) : ∀ {C : List (Nat × Bool)} {p : Prop}, impl env C p → chOk a C → p
  | [], p, h, _ => h
  | (j, b) :: r, p, h, hc => by
    have hr : chOk a r := fun l hl => hc l (List.mem_cons_of_mem _ hl)
    simp only [impl] at h
    split at h
    · rename_i s e c hl
      obtain ⟨h1, h2⟩ := look_ok hl
      have hj : a.tmps[j]? = some (.bool b) := hc (j, b) List.mem_cons_self
      have he := ha.2.2 _ h1
      simp only at h2
      subst h2
      have hch : chOk a e := Classical.byContradiction fun hn => by
        have := he.2 hn
        simp only at this
        rw [hj] at this
        simp [undef] at this
      have hv := he.1 hch
      simp only at hv
      rw [hj] at hv
      simp at hv
      exact impl_elim ha (h hv.symm) hr
    · exact impl_elim ha h hr

/-- Is an operation carried out? Just if its guards hold. -/
theorem wanted_iff {n : Nat} {a : Act} {env : Env} {ops : Array Oper} {o : Oper} {C : List (Nat × Bool)} (ha : EnvOk n a env) (h : chainOf ops env o = some C) : Region.wanted o (yielded ops a.tmps) = true ↔ chOk a C := by
  unfold chainOf at h
  unfold Region.wanted
  split at h
  · rename_i hg
    cases h
    simp [hg, chOk]
  · rename_i i b hg
    split at h
    · rename_i j hj
      obtain ⟨e, he, rfl⟩ := Option.map_eq_some_iff.1 h
      obtain ⟨h1, rfl⟩ := look_ok he
      have hen := ha.2.2 e h1
      simp only [hg, beq_iff_eq]
      have hy : yielded ops a.tmps i = some b ↔ a.tmps[e.slot]? = some (.bool b) := by
        unfold yielded
        rw [hj]
        simp only [Option.bind_some]
        constructor
        · intro hh
          split at hh
          · rename_i c hc; cases hh; exact hc
          · cases hh
        · intro hh; rw [hh]
      rw [hy]
      constructor
      · intro hh l hl
        rcases List.mem_append.1 hl with hl | hl
        · have hch : chOk a e.ch := Classical.byContradiction fun hn => by
            have := hen.2 hn
            rw [hh] at this
            simp [undef] at this
          exact hch l hl
        · simp at hl; subst hl; exact hh
      · intro hh
        exact hh (e.slot, b) (List.mem_append_right _ (by simp))
    · cases h

theorem evPick_ok {P : Program} {W : World → Prop} {n : Nat} {a : Act} {env : Env} {C : List (Nat × Bool)} {o : Oper} {c x y : Operand} {v : Value} (ha : EnvOk n a env) (hC : chOk a C) (ho : o.op = .pick c x y) (h : evPick env C c x y = some v) (w : World) : Oper.quietUpon P W w v ((execOp a.eval o).run P w) := by
  unfold evPick at h
  split at h
  · rename_i t cb hc
    split at h
    · rename_i p q hx hy
      have ec := getOp_ok ha hC _ _ hc
      have key : ∀ r : Bool, (cb = true → r = p) → (cb = false → r = q) → v = .bool r → Oper.quietUpon P W w v ((execOp a.eval o).run P w) := by
        intro r h1 h2 hv
        subst hv
        have hlit : litOk a (t, cb) := by
          simp only [getOp] at hc
          split at hc
          · rename_i e he
            split at hc
            · rename_i hp
              obtain ⟨m1, rfl⟩ := look_ok he
              have := (ha.2.2 e m1).1 (chOk_prefix hp hC)
              have hv := Option.some.inj hc
              unfold litOk
              rw [this, hv]
            · cases hc
          · cases hc
        simp only [execOp, ho, ec, asBool, Sem.run_bind, Sem.run_pure, Result.andThen_ok]
        cases cb with
        | true =>
          have ex := getOp_ok ha (C := C ++ [(t, true)]) (fun l hl => by rcases List.mem_append.1 hl with hl | hl; exact hC l hl; simp at hl; subst hl; exact hlit) _ _ hx
          rw [h1 rfl]
          simp only [if_true, ex]
          exact ⟨rfl, rfl⟩
        | false =>
          have ey := getOp_ok ha (C := C ++ [(t, false)]) (fun l hl => by rcases List.mem_append.1 hl with hl | hl; exact hC l hl; simp at hl; subst hl; exact hlit) _ _ hy
          rw [h2 rfl]
          simp only [Bool.false_eq_true, if_false, ey]
          exact ⟨rfl, rfl⟩
      split at h
      · cases h
        cases hx
        exact key _ (fun e => by rw [e]; simp) (fun e => by rw [e]; simp) rfl
      · cases h
        cases hy
        exact key _ (fun e => by rw [e]; simp) (fun e => by rw [e]; simp) rfl
      · cases h
        exact key _ (fun e => by rw [e]; rfl) (fun e => by rw [e]; rfl) rfl
    · cases h
  · cases h

theorem evStep_ok {P : Program} {W : World → Prop} {n : Nat} {ops : Array Oper} {a : Act} {env env' : Env} {orc : List (Nat × Value)} {o : Oper} {p : Prop} (ha : EnvOk n a env)
    (h : evStep P W n ops env orc o = some (env', p)) (hp : p) {Q : Act → Prop} (hQ : ∀ a', EnvOk n a' env' → Q a') :
    if Region.wanted o (yielded ops a.tmps) then o.quiet P a W Q else Q (a.put o.dst undef) := by
  unfold evStep at h
  split at h
  · rename_i C d hC hd
    split at h
    · rename_i hdn
      split at h
      · rename_i v p' hv
        cases h
        have hw := wanted_iff ha hC
        by_cases hch : chOk a C
        · rw [if_pos (hw.2 hch)]
          have hp' := impl_elim ha hp hch
          refine ⟨v, fun w hw => ?_, ?_⟩
          · unfold Oper.quietAt
            split at hv
            · rename_i c x y ho
              obtain ⟨u, hu, e⟩ := Option.map_eq_some_iff.1 hv
              cases e
              exact evPick_ok ha hch ho hu w
            · exact evOp_ok (fun x u hx => getOp_ok ha hch x u hx) hv hp' w hw
          · rw [hd]
            exact hQ _ (envOk_put ha hdn.1 hdn.2 ⟨fun _ => rfl, fun hn => (hn hch).elim⟩)
        · rw [if_neg (fun hh => hch (hw.1 hh)), hd]
          exact hQ _ (envOk_put ha hdn.1 hdn.2 ⟨fun hh => (hch hh).elim, fun _ => rfl⟩)
      · cases h
    · cases h
  · cases h

theorem evRun_ok {P : Program} {W : World → Prop} {n : Nat} {ops : Array Oper} {orc : List (Nat × Value)} : ∀ {l : List Oper} {a : Act} {env env' : Env} {p : Prop} (ha : EnvOk n a env)
    (h : evRun P W n ops orc l env = some (env', p)) (hp : p) {Q : Act → Prop} (hQ : ∀ a', EnvOk n a' env' → Q a'), wpQuiet P ops W Q l a
  | [], a, env, env', p, ha, h, hp, Q, hQ => by
    simp only [evRun, Option.some.injEq, Prod.mk.injEq] at h
    obtain ⟨rfl, rfl⟩ := h
    exact hQ a ha
  | o :: r, a, env, env', p, ha, h, hp, Q, hQ => by
    simp only [evRun] at h
    split at h
    · rename_i env1 p1 h1
      split at h
      · rename_i env2 q h2
        cases h
        exact evStep_ok ha h1 hp.1 (fun a' ha' => evRun_ok ha' h2 hp.2 hQ)
      · cases h
    · cases h

/-- What is kept of the slots. -/
def keepEnv (keep : List (Nat × Value)) : Env := keep.map fun x => ⟨x.1, [], x.2⟩

theorem keep_ok {n : Nat} {a : Act} {env : Env} (keep : List (Nat × Value)) (ha : EnvOk n a env) (h : ∀ x ∈ keep, look env x.1 = some ⟨x.1, [], x.2⟩) : EnvOk n a (keepEnv keep) := by
  refine ⟨ha.1, ha.2.1, fun e he => ?_⟩
  obtain ⟨x, hx, rfl⟩ := List.mem_map.1 he
  exact ha.2.2 _ (look_ok (h x hx)).1

end Go.Proofs.Ytbdgelipabndaaa
