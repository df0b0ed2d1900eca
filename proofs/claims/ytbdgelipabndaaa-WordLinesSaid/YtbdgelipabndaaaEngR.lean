/-
  A range over a function: what was walked plainly, in a round's frame; the call of yield. No program in sight.
-/
import Derived.Test.YtbdgelipabndaaaEngK
import Derived.RangeFuncNested
import Derived.RangeFuncLeaves
import Derived.RangeFuncCalls
import Derived.OrdersIn
import Derived.TacticsIn
set_option linter.unusedSimpArgs false
set_option linter.unusedVariables false
namespace Go.Proofs.Ytbdgelipabndaaa
open Go.RowKit

/-- No 'defer' statement. -/
def calmB (ops : Array Oper) : Bool := ops.toList.all fun o => match o.op with | .defer _ => false | _ => true
theorem calm_of {ops : Array Oper} (h : calmB ops = true) {o : Oper} (ho : o ∈ ops.toList) : ∀ c, o.op ≠ .defer c := by
  intro c e
  have := List.all_eq_true.1 h o ho
  rw [e] at this
  cases this

abbrev Rnd (l : Nat) : Fence := Fence.wide.inRound l

section
variable {P : Program} {ops : Array Oper} {Q : Exit → Act → World → Prop} {a : Act} {w : World}

theorem op_in {G : Fence} {n : Nat} (hfn : ∀ f, G.fn f) (hd : G.depth = none) (hcall : ∀ f args w R, Calls P f args w R → CallsIn G (n - 1) P f args w R) (hrow : ∀ row args w R, Rows P row args w R → RowsIn G (n - 1) P row args w R) (hQ : ¬ LetsOut Q) {o : Oper} {K : Act → World → Prop} (hdf : ∀ c, o.op ≠ .defer c)
    (h : o.wp P a w K Q ∨ (o.asks P a w ∧ LetsOut Q)) : o.wpIn G n P a w K Q := by
  rcases h with h | ⟨_, h⟩
  · refine ⟨fun f _ => hfn f, ?_⟩
    rw [Oper.semAt_eq _ _ _ hdf]
    unfold Oper.wp at h
    generalize (execOp a.eval o).run P w = r at *
    cases r with
    | ok x w' =>
      cases x <;> simp only [Oper.upon, Oper.uponIn] at h ⊢ <;> first
        | exact ⟨fun e => (by rw [hd] at e; cases e), hcall _ _ _ _ h⟩
        | exact ⟨fun e => (by rw [hd] at e; cases e), hrow _ _ _ _ h⟩
        | exact h
        | exact (h : False).elim
    | halt x w' => cases x <;> simp only [Oper.upon, Oper.uponIn] at h ⊢ <;> exact h
  · exact (hQ h).elim

theorem list_in {G : Fence} {n : Nat} (hfn : ∀ f, G.fn f) (hd : G.depth = none) (hcall : ∀ f args w R, Calls P f args w R → CallsIn G (n - 1) P f args w R) (hrow : ∀ row args w R, Rows P row args w R → RowsIn G (n - 1) P row args w R) (hQ : ¬ LetsOut Q) :
    ∀ (l : List Oper) (a : Act) (w : World), (∀ o ∈ l, ∀ c, o.op ≠ .defer c) → wpList P ops Q l a w → wpListIn G n P ops Q l a w
  | [], a, w, _, h => h
  | o :: l, a, w, hl, h => by
    simp only [wpList] at h
    simp only [wpListIn]
    have ih := fun a w => list_in hfn hd hcall hrow hQ l a w (fun o' ho' => hl o' (List.mem_cons_of_mem _ ho'))
    by_cases hw : Region.wanted o (yielded ops a.tmps) = true
    · rw [if_pos hw] at h ⊢
      exact Oper.wpIn_mono ih (op_in hfn hd hcall hrow hQ (hl o List.mem_cons_self) h)
    · rw [if_neg hw] at h ⊢
      exact ⟨fun f _ => hfn f, ih _ _ h⟩

theorem any_in {G : Fence} {n : Nat} (hfn : ∀ f, G.fn f) (hd : G.depth = none) (hcall : ∀ f args w R, Calls P f args w R → CallsIn G (n - 1) P f args w R) (hrow : ∀ row args w R, Rows P row args w R → RowsIn G (n - 1) P row args w R) (hQ : ¬ LetsOut Q)
    (hops : ∀ o ∈ ops.toList, ∀ c, o.op ≠ .defer c) : ∀ (k : Nat) (listed : Array Bool) (a : Act) (w : World), wpAny P .any ops Q k listed a w → wpAnyIn G n P .any ops Q k listed a w
  | 0, _, _, _, h => h
  | k + 1, listed, a, w, h => by
    refine ⟨h.1, fun i hi => ?_⟩
    have h2 := h.2 i hi
    unfold wpOp at h2
    unfold wpOpIn
    cases ho : ops[i]? with
    | none => rw [ho] at h2; exact any_in hfn hd hcall hrow hQ hops k _ a w h2
    | some o =>
      rw [ho] at h2
      simp only at h2 ⊢
      by_cases hw : Region.wanted o (yielded ops a.tmps) = true
      · rw [if_pos hw] at h2 ⊢
        exact Oper.wpIn_mono (fun a w => any_in hfn hd hcall hrow hQ hops k _ a w) (op_in hfn hd hcall hrow hQ (hops o (by have := List.mem_of_getElem? (l := ops.toList) (i := i) (by simpa using ho); exact this)) h2)
      · rw [if_neg hw] at h2 ⊢
        exact ⟨fun f _ => hfn f, any_in hfn hd hcall hrow hQ hops k _ _ w h2⟩
end

theorem rnd_call {P : Program} {n l : Nat} (f : FuncId) (args : Array Value) (w : World) (R : Ending → World → Prop) (h : Calls P f args w R) : CallsIn (Rnd l) n P f args w R := CallsIn.inRound l (callsIn_wide.2 h)

section
variable {P : Program} {B : Code} {p : List Nat} {Q : Post} {a : Act} {w : World} {l n : Nat}

theorem rnd_row (row : String) (args : Array Value) (w : World) (R : Value → World → Prop) (h : Rows P row args w R) : RowsIn (Rnd l) n P row args w R :=
  fun c cs _ => let ⟨v, w', r, s⟩ := h c cs; ⟨v, w', r, stepsIn_wide.2 s⟩

theorem region_listR (k : wpList P (opsOf (sub B p)) Q ((opsOf (sub B p)).toList.drop 0) a w) (hQ : ¬ LetsOut Q) (hd : drawOf (sub B p) = some false := by kernel_rfl) (hc : calmB (opsOf (sub B p)) = true := by kernel_rfl) : (sub B p).wpIn (Rnd l) n P Q a w := by
  cases hc' : sub B p <;> rw [hc'] at hd <;> first | (cases hd; done) | skip
  rename_i id ops d
  simp only [drawOf, Option.some.injEq] at hd
  subst hd
  rw [hc'] at k hc
  exact wpIn_region_list (list_in (fun _ => trivial) rfl (fun f args w R h => rnd_call f args w R h) (fun row args w R h => rnd_row row args w R h) hQ _ a w (fun o ho => calm_of hc ho) k)

/-- Where a region that draws begins. hd: the head. -/
theorem region_mixR (D : World → Prop) (hd : List Nat) (m : Nat) (k : Mix P (opsOf (sub B p)) (Calm Q) D hd m (Array.replicate m false) a { w with drawn := w.drawn + 1 }) (hQ : ¬ LetsOut Q) (hn : (opsOf (sub B p)).size = m := by kernel_rfl) (hdr : drawOf (sub B p) = some true := by kernel_rfl) (hm : P.follows .mixedOrders = true := by kernel_rfl) (hcm : calmB (opsOf (sub B p)) = true := by kernel_rfl) : (sub B p).wpIn (Rnd l) n P Q a w := by
  cases hc : sub B p <;> rw [hc] at hdr <;> first | (cases hdr; done) | skip
  rename_i id ops d
  simp only [drawOf, Option.some.injEq] at hdr
  subst hdr
  rw [hc] at k hn hcm
  subst hn
  have hQc : ¬ LetsOut (Calm Q) := fun ⟨a, w, h⟩ => hQ ⟨a, w, h⟩
  have := wpIn_region_any (F := Rnd l) (n := n) (id := id) hm (any_in (fun _ => trivial) rfl (fun f args w R h => rnd_call f args w R h) (fun row args w R h => rnd_row row args w R h) hQc (fun o ho => calm_of hcm ho) _ _ _ _ (Mix.any _ _ _ _ k))
  exact Go.wpIn_mono this (fun e a w q => by cases e <;> first | exact q | exact (q : False).elim)

theorem go_seqR (k : ∀ K : Act → World → Prop, (∀ a w, (sub B (p ++ [1])).wpIn (Rnd l) n P Q a w → K a w) → (sub B (p ++ [0])).wpIn (Rnd l) n P (Exit.then K Q) a w) (h : isSeq (sub B p) = true := by kernel_rfl) : (sub B p).wpIn (Rnd l) n P Q a w := by
  cases hc : sub B p <;> rw [hc] at h <;> first | (cases h; done) | skip
  rename_i x y
  refine wpIn_seq_k fun K hK => ?_
  have := k K (fun a w h => hK a w (by rw [sub_snoc, hc, sub_seq1] at h; exact h))
  rw [sub_snoc, hc, sub_seq0] at this
  exact this
theorem go_condR {m : Nat} {env : Env} (ha : EnvOk m a env) (c : Operand) (b : Bool)
    (ht : b = true → (sub B (p ++ [0])).wpIn (Rnd l) n P Q a w) (hf : b = false → (sub B (p ++ [1])).wpIn (Rnd l) n P Q a w) (h : condOf (sub B p) = some c := by kernel_rfl) (hb : getOp env [] c = some (.bool b) := by kernel_rfl) : (sub B p).wpIn (Rnd l) n P Q a w := by
  cases hc : sub B p <;> rw [hc] at h <;> first | (cases h; done) | skip
  rename_i c' x y
  simp only [condOf, Option.some.injEq] at h
  subst h
  refine wpIn_cond_split (getOp_ok ha (fun _ hl => by simp at hl) _ _ hb) (fun e => ?_) (fun e => ?_)
  · have := ht e; rw [sub_snoc, hc, sub_cond0] at this; exact this
  · have := hf e; rw [sub_snoc, hc, sub_cond1] at this; exact this
theorem go_blockR (i : Nat) (k : (sub B (p ++ [0])).wpIn (Rnd l) n P (Exit.inBlock i Q) a w) (h : blockOf (sub B p) = some i := by kernel_rfl) : (sub B p).wpIn (Rnd l) n P Q a w := by
  cases hc : sub B p <;> rw [hc] at h <;> first | (cases h; done) | skip
  rename_i j b
  simp only [blockOf, Option.some.injEq] at h
  subst h
  rw [sub_snoc, hc, sub_block0] at k
  exact wpIn_block k
theorem go_ret_R (k : Q .ret a w) (h : isRet (sub B p) = true := by kernel_rfl) : (sub B p).wpIn (Rnd l) n P Q a w := by
  cases hc : sub B p <;> rw [hc] at h <;> first | (cases h; done) | skip
  exact wpIn_ret k
theorem go_skipR (k : Q .normal a w) (h : isSkip (sub B p) = true := by kernel_rfl) : (sub B p).wpIn (Rnd l) n P Q a w := by
  cases hc : sub B p <;> rw [hc] at h <;> first | (cases h; done) | skip
  exact wpIn_skip k
end

/-! ### The iterator's side -/
section
variable {P : Program} {ops : Array Oper} {Q : Exit → Act → World → Prop} {n : Nat}

theorem wide_row {k : Nat} (row : String) (args : Array Value) (w : World) (R : Value → World → Prop) (h : Rows P row args w R) : RowsIn Fence.wide k P row args w R :=
  fun c cs _ => let ⟨v, w', r, s⟩ := h c cs; ⟨v, w', r, stepsIn_wide.2 s⟩
theorem listIn_append {F : Fence} {rest : List Oper} : ∀ (l : List Oper) (a : Act) (w : World), wpListIn F n P ops (Exit.then (wpListIn F n P ops Q rest) Q) l a w → wpListIn F n P ops Q (l ++ rest) a w
  | [], a, w, h => h
  | o :: l, a, w, h => by
    simp only [wpListIn, List.cons_append] at h ⊢
    by_cases hw : Region.wanted o (yielded ops a.tmps) = true
    · rw [if_pos hw] at h ⊢
      refine Oper.wpIn_mono (listIn_append l) ⟨h.1, ?_⟩
      have h2 := h.2
      generalize (o.semAt F.round a.eval).run P w = r at *
      cases r with
      | ok x w' => cases x <;> exact h2
      | halt x w' => cases x <;> exact h2
    · rw [if_neg hw] at h ⊢
      exact ⟨h.1, listIn_append l _ _ h.2⟩

variable {B : Code} {p : List Nat} {a : Act} {w : World}
theorem region_in (n : Nat) (k : wpListIn Fence.wide n P (opsOf (sub B p)) Q ((opsOf (sub B p)).toList.drop 0) a w) (hd : drawOf (sub B p) = some false := by kernel_rfl) : (sub B p).wp P Q a w := by
  cases hc' : sub B p <;> rw [hc'] at hd <;> first | (cases hd; done) | skip
  rename_i id ops d
  simp only [drawOf, Option.some.injEq] at hd
  subst hd
  rw [hc'] at k
  exact wpIn_wide.1 (wpIn_region_list k)

theorem q_listI {m : Nat} {env : Env} {w0 : Orig} {S : Stab} {rs : List Res} (i k : Nat) (orc : List (Nat × Value)) (keep : List (Nat × Value)) (pr : Prop) (ha : EnvOk m a env) (H : Fr w0 w S rs) (hp : pr) (hQ : ¬ LetsOut Q)
    (kk : ∀ a' w', EnvOk m a' (keepEnv keep) → Fr w0 w' S rs → Below w.heap.size w w' → wpListIn Fence.wide n P ops Q (ops.toList.drop (i + k)) a' w')
    (h : RunEq P (On w) m ops orc ((ops.toList.drop i).take k) env keep pr := by delta RunEq; kernel_rfl) (hc : calmB ops = true := by kernel_rfl) : wpListIn Fence.wide n P ops Q (ops.toList.drop i) a w := by
  obtain ⟨env', h1, hk⟩ := runOk_of h
  have h2 := wpList_quiet (P := P) (ops := ops) (Q := Exit.then (wpListIn Fence.wide n P ops Q (ops.toList.drop (i + k))) Q) (rest := []) (K := fun a' => EnvOk m a' (keepEnv keep)) ((ops.toList.drop i).take k) a w (On.self w)
    (evRun_ok ha h1 hp fun a' ha' => keep_ok keep ha' hk) (fun a' w' hw' ha' => kk a' w' ha' (H.on hw') hw')
  rw [List.append_nil] at h2
  have h3 := list_in (G := Fence.wide) (n := n) (Q := Exit.then (wpListIn Fence.wide n P ops Q (ops.toList.drop (i + k))) Q) (fun _ => trivial) rfl (fun f args w R h => callsIn_wide.2 h) (fun row args w R h => wide_row row args w R h) (fun ⟨a, w, h⟩ => hQ ⟨a, w, h⟩) _ a w
    (fun o ho => calm_of hc (List.mem_of_mem_drop (List.mem_of_mem_take ho))) h2
  have h4 := listIn_append _ a w h3
  rw [← List.drop_drop, List.take_append_drop] at h4
  exact h4

theorem listI_end {i : Nat} (k : Q .normal a w) (h : decide (ops.size ≤ i) = true := by kernel_rfl) : wpListIn Fence.wide n P ops Q (ops.toList.drop i) a w := by
  rw [List.drop_of_length_le (by simpa using of_decide_eq_true h)]
  exact k

/-- The call of yield. -/
theorem q_yield {m : Nat} {env : Env} (i d l : Nat) (x : Operand) (args : Array Operand) (ats : Array TypeId) (us : List Value) {R : Ending → World → Prop} (keep : List (Nat × Value)) (ha : EnvOk m a env)
    (hy : YieldAt Fence.wide (n - 1) P l us.toArray w R)
    (k : ∀ e w', R e w' → ∃ v, e = .returned v ∧ ∀ a', EnvOk m a' (keepEnv ((d, v) :: keep)) → wpListIn Fence.wide n P ops Q (ops.toList.drop (i + 1)) a' w')
    (h : opAt ops i = some (.call { callee := .value x, args := args, argTypes := ats }, some d, none) := by kernel_rfl) (hx : getOp env [] x = some (.func (.yield l) #[] #[]) := by kernel_rfl) (hargs : (args.toList.map (getOp env [])).mapM id = some us := by kernel_rfl)
    (hk : KeepEq m d env keep := by delta KeepEq; kernel_rfl) : wpListIn Fence.wide n P ops Q (ops.toList.drop i) a w := by
  obtain ⟨o, ho, he⟩ := Option.map_eq_some_iff.1 h
  simp only [Prod.mk.injEq] at he
  obtain ⟨h1, h2, h3⟩ := he
  obtain ⟨hi', ho'⟩ := List.getElem?_eq_some_iff.1 ho
  rw [List.drop_eq_getElem_cons hi', ho']
  refine wpListIn_plain h3 fun K hK => ⟨fun f _ => trivial, ?_⟩
  have hnil : chOk a [] := fun l hl => by simp at hl
  have hargs' := args_arr (ρ := a.eval) (fun x u hx => getOp_ok ha hnil x u hx) args us hargs
  obtain ⟨fn, tmps, assign, body, hy1, hy2⟩ := hy
  have e : (o.semAt (Fence.wide).round a.eval).run P w = .ok (.round l fn tmps assign body) w := by
    show (execOp a.eval o).run P w = _
    have hy1' := hy1
    simp [execOp, h1, resolve, hargs', getOp_ok ha hnil _ _ hx, Deferred.ofValue, invoke, hy1']
  rw [e]
  refine ⟨fun e => (by cases e), hy2.mono fun e w' hR => ?_⟩
  obtain ⟨v, rfl, hv⟩ := k e w' hR
  exact hK _ _ (hv _ (env_put (o := o) keep ha h2 hk))
end

/-- No results. -/
theorem ret_none {P : Program} {fn : Func} {R : Ending → World → Prop} {n : Nat} {env : Env} {a : Act} {w : World} (ha : EnvOk n a env) (k : R (.returned (.tuple #[])) w) (hr : fn.results = #[] := by kernel_rfl) : bodyPost P fn R .ret a w := by
  refine bodyPost_ret (v := .tuple #[]) ?_ ha.2.1 k
  simp [results, hr]

theorem ret_noneN {P : Program} {fn : Func} {R : Ending → World → Prop} {n : Nat} {env : Env} {a : Act} {w : World} (ha : EnvOk n a env) (k : R (.returned (.tuple #[])) w) (hr : fn.results = #[] := by kernel_rfl) : bodyPost P fn R .normal a w := by
  have := ret_none (P := P) ha k hr
  exact this

/-- A call that owns nothing of what stood when it began. -/
abbrev orgE (w : World) : Orig := ⟨{ w with heap := #[] }, fun _ => False, fun _ h => h.elim⟩
theorem fr_box {w : World} {b : Nat} {t : TypeId} {vs : List Value} (hb : w.heap[b]? = some (.cells vs.toArray t (0, 0))) : Fr (orgE w) w (fun _ => False) [.box b t vs] where
  below := ⟨rfl, rfl, rfl, Nat.zero_le _, fun k hk => absurd hk (Nat.not_lt_zero k)⟩
  src _ h := h.elim
  inb _ h := h.elim
  ok r hr := by rw [List.mem_singleton.1 hr]; exact hb
  own r hr b' hb' := by
    rw [List.mem_singleton.1 hr] at hb'
    cases hb'
    exact ⟨Nat.zero_le _, (Array.getElem?_eq_some_iff.1 hb).1, fun h => h⟩
  nodup := by show List.Nodup [b]; simp

/-- What a round keeps for the iterator. -/
structure KpB (b : Nat) (A C : World) : Prop where
  os : C.os = A.os
  tape : C.tape = A.tape
  output : C.output = A.output
  box : C.heap[b]? = A.heap[b]?
  walks : KeepsWalks A C
theorem KpB.trans {b : Nat} {A C D : World} (h : KpB b A C) (k : KpB b C D) : KpB b A D := ⟨k.os.trans h.os, k.tape.trans h.tape, k.output.trans h.output, k.box.trans h.box, h.walks.trans k.walks⟩
theorem KpB.putObj {b : Nat} {w : World} (hb : b < w.heap.size) (W : World) (l : Nat) (o o' : Obj) (hl : w.heap.size ≤ l) (h : W.heap[l]? = some o) (_ : o.isCells = false) (hw : o.isWalk = false) : KpB b W (W.putObj l o') :=
  ⟨rfl, rfl, rfl, World.putObj_heap_other (by omega), KeepsWalks.putObj _ h hw⟩

theorem fr_kept {o : Orig} {w w' : World} {S : Stab} {b bi pos : Nat} {s : ByteArray} {t : TypeId} {vs : List Value} (ho : o.w.heap.size = 0) (H : Fr o w S [.iter bi s pos, .box b t vs]) (hk : KpB b w w') : Fr o w' (fun _ => False) [.iter bi s pos, .box b t vs] where
  below := ⟨hk.os.trans H.below.os, hk.tape.trans H.below.tape, hk.output.trans H.below.output, by rw [ho]; exact Nat.zero_le _, fun k hk => by rw [ho] at hk; exact absurd hk (Nat.not_lt_zero k)⟩
  src _ h := h.elim
  inb _ h := h.elim
  ok r hr := by
    have := H.ok r hr
    simp only [List.mem_cons, List.not_mem_nil, or_false] at hr
    rcases hr with rfl | rfl
    · exact hk.walks.same _ _ this rfl
    · exact hk.box.trans this
  own r hr k hk' := by
    obtain ⟨h1, h2, h3⟩ := H.own r hr k hk'
    exact ⟨h1, Nat.lt_of_lt_of_le h2 hk.walks.size, fun h => h⟩
  nodup := H.nodup

/-- The caller's invariant, carried over an iterator's own steps. -/
abbrev Has {β : Type} (J : β → World → Prop) (B : Nat) (x : β) (w : World) : Prop := J x w ∧ B ≤ w.heap.size
theorem Has.on {β : Type} {J : β → World → Prop} {B : Nat} {x : β} {w w' : World} (hJ : AbidesFrom B J) (h : Has J B x w) (hb : Below w.heap.size w w') : Has J B x w' :=
  ⟨hJ x w w' none h.1 ⟨hb.os, hb.tape, hb.output, hb.size, fun k hk _ => hb.block k hk⟩ (fun r e => by cases e), Nat.le_trans h.2 hb.size⟩
theorem Has.next {β : Type} {J : β → World → Prop} {B b pos : Nat} {s : ByteArray} {x : β} {w w' : World} (hJ : AbidesFrom B J) (h : Has J B x w) (hb : B ≤ b) (hi : w.heap[b]? = some (.stringIter s pos)) (hg : w.grownBy w' (some b)) : Has J B x w' :=
  ⟨hJ x w w' (some b) h.1 hg (fun r e => by cases e; exact ⟨hb, _, hi, rfl⟩), Nat.le_trans h.2 hg.size⟩
theorem jon {β : Type} {J : β → World → Prop} {B : Nat} {x : β} {w w' : World} (hJ : AbidesFrom B J) (h : J x w) (hb : Below w.heap.size w w') : J x w' :=
  hJ x w w' none h ⟨hb.os, hb.tape, hb.output, hb.size, fun k hk _ => hb.block k hk⟩ (fun r e => by cases e)
theorem Has.kp {β : Type} {J : β → World → Prop} {B b : Nat} {x : β} {w w' : World} (h : J x w') (hB : B ≤ w.heap.size) (hk : KpB b w w') : Has J B x w' := ⟨h, Nat.le_trans hB hk.walks.size⟩

/-! ### The caller's side -/
def rangeOf : Code → Option (Operand × Array Tmp) | .rangeFunc g ps _ _ => some (g, ps) | _ => none

section
variable {P : Program} {B : Code} {p : List Nat} {Q : Post} {a : Act} {w : World}

/-- The statement, by what the iterator says. -/
theorem go_rangeFunc {α : Type} {m : Nat} {env : Env} (gf bc : Nat) (g : Operand) (ps : Array Tmp) {encs : α → Array Value} {Sx Sp : List α → Prop} {N : Nat} (ha : EnvOk m a env) (hbc : bc < w.heap.size)
    (hseq : SeqStopsK Fence.wide 1 P gf #[.pointer (some ⟨bc, 0, none⟩)] encs (KpB bc) Sx Sp N w) (hps : ∀ x, (encs x).size = ps.size)
    (I : List α → World → Prop) (Ix : Code → List α → World → Prop) (hI : OwnFrom w.heap.size I) (hIx : ∀ c, OwnFrom w.heap.size (Ix c)) (h0 : I [] w) (Ax : α → Act → World → Prop) (hAx : ∀ x a', OwnFrom w.heap.size (fun (_ : Unit) W => Ax x a' W))
    (hassign : ∀ (l : Nat) (pre : List α) (x : α) (W : World) (K : Act → World → Prop), I pre W → (∀ a' W', KeepsFrom w.heap.size W W' → KpB bc W W' → I pre W' → Ax x a' W' → K a' W') →
      (sub B (p ++ [0])).wpIn (Rnd l) 0 P (Exit.then K (fun _ _ _ => False)) { tmps := (ps.zip (encs x)).foldl (fun t (p, v) => t.setIfInBounds p v) a.tmps, defers := [] } W)
    (hbody : ∀ (l : Nat) (pre : List α) (x : α) (a' : Act) (W : World), I pre W → Ax x a' W → pre.length < N → (sub B (p ++ [1])).wpIn (Rnd l) 0 P (ownPostG w.heap.size (KpB bc) I Ix (pre ++ [x]) W) a' W)
    (hdone : ∀ (D : Nat) (xs : List α) (W : World), w.heap.size ≤ D → Sx xs → I xs W → W.heap[D]? = some (.deferred (some [])) → Q .normal { a with defers := { target := .collected D, args := #[] } :: [] } W)
    (hstop : ∀ (D : Nat) (c : Code) (pre : List α) (W : World), w.heap.size ≤ D → Sp pre → Ix c pre W → W.heap[D]? = some (.deferred (some [])) → c.wp P Q { a with defers := { target := .collected D, args := #[] } :: [] } W)
    (hr : rangeOf (sub B p) = some (g, ps) := by kernel_rfl) (hg : getOp env [] g = some (.func (.func gf) #[] #[.pointer (some ⟨bc, 0, none⟩)]) := by kernel_rfl) (hf : Callable P gf := by exact callable_of) : (sub B p).wp P Q a w := by
  cases hc : sub B p <;> rw [hc] at hr <;> first | (cases hr; done) | skip
  rename_i g' ps' as bo
  simp only [rangeOf, Option.some.injEq, Prod.mk.injEq] at hr
  obtain ⟨rfl, rfl⟩ := hr
  have e0 : sub B (p ++ [0]) = as := by rw [sub_snoc, hc]; simp only [sub]; cases as <;> rfl
  have e1 : sub B (p ++ [1]) = bo := by rw [sub_snoc, hc]; simp only [sub]; cases bo <;> rfl
  rw [e0] at hassign
  rw [e1] at hbody
  have hd : a.defers = [] := ha.2.1
  have hnil : chOk a [] := fun l hl => by simp at hl
  obtain ⟨fn, hfn, hn, hb⟩ := hf
  have hn' : fn.name ≠ "runtime.NumGoroutine" := by simpa using hn
  have hb' : fn.body ≠ none := by intro e; rw [e] at hb; cases hb
  refine wpIn_wide.1 (wpIn_rangeFunc_ownH (F := Fence.wide) (n := 2) rfl (by decide) (getOp_ok ha hnil _ _ hg) trivial ?_ hseq (fun h k => h.trans k) (fun W l o o' hl h1 h2 h3 => KpB.putObj hbc W l o o' hl h1 h2 h3) (Below.refl _ _) hps I Ix hI hIx h0 Ax hAx hassign
    (fun l pre x a' W _ _ hi hx hn => hbody l pre x a' W hi hx hn) (fun D xs W h1 h2 h3 h4 => by rw [hd]; exact hdone D xs W h1 h2 h3 h4) (fun D c pre W h1 h2 h3 h4 => by rw [hd]; exact wpIn_wide.2 (hstop D c pre W h1 h2 h3 h4)))
  intro args w
  simp [callFunc, program, Sem.run, hfn, hn', hb']

/-- A region of the activation's own, where calls are put off to its end. -/
theorem region_listD {ds : List Deferred} (hd0 : a.defers = []) (k : wpList P (opsOf (sub B p)) (fun e a' w' => Q e { a' with defers := a'.defers ++ ds } w') ((opsOf (sub B p)).toList.drop 0) a w) (hd : drawOf (sub B p) = some false := by kernel_rfl) (hcm : calmB (opsOf (sub B p)) = true := by kernel_rfl) : (sub B p).wp P Q { a with defers := ds } w := by
  cases hc : sub B p <;> rw [hc] at hd <;> first | (cases hd; done) | skip
  rename_i id ops d
  simp only [drawOf, Option.some.injEq] at hd
  subst hd
  rw [hc] at k hcm
  refine wp_region_list ?_
  have key : ∀ (l : List Oper) (a : Act) (w : World), (∀ o ∈ l, ∀ c, o.op ≠ .defer c) → wpList P ops (fun e a' w' => Q e { a' with defers := a'.defers ++ ds } w') l a w → wpList P ops Q l { a with defers := a.defers ++ ds } w := by
    intro l
    induction l with
    | nil => intro a w _ h; exact h
    | cons o l ih =>
      intro a w hl h
      have hl' := fun o' ho' => hl o' (List.mem_cons_of_mem _ ho')
      have hput : ∀ v, ({ a with defers := a.defers ++ ds } : Act).put o.dst v = { (a.put o.dst v) with defers := (a.put o.dst v).defers ++ ds } := fun v => by unfold Act.put; cases o.dst <;> rfl
      simp only [wpList] at h ⊢
      by_cases hw : Region.wanted o (yielded ops a.tmps) = true
      · rw [if_pos hw] at h ⊢
        rcases h with h | ⟨h1, h2⟩
        · left
          unfold Oper.wp at h ⊢
          have he : execOp ({ a with defers := a.defers ++ ds } : Act).eval o = execOp a.eval o := by
            congr 1
          rw [he]
          generalize (execOp a.eval o).run P w = r at *
          cases r with
          | ok x w' =>
            cases x with
            | value v => simp only [Oper.upon] at h ⊢; rw [hput]; exact ih _ _ hl' h
            | skip => simp only [Oper.upon] at h ⊢; rw [hput]; exact ih _ _ hl' h
            | enter f args =>
              simp only [Oper.upon] at h ⊢
              refine h.mono fun e w'' he => ?_
              cases e with
              | returned v => simp only at he ⊢; rw [hput]; exact ih _ _ hl' he
              | panicked ch => exact he
              | outgrown => obtain ⟨a0, w0, hq⟩ := he; exact ⟨_, _, hq⟩
            | row rw_ args =>
              simp only [Oper.upon] at h ⊢
              refine Rows.mono h fun v w'' he => ?_
              rw [hput]; exact ih _ _ hl' he
            | defer d => simp only [Oper.upon] at h ⊢; have := ih _ _ hl' h; unfold Act.put at this ⊢; cases hdst : o.dst <;> rw [hdst] at this <;> exact this
            | _ => exact (h : False).elim
          | halt x w' => cases x <;> simp only [Oper.upon] at h ⊢ <;> exact h
        · right
          obtain ⟨a0, w0, hq⟩ := h2
          refine ⟨?_, _, _, hq⟩
          have he : execOp ({ a with defers := a.defers ++ ds } : Act).eval o = execOp a.eval o := by
            congr 1
          unfold Oper.asks at h1 ⊢
          rw [he]; exact h1
      · rw [if_neg hw] at h ⊢
        rw [hput]; exact ih _ _ hl' h
  have := key _ a w (fun o ho => calm_of hcm (List.mem_of_mem_drop ho)) k
  rw [hd0, List.nil_append] at this
  exact this

/-- Into a function that holds such a statement. -/
theorem enterM {f : FuncId} (fn : Func) (n : Nat) {args : List Value} {R : Ending → World → Prop} (hf : P.funcs[f]? = some fn)
    (k : ∀ a, EnvOk n a (keepEnv ((List.range args.length).zip args)) → (sub (fn.body.getD .skip) []).wp P (bodyPostM Fence.wide 2 P fn R) a w) (hb : fn.body.isSome = true := by kernel_rfl) (hn : fn.ntmps = n := by kernel_rfl) (hl : decide (args.length ≤ n) = true := by kernel_rfl) : Calls P f args.toArray w R := by
  obtain ⟨B, hb⟩ := Option.isSome_iff_exists.1 hb
  rw [hb] at k
  have hl := of_decide_eq_true hl
  refine callsIn_wide.1 (callsIn_of_wp_marks (F := Fence.wide) (n := 2) hf hb trivial (wpIn_wide.2 ?_) rfl)
  rw [← sub_nil B]
  refine k _ ⟨?_, rfl, fun e he => ?_⟩
  · simp; omega
  · obtain ⟨x, hx, rfl⟩ := List.mem_map.1 he
    obtain ⟨j, hj, rfl⟩ := List.getElem_of_mem hx
    have hj' : j < args.length := by simp at hj; exact hj
    refine ⟨fun _ => ?_, fun hn => (hn (fun l hl => by simp at hl)).elim⟩
    simp only [List.getElem_zip, List.getElem_range]
    rw [Array.getElem?_append_left (by simpa using hj')]
    simp [hj']

/-- A result in a variable of one cell. -/
theorem res_cell {fn : Func} {n : Nat} {env : Env} {o : Orig} {S : Stab} {rs : List Res} (t ty j b : Nat) (e : TypeId) (v : Value) (ha : EnvOk n a env) (H : Fr o w S rs) (hj : rs[j]? = some (.box b e [v]))
    (hr : fn.results = #[.cell t ty]) (hv : getOp env [] (.tmp t) = some (.pointer (some ⟨b, 0, none⟩))) (hl : ∀ w : World, w.cell? ⟨b, 0, none⟩ = some v → (loadVar ty ⟨b, 0, none⟩).run P w = .ok v w) : (results fn a.tmps).run P w = .ok v w := by
  have hnil : chOk a [] := fun l hl => by simp at hl
  have h1 := getOp_ok ha hnil _ _ hv
  simp only [Act.eval, Array.getD_eq_getD_getElem?] at h1
  have hb : w.heap[b]? = some (.cells #[v] e (0, 0)) := H.ok _ (List.mem_of_getElem? hj)
  have hc : w.cell? ⟨b, 0, none⟩ = some v := by rw [cell_of_row w b 0 _ e _ hb]; rfl
  simp [results, hr, h1, asAddr, hl w hc]
theorem ret_M {fn : Func} {R : Ending → World → Prop} {n : Nat} {env : Env} {v : Value} (ha : EnvOk n a env) (hres : (results fn a.tmps).run P w = .ok v w) (k : R (.returned v) w) : bodyPostM Fence.wide 2 P fn R .ret a w := by
  show LeavesInM Fence.wide 2 P fn a.tmps R a.defers .returning w
  rw [ha.2.1]
  exact ⟨v, hres, k⟩
theorem ret_MD {fn : Func} {R : Ending → World → Prop} {v : Value} {D : Nat} {w' : World} {tm : Array Value} (hD : w.heap[D]? = some (.deferred (some []))) (he : w' = w.putObj D (.deferred none)) (hres : (results fn tm).run P w' = .ok v w') (k : R (.returned v) w') : bodyPostM Fence.wide 2 P fn R .ret { tmps := tm, defers := { target := .collected D, args := #[] } :: [] } w := by
  subst he
  exact ⟨by simp, .inl ⟨D, _, rfl, run_takeDeferred hD, v, hres, k⟩⟩
end

/-- What a round turns: cells of the caller's own alone. -/
structure RK (S : Stab) (W w : World) : Prop where
  os : w.os = W.os
  tape : w.tape = W.tape
  output : w.output = W.output
  size : W.heap.size ≤ w.heap.size
  same : ∀ k o, W.heap[k]? = some o → (S k ∨ o.isCells = false) → w.heap[k]? = some o
theorem RK.refl (S : Stab) (W : World) : RK S W W := ⟨rfl, rfl, rfl, Nat.le_refl _, fun _ _ h _ => h⟩
theorem RK.on {S : Stab} {W w w' : World} (h : RK S W w) (hb : Below w.heap.size w w') : RK S W w' :=
  ⟨hb.os.trans h.os, hb.tape.trans h.tape, hb.output.trans h.output, Nat.le_trans h.size hb.size, fun k o hk ho => (hb.block k (Array.getElem?_eq_some_iff.1 (h.same k o hk ho)).1).trans (h.same k o hk ho)⟩
theorem RK.drawn {S : Stab} {W w : World} (h : RK S W w) : RK S W { w with drawn := w.drawn + 1 } := ⟨h.os, h.tape, h.output, h.size, h.same⟩
theorem RK.store {S : Stab} {W w w' : World} {b : Nat} (h : RK S W w) (hb : (∃ c t f, w.heap[b]? = some (.cells c t f)) ∧ ¬ S b) (hg : w.grownBy w' (some b)) : RK S W w' := by
  refine ⟨hg.os.trans h.os, hg.tape.trans h.tape, hg.output.trans h.output, Nat.le_trans h.size hg.size, fun k o hk ho => ?_⟩
  have h1 := h.same k o hk ho
  refine (hg.block k (Array.getElem?_eq_some_iff.1 h1).1 (fun e => ?_)).trans h1
  cases e
  obtain ⟨⟨c, t, f, hc⟩, hS⟩ := hb
  rcases ho with ho | ho
  · exact hS ho
  · rw [hc] at h1; cases h1; cases ho
theorem RK.kf {S : Stab} {W w : World} (h : RK S W w) (B : Nat) : KeepsFrom B W w := ⟨h.size, fun k o _ hk ho => h.same k o hk (.inr ho)⟩
theorem RK.kp {S : Stab} {W w : World} {b : Nat} (h : RK S W w) (hS : S b) (hb : b < W.heap.size) : KpB b W w :=
  ⟨h.os, h.tape, h.output, by rw [h.same b _ (Array.getElem?_eq_getElem hb) (.inl hS), Array.getElem?_eq_getElem hb], h.size, fun k o hk ho => h.same k o hk (.inr (Obj.not_cells_of_walk ho))⟩
theorem Fr.boxAt {o : Orig} {w : World} {S : Stab} {rs : List Res} (H : Fr o w S rs) (j : Nat) {b : Nat} {t : TypeId} {vs : List Value} (hj : rs[j]? = some (.box b t vs)) : (∃ c t f, w.heap[b]? = some (.cells c t f)) ∧ ¬ S b :=
  ⟨⟨_, _, _, H.ok _ (List.mem_of_getElem? hj)⟩, (H.own _ (List.mem_of_getElem? hj) b rfl).2.2⟩

/-- Variables and plain data alone. -/
def Res.calm : Res → Prop
  | .box _ _ _ => True
  | @Res.ro _ _ _ _ => True
  | .iter _ _ _ => False
  | @Res.row _ _ _ _ _ => False
theorem fr_from {o : Orig} {W W' : World} {S : Stab} {rs : List Res} {B : Nat} {row : Option Nat} (hS : ∀ k, S k → k < B) (hoB : o.w.heap.size ≤ B) (hc : ∀ r ∈ rs, r.calm) (H : Fr o W S rs) (hg : W.grownBy W' row) (hr : ∀ r, row = some r → B ≤ r ∧ ∃ ob : Obj, W.heap[r]? = some ob ∧ ob.isCells = false) : Fr o W' S rs where
  below := H.below.trans ⟨hg.os, hg.tape, hg.output, hg.size, fun k hk => hg.block k (Nat.lt_of_lt_of_le hk H.below.size) (fun e => by have := (hr k e.symm).1; omega)⟩
  src := H.src
  inb k hk := Nat.lt_of_lt_of_le (H.inb k hk) hg.size
  ok r hr' := by
    refine Res.ok_keep (H.ok r hr') (fun k hk => hg.block k (H.inb k hk) (fun e => by have := (hr k e.symm).1; have := hS k hk; omega)) (fun b hb => ?_)
    have hcalm := hc r hr'
    cases r with
    | box b' t vs =>
      cases hb
      have hok : W.heap[b]? = some (.cells vs.toArray t (0, 0)) := H.ok _ hr'
      refine hg.block b (Array.getElem?_eq_some_iff.1 hok).1 (fun e => ?_)
      obtain ⟨_, ob, h1, h2⟩ := hr b e.symm
      rw [hok] at h1; cases h1; cases h2
    | ro v a => cases hb
    | iter b' s p => exact hcalm.elim
    | row e v l => exact hcalm.elim
  own r hr' b hb := let ⟨x, y, z⟩ := H.own r hr' b hb; ⟨x, Nat.lt_of_lt_of_le y hg.size, z⟩
  nodup := H.nodup
theorem rangeD {w w' : World} {D : Nat} {row : Option Nat} (hD : w.heap[D]? = some (.deferred (some []))) (hg : w.grownBy w' row) (hne : row ≠ some D) : w'.heap[D]? = some (.deferred (some [])) :=
  (hg.block D (Array.getElem?_eq_some_iff.1 hD).1 (fun e => hne e.symm)).trans hD
/-- A variable is no such block. -/
theorem boxNe {w : World} {D : Nat} {o : Orig} {S : Stab} {rs : List Res} (hD : w.heap[D]? = some (.deferred (some []))) (H : Fr o w S rs) (j : Nat) {b : Nat} {t : TypeId} {vs : List Value} (hj : rs[j]? = some (.box b t vs)) : some b ≠ some D := fun e => by
  have hb : w.heap[b]? = some (.cells vs.toArray t (0, 0)) := H.ok _ (List.mem_of_getElem? hj)
  rw [Option.some.inj e] at hb
  rw [hb] at hD
  cases hD
theorem rangeDB {w w' : World} {D : Nat} (hD : w.heap[D]? = some (.deferred (some []))) (hb : Below w.heap.size w w') : w'.heap[D]? = some (.deferred (some [])) :=
  (hb.block D (Array.getElem?_eq_some_iff.1 hD).1).trans hD

section
variable {P : Program} {Q : Exit → Act → World → Prop} {a : Act} {w : World}
/-- A function's value, with one variable that it has caught. -/
theorem q_func {ops : Array Oper} {N : Act → World → Prop} {n : Nat} {env : Env} {o : Orig} {S : Stab} {rs : List Res} (i d f : Nat) (x : Operand) (u : Value) (keep : List (Nat × Value)) (ha : EnvOk n a env) (H : Fr o w S rs)
    (k : ∀ a', EnvOk n a' (keepEnv ((d, .func (.func f) #[] #[u]) :: keep)) → N a' w)
    (h : opAt ops i = some (.makeFunc (.func f) #[] #[x], some d, none) := by kernel_rfl) (hx : getOp env [] x = some u := by kernel_rfl) (hk : KeepEq n d env keep := by delta KeepEq; kernel_rfl) : wpOp P ops Q i N a w := by
  refine op_at h fun o ho hdst => ?_
  have e2 : (execOp a.eval o).run P w = .ok (.value (.func (.func f) #[] #[u])) w := by
    simp [execOp, ho, Sem.run_bind, getOp_ok ha (fun l hl => by simp at hl) _ _ hx, Instr.makeFunc]
  unfold Oper.wp
  rw [e2, Oper.upon_value]
  exact k _ (env_put keep ha hdst hk)
end
theorem env_round {a : Act} {n : Nat} {env : Env} (t1 t2 : Nat) (v1 v2 : Value) (keep : List (Nat × Value)) (ha : EnvOk n a env)
    (hk : (decide (t1 < n), decide (t2 < n), t1 != t2, keep.map fun x => (x.1 != t1, x.1 != t2, look env x.1)) = (true, true, true, keep.map fun x => (true, true, some ⟨x.1, [], x.2⟩)) := by kernel_rfl) :
    EnvOk n { tmps := ((#[t1, t2] : Array Tmp).zip #[v1, v2]).foldl (fun t (p, v) => t.setIfInBounds p v) a.tmps, defers := [] } (keepEnv ((t2, v2) :: (t1, v1) :: keep)) := by
  obtain ⟨h1, h2⟩ := Prod.mk.inj hk
  obtain ⟨h2, h3⟩ := Prod.mk.inj h2
  obtain ⟨h3, h4⟩ := Prod.mk.inj h3
  have h1 := of_decide_eq_true h1
  have h2 := of_decide_eq_true h2
  have hne : t1 ≠ t2 := by simpa using h3
  have e : ({ tmps := ((#[t1, t2] : Array Tmp).zip #[v1, v2]).foldl (fun t (p, v) => t.setIfInBounds p v) a.tmps, defers := [] } : Act) = (a.put (some t1) v1).put (some t2) v2 := by
    have hd := ha.2.1
    obtain ⟨tm, df⟩ := a
    simp only at hd
    subst hd
    simp [Act.put]
  rw [e]
  have key : ∀ x ∈ keep, x.1 ≠ t1 ∧ x.1 ≠ t2 ∧ look env x.1 = some ⟨x.1, [], x.2⟩ := fun x hx => by
    have := List.map_inj_left.1 h4 x hx
    simp only [Prod.mk.injEq, bne_iff_ne, ne_eq] at this
    exact this
  have k1 := env_set (v := v1) keep ha h1 (fun y hy => ⟨(key y hy).1, (key y hy).2.2⟩)
  refine ⟨by simp [Act.put, ha.1], by exact ha.2.1, fun e he => ?_⟩
  have put2 : ∀ x : Nat × Value, x.1 ≠ t2 → EntOk (a.put (some t1) v1) ⟨x.1, [], x.2⟩ → EntOk ((a.put (some t1) v1).put (some t2) v2) ⟨x.1, [], x.2⟩ := fun x hx he => entOk_put (by simpa using hx) he
  simp only [keepEnv, List.map_cons, List.mem_cons] at he
  rcases he with rfl | rfl | he
  · refine ⟨fun _ => ?_, fun hn => (hn (fun l hl => by simp at hl)).elim⟩
    simp [Act.put, ha.1, h2]
  · exact put2 (t1, v1) hne (k1.2.2 _ (by simp [keepEnv]))
  · obtain ⟨x, hx, rfl⟩ := List.mem_map.1 he
    exact put2 x (key x hx).2.1 (k1.2.2 _ (by simp only [keepEnv, List.map_cons, List.mem_cons]; exact .inr (List.mem_map.2 ⟨x, hx, rfl⟩)))
end Go.Proofs.Ytbdgelipabndaaa
